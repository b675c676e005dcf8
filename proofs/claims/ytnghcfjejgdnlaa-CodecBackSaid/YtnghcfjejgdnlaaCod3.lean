/-
  Layer 2, codec, and the reference: reading byte strings; the law CodecStrings. Conditions: lengths below 2^47.
-/
import Derived.Test.YtnghcfjejgdnlaaCod2
namespace Go.Proofs.Ytnghcfjejgdnlaa
open Go.RowKit

theorem bytes_no0 (bs : List UInt8) (n : Nat) (f : Bool) (a : Int) (hn : n ≤ 140737488355000) (h : ¬ (0 ≤ a ∧ a ≤ n - 2)) : Fresh Try.prog 22 [.ex n f (byA bs), .v (.int .i64 a)] (fun _ => .tp [.v (.slice none 0 0), .v (.int .i64 0), .v (.bool false)]) [] := by
  refine Fresh.of (fn := Try.f22) Try.func22 rfl (Nat.le_of_ble_eq_true rfl) fun w => ?_
  ((with_reducible refine Gol.seq ?_); (with_reducible apply Gol.region); apply Trc.step rfl rfl; exact wnt_n rfl; (with_reducible apply s_assign); exact rfl
   dsimp only [Nat.reduceAdd, Nat.reduceMul, Nat.reduceSub, List.nil_append, List.cons_append, nbk, List.map_cons, List.map_nil]; apply Trc.step rfl rfl
   exact wnt_n rfl; (with_reducible apply s_assign); exact rfl; dsimp only [Nat.reduceAdd, Nat.reduceMul, Nat.reduceSub, List.nil_append, List.cons_append, nbk, List.map_cons, List.map_nil]
   apply Trc.step rfl rfl; exact wnt_n rfl; (with_reducible apply s_assign); exact rfl; dsimp only [Nat.reduceAdd, Nat.reduceMul, Nat.reduceSub, List.nil_append, List.cons_append, nbk, List.map_cons, List.map_nil]
   exact Trc.done _ _ _; exact rfl; (with_reducible refine thn_n ?_); (with_reducible refine Gol.seq ?_); (with_reducible apply Gol.region); apply Trc.step rfl rfl
   exact wnt_n rfl; (with_reducible apply s_move); exact rfl; dsimp only [Nat.reduceAdd, Nat.reduceMul, Nat.reduceSub, List.nil_append, List.cons_append, nbk, List.map_cons, List.map_nil]
   apply Trc.step rfl rfl; exact wnt_n rfl; (with_reducible apply s_move); exact rfl; dsimp only [Nat.reduceAdd, Nat.reduceMul, Nat.reduceSub, List.nil_append, List.cons_append, nbk, List.map_cons, List.map_nil]
   apply Trc.step rfl rfl; exact wnt_n rfl; apply s_call (f := 18) rfl; apply evs.cons rfl; apply evs.cons rfl; apply evs.cons rfl
   exact evs.nil; apply ArgL.cons; exact arg_clo; apply ArgL.cons; exact arg_clo; apply ArgL.cons; exact arg_clo; exact ArgL.nil; exact uint_no bs n _ a 2 hn (by omega)
   exact Nat.le_of_ble_eq_true rfl; dsimp only [Nat.reduceAdd, Nat.reduceMul, Nat.reduceSub, List.nil_append, List.cons_append, nbk, List.map_cons, List.map_nil]
   apply Trc.step rfl rfl; exact wnt_n rfl; (with_reducible apply s_move); exact rfl; dsimp only [Nat.reduceAdd, Nat.reduceMul, Nat.reduceSub, List.nil_append, List.cons_append, nbk, List.map_cons, List.map_nil]
   apply Trc.step rfl rfl; exact wnt_n rfl; (with_reducible apply s_extract); exact rfl; exact rfl; dsimp only [Nat.reduceAdd, Nat.reduceMul, Nat.reduceSub, List.nil_append, List.cons_append, nbk, List.map_cons, List.map_nil]
   apply Trc.step rfl rfl; exact wnt_n rfl; (with_reducible apply s_extract); exact rfl; exact rfl; dsimp only [Nat.reduceAdd, Nat.reduceMul, Nat.reduceSub, List.nil_append, List.cons_append, nbk, List.map_cons, List.map_nil]
   apply Trc.step rfl rfl; exact wnt_n rfl; (with_reducible apply s_assign); exact rfl; dsimp only [Nat.reduceAdd, Nat.reduceMul, Nat.reduceSub, List.nil_append, List.cons_append, nbk, List.map_cons, List.map_nil]
   apply Trc.step rfl rfl; exact wnt_n rfl; (with_reducible apply s_assign); exact rfl; dsimp only [Nat.reduceAdd, Nat.reduceMul, Nat.reduceSub, List.nil_append, List.cons_append, nbk, List.map_cons, List.map_nil]
   exact Trc.done _ _ _; exact rfl; (with_reducible refine thn_n ?_); (with_reducible refine Gol.seq ?_); (with_reducible refine Gol.seq ?_); (with_reducible apply Gol.region)
   apply Trc.step rfl rfl; exact wnt_n rfl; (with_reducible apply s_move); exact rfl; dsimp only [Nat.reduceAdd, Nat.reduceMul, Nat.reduceSub, List.nil_append, List.cons_append, nbk, List.map_cons, List.map_nil]
   apply Trc.step rfl rfl; exact wnt_n rfl; (with_reducible apply s_not); exact rfl; dsimp only [Nat.reduceAdd, Nat.reduceMul, Nat.reduceSub, List.nil_append, List.cons_append, nbk, List.map_cons, List.map_nil]
   apply Trc.step rfl rfl; exact wnt_n rfl; (with_reducible apply s_move); exact rfl; dsimp only [Nat.reduceAdd, Nat.reduceMul, Nat.reduceSub, List.nil_append, List.cons_append, nbk, List.map_cons, List.map_nil]
   apply Trc.skip rfl rfl; apply wnt_g; exact rfl; exact rfl; exact rfl; rfl; dsimp only [Nat.reduceAdd, Nat.reduceMul, Nat.reduceSub, List.nil_append, List.cons_append, nbk, List.map_cons, List.map_nil]
   apply Trc.skip rfl rfl; apply wnt_g; exact rfl; exact rfl; exact rfl; rfl; dsimp only [Nat.reduceAdd, Nat.reduceMul, Nat.reduceSub, List.nil_append, List.cons_append, nbk, List.map_cons, List.map_nil]
   apply Trc.skip rfl rfl; apply wnt_g; exact rfl; exact rfl; exact rfl; rfl; dsimp only [Nat.reduceAdd, Nat.reduceMul, Nat.reduceSub, List.nil_append, List.cons_append, nbk, List.map_cons, List.map_nil]
   apply Trc.skip rfl rfl; apply wnt_g; exact rfl; exact rfl; exact rfl; rfl; dsimp only [Nat.reduceAdd, Nat.reduceMul, Nat.reduceSub, List.nil_append, List.cons_append, nbk, List.map_cons, List.map_nil]
   apply Trc.skip rfl rfl; apply wnt_g; exact rfl; exact rfl; exact rfl; rfl; dsimp only [Nat.reduceAdd, Nat.reduceMul, Nat.reduceSub, List.nil_append, List.cons_append, nbk, List.map_cons, List.map_nil]
   apply Trc.skip rfl rfl; apply wnt_g; exact rfl; exact rfl; exact rfl; rfl; dsimp only [Nat.reduceAdd, Nat.reduceMul, Nat.reduceSub, List.nil_append, List.cons_append, nbk, List.map_cons, List.map_nil]
   apply Trc.skip rfl rfl; apply wnt_g; exact rfl; exact rfl; exact rfl; rfl; dsimp only [Nat.reduceAdd, Nat.reduceMul, Nat.reduceSub, List.nil_append, List.cons_append, nbk, List.map_cons, List.map_nil]
   apply Trc.step rfl rfl; exact wnt_n rfl; (with_reducible apply s_pick_t); exact rfl; rfl; exact rfl; dsimp only [Nat.reduceAdd, Nat.reduceMul, Nat.reduceSub, List.nil_append, List.cons_append, nbk, List.map_cons, List.map_nil]
   exact Trc.done _ _ _; exact rfl; (with_reducible refine thn_n ?_))
  refine Gol.cond_t rfl rfl ?_
  ((with_reducible refine Gol.seq ?_); (with_reducible apply Gol.region); apply Trc.step rfl rfl; exact wnt_n rfl; (with_reducible apply s_assign); exact rfl
   dsimp only [Nat.reduceAdd, Nat.reduceMul, Nat.reduceSub, List.nil_append, List.cons_append, nbk, List.map_cons, List.map_nil]; apply Trc.step rfl rfl
   exact wnt_n rfl; (with_reducible apply s_assign); exact rfl; dsimp only [Nat.reduceAdd, Nat.reduceMul, Nat.reduceSub, List.nil_append, List.cons_append, nbk, List.map_cons, List.map_nil]
   apply Trc.step rfl rfl; exact wnt_n rfl; (with_reducible apply s_assign); exact rfl; dsimp only [Nat.reduceAdd, Nat.reduceMul, Nat.reduceSub, List.nil_append, List.cons_append, nbk, List.map_cons, List.map_nil]
   exact Trc.done _ _ _; exact rfl; (with_reducible refine thn_n ?_); (with_reducible refine Gol.ret ?_); (with_reducible refine thn_r ?_))
  (apply RetQ.mk (by first | exact .inr rfl | exact .inl rfl); apply res_3 rfl; exact res_tmp rfl; exact res_tmp rfl; exact res_tmp rfl; exact out_val)
theorem refBytes_no0 (bs : List UInt8) (n : Nat) (f : Bool) (a : Int) (hl : bs.length = n) (hn : n ≤ 140737488355000) (h : ¬ (0 ≤ a ∧ a ≤ n - 2)) : Fresh Try.prog 23 [.ex n f (byA bs), .v (.int .i64 a)] (fun _ => .tp [.v (.slice none 0 0), .v (.int .i64 0), .v (.bool false)]) [] := by
  refine Fresh.of (fn := Try.f23) Try.func23 rfl (Nat.le_of_ble_eq_true rfl) fun w => ?_
  ((with_reducible refine Gol.seq ?_); (with_reducible apply Gol.region); apply Trc.step rfl rfl; exact wnt_n rfl; (with_reducible apply s_assign); exact rfl
   dsimp only [Nat.reduceAdd, Nat.reduceMul, Nat.reduceSub, List.nil_append, List.cons_append, nbk, List.map_cons, List.map_nil]; apply Trc.step rfl rfl
   exact wnt_n rfl; (with_reducible apply s_assign); exact rfl; dsimp only [Nat.reduceAdd, Nat.reduceMul, Nat.reduceSub, List.nil_append, List.cons_append, nbk, List.map_cons, List.map_nil]
   apply Trc.step rfl rfl; exact wnt_n rfl; (with_reducible apply s_assign); exact rfl; dsimp only [Nat.reduceAdd, Nat.reduceMul, Nat.reduceSub, List.nil_append, List.cons_append, nbk, List.map_cons, List.map_nil]
   exact Trc.done _ _ _; exact rfl; (with_reducible refine thn_n ?_); (with_reducible refine Gol.seq ?_); (with_reducible apply Gol.region); apply Trc.step rfl rfl
   exact wnt_n rfl; (with_reducible apply s_move); exact rfl; dsimp only [Nat.reduceAdd, Nat.reduceMul, Nat.reduceSub, List.nil_append, List.cons_append, nbk, List.map_cons, List.map_nil]
   apply Trc.step rfl rfl; exact wnt_n rfl; (with_reducible apply s_move); exact rfl; dsimp only [Nat.reduceAdd, Nat.reduceMul, Nat.reduceSub, List.nil_append, List.cons_append, nbk, List.map_cons, List.map_nil]
   apply Trc.step rfl rfl; exact wnt_n rfl; apply s_call (f := 19) rfl; apply evs.cons rfl; apply evs.cons rfl; apply evs.cons rfl
   exact evs.nil; apply ArgL.cons; exact arg_clo; apply ArgL.cons; exact arg_clo; apply ArgL.cons; exact arg_clo; exact ArgL.nil; exact refUint_no bs n _ a 2 hl hn (by omega)
   exact Nat.le_of_ble_eq_true rfl; dsimp only [Nat.reduceAdd, Nat.reduceMul, Nat.reduceSub, List.nil_append, List.cons_append, nbk, List.map_cons, List.map_nil]
   apply Trc.step rfl rfl; exact wnt_n rfl; (with_reducible apply s_move); exact rfl; dsimp only [Nat.reduceAdd, Nat.reduceMul, Nat.reduceSub, List.nil_append, List.cons_append, nbk, List.map_cons, List.map_nil]
   apply Trc.step rfl rfl; exact wnt_n rfl; (with_reducible apply s_extract); exact rfl; exact rfl; dsimp only [Nat.reduceAdd, Nat.reduceMul, Nat.reduceSub, List.nil_append, List.cons_append, nbk, List.map_cons, List.map_nil]
   apply Trc.step rfl rfl; exact wnt_n rfl; (with_reducible apply s_extract); exact rfl; exact rfl; dsimp only [Nat.reduceAdd, Nat.reduceMul, Nat.reduceSub, List.nil_append, List.cons_append, nbk, List.map_cons, List.map_nil]
   apply Trc.step rfl rfl; exact wnt_n rfl; (with_reducible apply s_assign); exact rfl; dsimp only [Nat.reduceAdd, Nat.reduceMul, Nat.reduceSub, List.nil_append, List.cons_append, nbk, List.map_cons, List.map_nil]
   apply Trc.step rfl rfl; exact wnt_n rfl; (with_reducible apply s_assign); exact rfl; dsimp only [Nat.reduceAdd, Nat.reduceMul, Nat.reduceSub, List.nil_append, List.cons_append, nbk, List.map_cons, List.map_nil]
   exact Trc.done _ _ _; exact rfl; (with_reducible refine thn_n ?_); (with_reducible refine Gol.seq ?_); (with_reducible refine Gol.seq ?_); (with_reducible apply Gol.region)
   apply Trc.step rfl rfl; exact wnt_n rfl; (with_reducible apply s_move); exact rfl; dsimp only [Nat.reduceAdd, Nat.reduceMul, Nat.reduceSub, List.nil_append, List.cons_append, nbk, List.map_cons, List.map_nil]
   apply Trc.step rfl rfl; exact wnt_n rfl; (with_reducible apply s_not); exact rfl; dsimp only [Nat.reduceAdd, Nat.reduceMul, Nat.reduceSub, List.nil_append, List.cons_append, nbk, List.map_cons, List.map_nil]
   apply Trc.step rfl rfl; exact wnt_n rfl; (with_reducible apply s_move); exact rfl; dsimp only [Nat.reduceAdd, Nat.reduceMul, Nat.reduceSub, List.nil_append, List.cons_append, nbk, List.map_cons, List.map_nil]
   apply Trc.skip rfl rfl; apply wnt_g; exact rfl; exact rfl; exact rfl; rfl; dsimp only [Nat.reduceAdd, Nat.reduceMul, Nat.reduceSub, List.nil_append, List.cons_append, nbk, List.map_cons, List.map_nil]
   apply Trc.skip rfl rfl; apply wnt_g; exact rfl; exact rfl; exact rfl; rfl; dsimp only [Nat.reduceAdd, Nat.reduceMul, Nat.reduceSub, List.nil_append, List.cons_append, nbk, List.map_cons, List.map_nil]
   apply Trc.skip rfl rfl; apply wnt_g; exact rfl; exact rfl; exact rfl; rfl; dsimp only [Nat.reduceAdd, Nat.reduceMul, Nat.reduceSub, List.nil_append, List.cons_append, nbk, List.map_cons, List.map_nil]
   apply Trc.skip rfl rfl; apply wnt_g; exact rfl; exact rfl; exact rfl; rfl; dsimp only [Nat.reduceAdd, Nat.reduceMul, Nat.reduceSub, List.nil_append, List.cons_append, nbk, List.map_cons, List.map_nil]
   apply Trc.skip rfl rfl; apply wnt_g; exact rfl; exact rfl; exact rfl; rfl; dsimp only [Nat.reduceAdd, Nat.reduceMul, Nat.reduceSub, List.nil_append, List.cons_append, nbk, List.map_cons, List.map_nil]
   apply Trc.skip rfl rfl; apply wnt_g; exact rfl; exact rfl; exact rfl; rfl; dsimp only [Nat.reduceAdd, Nat.reduceMul, Nat.reduceSub, List.nil_append, List.cons_append, nbk, List.map_cons, List.map_nil]
   apply Trc.skip rfl rfl; apply wnt_g; exact rfl; exact rfl; exact rfl; rfl; dsimp only [Nat.reduceAdd, Nat.reduceMul, Nat.reduceSub, List.nil_append, List.cons_append, nbk, List.map_cons, List.map_nil]
   apply Trc.skip rfl rfl; apply wnt_g; exact rfl; exact rfl; exact rfl; rfl; dsimp only [Nat.reduceAdd, Nat.reduceMul, Nat.reduceSub, List.nil_append, List.cons_append, nbk, List.map_cons, List.map_nil]
   apply Trc.step rfl rfl; exact wnt_n rfl; (with_reducible apply s_pick_t); exact rfl; rfl; exact rfl; dsimp only [Nat.reduceAdd, Nat.reduceMul, Nat.reduceSub, List.nil_append, List.cons_append, nbk, List.map_cons, List.map_nil]
   exact Trc.done _ _ _; exact rfl; (with_reducible refine thn_n ?_))
  refine Gol.cond_t rfl rfl ?_
  ((with_reducible refine Gol.seq ?_); (with_reducible apply Gol.region); apply Trc.step rfl rfl; exact wnt_n rfl; (with_reducible apply s_assign); exact rfl
   dsimp only [Nat.reduceAdd, Nat.reduceMul, Nat.reduceSub, List.nil_append, List.cons_append, nbk, List.map_cons, List.map_nil]; apply Trc.step rfl rfl
   exact wnt_n rfl; (with_reducible apply s_assign); exact rfl; dsimp only [Nat.reduceAdd, Nat.reduceMul, Nat.reduceSub, List.nil_append, List.cons_append, nbk, List.map_cons, List.map_nil]
   apply Trc.step rfl rfl; exact wnt_n rfl; (with_reducible apply s_assign); exact rfl; dsimp only [Nat.reduceAdd, Nat.reduceMul, Nat.reduceSub, List.nil_append, List.cons_append, nbk, List.map_cons, List.map_nil]
   exact Trc.done _ _ _; exact rfl; (with_reducible refine thn_n ?_); (with_reducible refine Gol.ret ?_); (with_reducible refine thn_r ?_))
  (apply RetQ.mk (by first | exact .inr rfl | exact .inl rfl); apply res_3 rfl; exact res_tmp rfl; exact res_tmp rfl; exact res_tmp rfl; exact out_val)
theorem uint_yesm (bs : List UInt8) (n : Nat) (f : Bool) (a w m : Nat) (hl : bs.length = n) (hn : n ≤ 140737488355000) (h1 : 1 ≤ w) (h8 : w ≤ 8) (ha : a + w ≤ n) (hm : (rdU ((bs.drop a).take w)).toNat = m) : Fresh Try.prog 18 [.ex n f (byA bs), .v (.int .i64 (a : Int)), .v (.int .i64 (w : Int))] (fun _ => .tp [.v (.int .u64 (m : Int)), .v (.bool true)]) [] := by
  have := uint_yes bs n f a w hl hn h1 h8 ha
  rwa [hm] at this
theorem refUint_yesm (bs : List UInt8) (n : Nat) (f : Bool) (a w m : Nat) (hl : bs.length = n) (hn : n ≤ 140737488355000) (h1 : 1 ≤ w) (h8 : w ≤ 8) (ha : a + w ≤ n) (hm : (rdU ((bs.drop a).take w)).toNat = m) : Fresh Try.prog 19 [.ex n f (byA bs), .v (.int .i64 (a : Int)), .v (.int .i64 (w : Int))] (fun _ => .tp [.v (.int .u64 (m : Int)), .v (.bool true)]) [] := by
  have := refUint_yes bs n f a w hl hn h1 h8 ha
  rwa [hm] at this
theorem bytes_no1 (bs : List UInt8) (n : Nat) (f : Bool) (a m : Nat) (hl : bs.length = n) (hn : n ≤ 140737488355000) (ha : a + 2 ≤ n) (hm : (rdU ((bs.drop a).take 2)).toNat = m) (h : n < a + 2 + m) : Fresh Try.prog 22 [.ex n f (byA bs), .v (.int .i64 (a : Int))] (fun _ => .tp [.v (.slice none 0 0), .v (.int .i64 0), .v (.bool false)]) [] := by
  have hv := rdU2_lt bs a
  rw [hm] at hv
  have hf : decide (0 ≤ (a : Int) + 2 ∧ (a : Int) + 2 ≤ (n : Int) ∧ (m : Int) ≤ n - ((a : Int) + 2)) = false := by simp; omega
  have hfo := follow_ok n f (byA bs) ((a + 2 : Nat) : Int) m hn
  have e : ((a + 2 : Nat) : Int) = (a : Int) + 2 := by omega
  rw [e, hf, ← e] at hfo
  refine Fresh.of (fn := Try.f22) Try.func22 rfl (Nat.le_of_ble_eq_true rfl) fun w => ?_
  ((with_reducible refine Gol.seq ?_); (with_reducible apply Gol.region); apply Trc.step rfl rfl; exact wnt_n rfl; (with_reducible apply s_assign); exact rfl
   dsimp only [Nat.reduceAdd, Nat.reduceMul, Nat.reduceSub, List.nil_append, List.cons_append, nbk, List.map_cons, List.map_nil]; apply Trc.step rfl rfl
   exact wnt_n rfl; (with_reducible apply s_assign); exact rfl; dsimp only [Nat.reduceAdd, Nat.reduceMul, Nat.reduceSub, List.nil_append, List.cons_append, nbk, List.map_cons, List.map_nil]
   apply Trc.step rfl rfl; exact wnt_n rfl; (with_reducible apply s_assign); exact rfl; dsimp only [Nat.reduceAdd, Nat.reduceMul, Nat.reduceSub, List.nil_append, List.cons_append, nbk, List.map_cons, List.map_nil]
   exact Trc.done _ _ _; exact rfl; (with_reducible refine thn_n ?_); (with_reducible refine Gol.seq ?_); (with_reducible apply Gol.region); apply Trc.step rfl rfl
   exact wnt_n rfl; (with_reducible apply s_move); exact rfl; dsimp only [Nat.reduceAdd, Nat.reduceMul, Nat.reduceSub, List.nil_append, List.cons_append, nbk, List.map_cons, List.map_nil]
   apply Trc.step rfl rfl; exact wnt_n rfl; (with_reducible apply s_move); exact rfl; dsimp only [Nat.reduceAdd, Nat.reduceMul, Nat.reduceSub, List.nil_append, List.cons_append, nbk, List.map_cons, List.map_nil]
   apply Trc.step rfl rfl; exact wnt_n rfl; apply s_call (f := 18) rfl; apply evs.cons rfl; apply evs.cons rfl; apply evs.cons rfl
   exact evs.nil; apply ArgL.cons; exact arg_clo; apply ArgL.cons; exact arg_clo; apply ArgL.cons; exact arg_clo; exact ArgL.nil; exact uint_yesm bs n f a 2 m hl hn (by decide) (by decide) ha hm
   exact Nat.le_of_ble_eq_true rfl; dsimp only [Nat.reduceAdd, Nat.reduceMul, Nat.reduceSub, List.nil_append, List.cons_append, nbk, List.map_cons, List.map_nil]
   apply Trc.step rfl rfl; exact wnt_n rfl; (with_reducible apply s_move); exact rfl; dsimp only [Nat.reduceAdd, Nat.reduceMul, Nat.reduceSub, List.nil_append, List.cons_append, nbk, List.map_cons, List.map_nil]
   apply Trc.step rfl rfl; exact wnt_n rfl; (with_reducible apply s_extract); exact rfl; exact rfl; dsimp only [Nat.reduceAdd, Nat.reduceMul, Nat.reduceSub, List.nil_append, List.cons_append, nbk, List.map_cons, List.map_nil]
   apply Trc.step rfl rfl; exact wnt_n rfl; (with_reducible apply s_extract); exact rfl; exact rfl; dsimp only [Nat.reduceAdd, Nat.reduceMul, Nat.reduceSub, List.nil_append, List.cons_append, nbk, List.map_cons, List.map_nil]
   apply Trc.step rfl rfl; exact wnt_n rfl; (with_reducible apply s_assign); exact rfl; dsimp only [Nat.reduceAdd, Nat.reduceMul, Nat.reduceSub, List.nil_append, List.cons_append, nbk, List.map_cons, List.map_nil]
   apply Trc.step rfl rfl; exact wnt_n rfl; (with_reducible apply s_assign); exact rfl; dsimp only [Nat.reduceAdd, Nat.reduceMul, Nat.reduceSub, List.nil_append, List.cons_append, nbk, List.map_cons, List.map_nil]
   exact Trc.done _ _ _; exact rfl; (with_reducible refine thn_n ?_); (with_reducible refine Gol.seq ?_); (with_reducible refine Gol.seq ?_); (with_reducible apply Gol.region)
   apply Trc.step rfl rfl; exact wnt_n rfl; (with_reducible apply s_move); exact rfl; dsimp only [Nat.reduceAdd, Nat.reduceMul, Nat.reduceSub, List.nil_append, List.cons_append, nbk, List.map_cons, List.map_nil]
   apply Trc.step rfl rfl; exact wnt_n rfl; (with_reducible apply s_not); exact rfl; dsimp only [Nat.reduceAdd, Nat.reduceMul, Nat.reduceSub, List.nil_append, List.cons_append, nbk, List.map_cons, List.map_nil]
   apply Trc.step rfl rfl; exact wnt_n rfl; (with_reducible apply s_move); exact rfl; dsimp only [Nat.reduceAdd, Nat.reduceMul, Nat.reduceSub, List.nil_append, List.cons_append, nbk, List.map_cons, List.map_nil]
   apply Trc.step rfl rfl; apply wnt_g; exact rfl; exact rfl; exact rfl; rfl; (with_reducible apply s_move); exact rfl; dsimp only [Nat.reduceAdd, Nat.reduceMul, Nat.reduceSub, List.nil_append, List.cons_append, nbk, List.map_cons, List.map_nil]
   apply Trc.step rfl rfl; apply wnt_g; exact rfl; exact rfl; exact rfl; rfl; (with_reducible apply s_move); exact rfl; dsimp only [Nat.reduceAdd, Nat.reduceMul, Nat.reduceSub, List.nil_append, List.cons_append, nbk, List.map_cons, List.map_nil]
   apply Trc.step rfl rfl; apply wnt_g; exact rfl; exact rfl; exact rfl; rfl; (with_reducible apply s_addn); exact rfl; exact rfl; simp <;> omega; dsimp only [Nat.reduceAdd, Nat.reduceMul, Nat.reduceSub, List.nil_append, List.cons_append, nbk, List.map_cons, List.map_nil]
   apply Trc.step rfl rfl; apply wnt_g; exact rfl; exact rfl; exact rfl; rfl; (with_reducible apply s_move); exact rfl; dsimp only [Nat.reduceAdd, Nat.reduceMul, Nat.reduceSub, List.nil_append, List.cons_append, nbk, List.map_cons, List.map_nil]
   apply Trc.step rfl rfl; apply wnt_g; exact rfl; exact rfl; exact rfl; rfl; (with_reducible apply s_ci64); exact rfl; omega; dsimp only [Nat.reduceAdd, Nat.reduceMul, Nat.reduceSub, List.nil_append, List.cons_append, nbk, List.map_cons, List.map_nil]
   apply Trc.step rfl rfl; apply wnt_g; exact rfl; exact rfl; exact rfl; rfl; apply s_call (f := 29) rfl; apply evs.cons rfl; apply evs.cons rfl
   apply evs.cons rfl; exact evs.nil; apply ArgL.cons; exact arg_clo; apply ArgL.cons; exact arg_clo; apply ArgL.cons; exact arg_clo; exact ArgL.nil; exact hfo
   exact Nat.le_of_ble_eq_true rfl; dsimp only [Nat.reduceAdd, Nat.reduceMul, Nat.reduceSub, List.nil_append, List.cons_append, nbk, List.map_cons, List.map_nil]
   apply Trc.step rfl rfl; apply wnt_g; exact rfl; exact rfl; exact rfl; rfl; (with_reducible apply s_not); exact rfl; dsimp only [Nat.reduceAdd, Nat.reduceMul, Nat.reduceSub, List.nil_append, List.cons_append, nbk, List.map_cons, List.map_nil]
   apply Trc.step rfl rfl; exact wnt_n rfl; (with_reducible apply s_pick_f); exact rfl; rfl; exact rfl; dsimp only [Nat.reduceAdd, Nat.reduceMul, Nat.reduceSub, List.nil_append, List.cons_append, nbk, List.map_cons, List.map_nil]
   exact Trc.done _ _ _; exact rfl; (with_reducible refine thn_n ?_))
  refine Gol.cond_t rfl rfl ?_
  ((with_reducible refine Gol.seq ?_); (with_reducible apply Gol.region); apply Trc.step rfl rfl; exact wnt_n rfl; (with_reducible apply s_assign); exact rfl
   dsimp only [Nat.reduceAdd, Nat.reduceMul, Nat.reduceSub, List.nil_append, List.cons_append, nbk, List.map_cons, List.map_nil]; apply Trc.step rfl rfl
   exact wnt_n rfl; (with_reducible apply s_assign); exact rfl; dsimp only [Nat.reduceAdd, Nat.reduceMul, Nat.reduceSub, List.nil_append, List.cons_append, nbk, List.map_cons, List.map_nil]
   apply Trc.step rfl rfl; exact wnt_n rfl; (with_reducible apply s_assign); exact rfl; dsimp only [Nat.reduceAdd, Nat.reduceMul, Nat.reduceSub, List.nil_append, List.cons_append, nbk, List.map_cons, List.map_nil]
   exact Trc.done _ _ _; exact rfl; (with_reducible refine thn_n ?_); (with_reducible refine Gol.ret ?_); (with_reducible refine thn_r ?_))
  (apply RetQ.mk (by first | exact .inr rfl | exact .inl rfl); apply res_3 rfl; exact res_tmp rfl; exact res_tmp rfl; exact res_tmp rfl; exact out_val)
theorem refBytes_no1 (bs : List UInt8) (n : Nat) (f : Bool) (a m : Nat) (hl : bs.length = n) (hn : n ≤ 140737488355000) (ha : a + 2 ≤ n) (hm : (rdU ((bs.drop a).take 2)).toNat = m) (h : n < a + 2 + m) : Fresh Try.prog 23 [.ex n f (byA bs), .v (.int .i64 (a : Int))] (fun _ => .tp [.v (.slice none 0 0), .v (.int .i64 0), .v (.bool false)]) [] := by
  have hv := rdU2_lt bs a
  rw [hm] at hv
  have h4 : n - a - 2 < m := by omega
  refine Fresh.of (fn := Try.f23) Try.func23 rfl (Nat.le_of_ble_eq_true rfl) fun w => ?_
  ((with_reducible refine Gol.seq ?_); (with_reducible apply Gol.region); apply Trc.step rfl rfl; exact wnt_n rfl; (with_reducible apply s_assign); exact rfl
   dsimp only [Nat.reduceAdd, Nat.reduceMul, Nat.reduceSub, List.nil_append, List.cons_append, nbk, List.map_cons, List.map_nil]; apply Trc.step rfl rfl
   exact wnt_n rfl; (with_reducible apply s_assign); exact rfl; dsimp only [Nat.reduceAdd, Nat.reduceMul, Nat.reduceSub, List.nil_append, List.cons_append, nbk, List.map_cons, List.map_nil]
   apply Trc.step rfl rfl; exact wnt_n rfl; (with_reducible apply s_assign); exact rfl; dsimp only [Nat.reduceAdd, Nat.reduceMul, Nat.reduceSub, List.nil_append, List.cons_append, nbk, List.map_cons, List.map_nil]
   exact Trc.done _ _ _; exact rfl; (with_reducible refine thn_n ?_); (with_reducible refine Gol.seq ?_); (with_reducible apply Gol.region); apply Trc.step rfl rfl
   exact wnt_n rfl; (with_reducible apply s_move); exact rfl; dsimp only [Nat.reduceAdd, Nat.reduceMul, Nat.reduceSub, List.nil_append, List.cons_append, nbk, List.map_cons, List.map_nil]
   apply Trc.step rfl rfl; exact wnt_n rfl; (with_reducible apply s_move); exact rfl; dsimp only [Nat.reduceAdd, Nat.reduceMul, Nat.reduceSub, List.nil_append, List.cons_append, nbk, List.map_cons, List.map_nil]
   apply Trc.step rfl rfl; exact wnt_n rfl; apply s_call (f := 19) rfl; apply evs.cons rfl; apply evs.cons rfl; apply evs.cons rfl
   exact evs.nil; apply ArgL.cons; exact arg_clo; apply ArgL.cons; exact arg_clo; apply ArgL.cons; exact arg_clo; exact ArgL.nil; exact refUint_yesm bs n f a 2 m hl hn (by decide) (by decide) ha hm
   exact Nat.le_of_ble_eq_true rfl; dsimp only [Nat.reduceAdd, Nat.reduceMul, Nat.reduceSub, List.nil_append, List.cons_append, nbk, List.map_cons, List.map_nil]
   apply Trc.step rfl rfl; exact wnt_n rfl; (with_reducible apply s_move); exact rfl; dsimp only [Nat.reduceAdd, Nat.reduceMul, Nat.reduceSub, List.nil_append, List.cons_append, nbk, List.map_cons, List.map_nil]
   apply Trc.step rfl rfl; exact wnt_n rfl; (with_reducible apply s_extract); exact rfl; exact rfl; dsimp only [Nat.reduceAdd, Nat.reduceMul, Nat.reduceSub, List.nil_append, List.cons_append, nbk, List.map_cons, List.map_nil]
   apply Trc.step rfl rfl; exact wnt_n rfl; (with_reducible apply s_extract); exact rfl; exact rfl; dsimp only [Nat.reduceAdd, Nat.reduceMul, Nat.reduceSub, List.nil_append, List.cons_append, nbk, List.map_cons, List.map_nil]
   apply Trc.step rfl rfl; exact wnt_n rfl; (with_reducible apply s_assign); exact rfl; dsimp only [Nat.reduceAdd, Nat.reduceMul, Nat.reduceSub, List.nil_append, List.cons_append, nbk, List.map_cons, List.map_nil]
   apply Trc.step rfl rfl; exact wnt_n rfl; (with_reducible apply s_assign); exact rfl; dsimp only [Nat.reduceAdd, Nat.reduceMul, Nat.reduceSub, List.nil_append, List.cons_append, nbk, List.map_cons, List.map_nil]
   exact Trc.done _ _ _; exact rfl; (with_reducible refine thn_n ?_); (with_reducible refine Gol.seq ?_); (with_reducible refine Gol.seq ?_); (with_reducible apply Gol.region)
   apply Trc.step rfl rfl; exact wnt_n rfl; (with_reducible apply s_move); exact rfl; dsimp only [Nat.reduceAdd, Nat.reduceMul, Nat.reduceSub, List.nil_append, List.cons_append, nbk, List.map_cons, List.map_nil]
   apply Trc.step rfl rfl; exact wnt_n rfl; (with_reducible apply s_not); exact rfl; dsimp only [Nat.reduceAdd, Nat.reduceMul, Nat.reduceSub, List.nil_append, List.cons_append, nbk, List.map_cons, List.map_nil]
   apply Trc.step rfl rfl; exact wnt_n rfl; (with_reducible apply s_move); exact rfl; dsimp only [Nat.reduceAdd, Nat.reduceMul, Nat.reduceSub, List.nil_append, List.cons_append, nbk, List.map_cons, List.map_nil]
   apply Trc.step rfl rfl; apply wnt_g; exact rfl; exact rfl; exact rfl; rfl; (with_reducible apply s_move); exact rfl; dsimp only [Nat.reduceAdd, Nat.reduceMul, Nat.reduceSub, List.nil_append, List.cons_append, nbk, List.map_cons, List.map_nil]
   apply Trc.step rfl rfl; apply wnt_g; exact rfl; exact rfl; exact rfl; rfl; (with_reducible apply s_ci64); exact rfl; omega; dsimp only [Nat.reduceAdd, Nat.reduceMul, Nat.reduceSub, List.nil_append, List.cons_append, nbk, List.map_cons, List.map_nil]
   apply Trc.step rfl rfl; apply wnt_g; exact rfl; exact rfl; exact rfl; rfl; (with_reducible apply s_move); exact rfl; dsimp only [Nat.reduceAdd, Nat.reduceMul, Nat.reduceSub, List.nil_append, List.cons_append, nbk, List.map_cons, List.map_nil]
   apply Trc.step rfl rfl; apply wnt_g; exact rfl; exact rfl; exact rfl; rfl; (with_reducible apply s_len); exact rfl; exact ln_ex; dsimp only [Nat.reduceAdd, Nat.reduceMul, Nat.reduceSub, List.nil_append, List.cons_append, nbk, List.map_cons, List.map_nil]
   apply Trc.step rfl rfl; apply wnt_g; exact rfl; exact rfl; exact rfl; rfl; (with_reducible apply s_move); exact rfl; dsimp only [Nat.reduceAdd, Nat.reduceMul, Nat.reduceSub, List.nil_append, List.cons_append, nbk, List.map_cons, List.map_nil]
   apply Trc.step rfl rfl; apply wnt_g; exact rfl; exact rfl; exact rfl; rfl; (with_reducible apply s_subn); exact rfl; exact rfl; omega; omega; dsimp only [Nat.reduceAdd, Nat.reduceMul, Nat.reduceSub, List.nil_append, List.cons_append, nbk, List.map_cons, List.map_nil]
   apply Trc.step rfl rfl; apply wnt_g; exact rfl; exact rfl; exact rfl; rfl; (with_reducible apply s_subn); exact rfl; exact rfl; simp <;> omega; omega
   dsimp only [Nat.reduceAdd, Nat.reduceMul, Nat.reduceSub, List.nil_append, List.cons_append, nbk, List.map_cons, List.map_nil]; apply Trc.step rfl rfl
   apply wnt_g; exact rfl; exact rfl; exact rfl; rfl; (with_reducible apply s_gtn); exact rfl; exact rfl; dsimp only [Nat.reduceAdd, Nat.reduceMul, Nat.reduceSub, List.nil_append, List.cons_append, nbk, List.map_cons, List.map_nil]
   apply Trc.step rfl rfl; exact wnt_n rfl; (with_reducible apply s_pick_f); exact rfl; rfl; exact rfl; dsimp only [Nat.reduceAdd, Nat.reduceMul, Nat.reduceSub, List.nil_append, List.cons_append, nbk, List.map_cons, List.map_nil]
   exact Trc.done _ _ _; exact rfl; (with_reducible refine thn_n ?_))
  refine Gol.cond_t rfl (decide_eq_true h4) ?_
  ((with_reducible refine Gol.seq ?_); (with_reducible apply Gol.region); apply Trc.step rfl rfl; exact wnt_n rfl; (with_reducible apply s_assign); exact rfl
   dsimp only [Nat.reduceAdd, Nat.reduceMul, Nat.reduceSub, List.nil_append, List.cons_append, nbk, List.map_cons, List.map_nil]; apply Trc.step rfl rfl
   exact wnt_n rfl; (with_reducible apply s_assign); exact rfl; dsimp only [Nat.reduceAdd, Nat.reduceMul, Nat.reduceSub, List.nil_append, List.cons_append, nbk, List.map_cons, List.map_nil]
   apply Trc.step rfl rfl; exact wnt_n rfl; (with_reducible apply s_assign); exact rfl; dsimp only [Nat.reduceAdd, Nat.reduceMul, Nat.reduceSub, List.nil_append, List.cons_append, nbk, List.map_cons, List.map_nil]
   exact Trc.done _ _ _; exact rfl; (with_reducible refine thn_n ?_); (with_reducible refine Gol.ret ?_); (with_reducible refine thn_r ?_))
  (apply RetQ.mk (by first | exact .inr rfl | exact .inl rfl); apply res_3 rfl; exact res_tmp rfl; exact res_tmp rfl; exact res_tmp rfl; exact out_val)
theorem bytes_yes (bs : List UInt8) (n : Nat) (f : Bool) (a m : Nat) (hl : bs.length = n) (hn : n ≤ 140737488355000) (hm : (rdU ((bs.drop a).take 2)).toNat = m) (h : a + 2 + m ≤ n) : Fresh Try.prog 22 [.ex n f (byA bs), .v (.int .i64 (a : Int))] (fun k => .tp [.sl k m, .v (.int .i64 ((a + 2 + m : Nat) : Int)), .v (.bool true)]) [⟨byA ((bs.drop (a + 2)).take m), 5, 1⟩] := by
  have hv := rdU2_lt bs a
  rw [hm] at hv
  have hf : decide (0 ≤ (a : Int) + 2 ∧ (a : Int) + 2 ≤ (n : Int) ∧ (m : Int) ≤ n - ((a : Int) + 2)) = true := by simp; omega
  have hfo := follow_ok n f (byA bs) ((a + 2 : Nat) : Int) m hn
  have e : ((a + 2 : Nat) : Int) = (a : Int) + 2 := by omega
  rw [e, hf, ← e] at hfo
  refine Fresh.of (fn := Try.f22) Try.func22 rfl (Nat.le_of_ble_eq_true rfl) fun w => ?_
  ((with_reducible refine Gol.seq ?_); (with_reducible apply Gol.region); apply Trc.step rfl rfl; exact wnt_n rfl; (with_reducible apply s_assign); exact rfl
   dsimp only [Nat.reduceAdd, Nat.reduceMul, Nat.reduceSub, List.nil_append, List.cons_append, nbk, List.map_cons, List.map_nil]; apply Trc.step rfl rfl
   exact wnt_n rfl; (with_reducible apply s_assign); exact rfl; dsimp only [Nat.reduceAdd, Nat.reduceMul, Nat.reduceSub, List.nil_append, List.cons_append, nbk, List.map_cons, List.map_nil]
   apply Trc.step rfl rfl; exact wnt_n rfl; (with_reducible apply s_assign); exact rfl; dsimp only [Nat.reduceAdd, Nat.reduceMul, Nat.reduceSub, List.nil_append, List.cons_append, nbk, List.map_cons, List.map_nil]
   exact Trc.done _ _ _; exact rfl; (with_reducible refine thn_n ?_); (with_reducible refine Gol.seq ?_); (with_reducible apply Gol.region); apply Trc.step rfl rfl
   exact wnt_n rfl; (with_reducible apply s_move); exact rfl; dsimp only [Nat.reduceAdd, Nat.reduceMul, Nat.reduceSub, List.nil_append, List.cons_append, nbk, List.map_cons, List.map_nil]
   apply Trc.step rfl rfl; exact wnt_n rfl; (with_reducible apply s_move); exact rfl; dsimp only [Nat.reduceAdd, Nat.reduceMul, Nat.reduceSub, List.nil_append, List.cons_append, nbk, List.map_cons, List.map_nil]
   apply Trc.step rfl rfl; exact wnt_n rfl; apply s_call (f := 18) rfl; apply evs.cons rfl; apply evs.cons rfl; apply evs.cons rfl
   exact evs.nil; apply ArgL.cons; exact arg_clo; apply ArgL.cons; exact arg_clo; apply ArgL.cons; exact arg_clo; exact ArgL.nil; exact uint_yesm bs n f a 2 m hl hn (by decide) (by decide) (by omega) hm
   exact Nat.le_of_ble_eq_true rfl; dsimp only [Nat.reduceAdd, Nat.reduceMul, Nat.reduceSub, List.nil_append, List.cons_append, nbk, List.map_cons, List.map_nil]
   apply Trc.step rfl rfl; exact wnt_n rfl; (with_reducible apply s_move); exact rfl; dsimp only [Nat.reduceAdd, Nat.reduceMul, Nat.reduceSub, List.nil_append, List.cons_append, nbk, List.map_cons, List.map_nil]
   apply Trc.step rfl rfl; exact wnt_n rfl; (with_reducible apply s_extract); exact rfl; exact rfl; dsimp only [Nat.reduceAdd, Nat.reduceMul, Nat.reduceSub, List.nil_append, List.cons_append, nbk, List.map_cons, List.map_nil]
   apply Trc.step rfl rfl; exact wnt_n rfl; (with_reducible apply s_extract); exact rfl; exact rfl; dsimp only [Nat.reduceAdd, Nat.reduceMul, Nat.reduceSub, List.nil_append, List.cons_append, nbk, List.map_cons, List.map_nil]
   apply Trc.step rfl rfl; exact wnt_n rfl; (with_reducible apply s_assign); exact rfl; dsimp only [Nat.reduceAdd, Nat.reduceMul, Nat.reduceSub, List.nil_append, List.cons_append, nbk, List.map_cons, List.map_nil]
   apply Trc.step rfl rfl; exact wnt_n rfl; (with_reducible apply s_assign); exact rfl; dsimp only [Nat.reduceAdd, Nat.reduceMul, Nat.reduceSub, List.nil_append, List.cons_append, nbk, List.map_cons, List.map_nil]
   exact Trc.done _ _ _; exact rfl; (with_reducible refine thn_n ?_); (with_reducible refine Gol.seq ?_); (with_reducible refine Gol.seq ?_); (with_reducible apply Gol.region)
   apply Trc.step rfl rfl; exact wnt_n rfl; (with_reducible apply s_move); exact rfl; dsimp only [Nat.reduceAdd, Nat.reduceMul, Nat.reduceSub, List.nil_append, List.cons_append, nbk, List.map_cons, List.map_nil]
   apply Trc.step rfl rfl; exact wnt_n rfl; (with_reducible apply s_not); exact rfl; dsimp only [Nat.reduceAdd, Nat.reduceMul, Nat.reduceSub, List.nil_append, List.cons_append, nbk, List.map_cons, List.map_nil]
   apply Trc.step rfl rfl; exact wnt_n rfl; (with_reducible apply s_move); exact rfl; dsimp only [Nat.reduceAdd, Nat.reduceMul, Nat.reduceSub, List.nil_append, List.cons_append, nbk, List.map_cons, List.map_nil]
   apply Trc.step rfl rfl; apply wnt_g; exact rfl; exact rfl; exact rfl; rfl; (with_reducible apply s_move); exact rfl; dsimp only [Nat.reduceAdd, Nat.reduceMul, Nat.reduceSub, List.nil_append, List.cons_append, nbk, List.map_cons, List.map_nil]
   apply Trc.step rfl rfl; apply wnt_g; exact rfl; exact rfl; exact rfl; rfl; (with_reducible apply s_move); exact rfl; dsimp only [Nat.reduceAdd, Nat.reduceMul, Nat.reduceSub, List.nil_append, List.cons_append, nbk, List.map_cons, List.map_nil]
   apply Trc.step rfl rfl; apply wnt_g; exact rfl; exact rfl; exact rfl; rfl; (with_reducible apply s_addn); exact rfl; exact rfl; simp <;> omega; dsimp only [Nat.reduceAdd, Nat.reduceMul, Nat.reduceSub, List.nil_append, List.cons_append, nbk, List.map_cons, List.map_nil]
   apply Trc.step rfl rfl; apply wnt_g; exact rfl; exact rfl; exact rfl; rfl; (with_reducible apply s_move); exact rfl; dsimp only [Nat.reduceAdd, Nat.reduceMul, Nat.reduceSub, List.nil_append, List.cons_append, nbk, List.map_cons, List.map_nil]
   apply Trc.step rfl rfl; apply wnt_g; exact rfl; exact rfl; exact rfl; rfl; (with_reducible apply s_ci64); exact rfl; omega; dsimp only [Nat.reduceAdd, Nat.reduceMul, Nat.reduceSub, List.nil_append, List.cons_append, nbk, List.map_cons, List.map_nil]
   apply Trc.step rfl rfl; apply wnt_g; exact rfl; exact rfl; exact rfl; rfl; apply s_call (f := 29) rfl; apply evs.cons rfl; apply evs.cons rfl
   apply evs.cons rfl; exact evs.nil; apply ArgL.cons; exact arg_clo; apply ArgL.cons; exact arg_clo; apply ArgL.cons; exact arg_clo; exact ArgL.nil; exact hfo
   exact Nat.le_of_ble_eq_true rfl; dsimp only [Nat.reduceAdd, Nat.reduceMul, Nat.reduceSub, List.nil_append, List.cons_append, nbk, List.map_cons, List.map_nil]
   apply Trc.step rfl rfl; apply wnt_g; exact rfl; exact rfl; exact rfl; rfl; (with_reducible apply s_not); exact rfl; dsimp only [Nat.reduceAdd, Nat.reduceMul, Nat.reduceSub, List.nil_append, List.cons_append, nbk, List.map_cons, List.map_nil]
   apply Trc.step rfl rfl; exact wnt_n rfl; (with_reducible apply s_pick_f); exact rfl; rfl; exact rfl; dsimp only [Nat.reduceAdd, Nat.reduceMul, Nat.reduceSub, List.nil_append, List.cons_append, nbk, List.map_cons, List.map_nil]
   exact Trc.done _ _ _; exact rfl; (with_reducible refine thn_n ?_))
  refine Gol.cond_f rfl rfl ?_
  ((with_reducible refine Gol.skip ?_); (with_reducible refine thn_n ?_); (with_reducible refine Gol.seq ?_); (with_reducible apply Gol.region); apply Trc.step rfl rfl
   exact wnt_n rfl; (with_reducible apply s_move); exact rfl; dsimp only [Nat.reduceAdd, Nat.reduceMul, Nat.reduceSub, List.nil_append, List.cons_append, nbk, List.map_cons, List.map_nil]
   apply Trc.step rfl rfl; exact wnt_n rfl; (with_reducible apply s_addn); exact rfl; exact rfl; simp <;> omega; dsimp only [Nat.reduceAdd, Nat.reduceMul, Nat.reduceSub, List.nil_append, List.cons_append, nbk, List.map_cons, List.map_nil]
   apply Trc.step rfl rfl; exact wnt_n rfl; (with_reducible apply s_move); exact rfl; dsimp only [Nat.reduceAdd, Nat.reduceMul, Nat.reduceSub, List.nil_append, List.cons_append, nbk, List.map_cons, List.map_nil]
   apply Trc.step rfl rfl; exact wnt_n rfl; (with_reducible apply s_ci64); exact rfl; omega; dsimp only [Nat.reduceAdd, Nat.reduceMul, Nat.reduceSub, List.nil_append, List.cons_append, nbk, List.map_cons, List.map_nil]
   apply Trc.step rfl rfl; exact wnt_n rfl; (with_reducible apply s_addn); exact rfl; exact rfl; omega; dsimp only [Nat.reduceAdd, Nat.reduceMul, Nat.reduceSub, List.nil_append, List.cons_append, nbk, List.map_cons, List.map_nil]
   apply Trc.step rfl rfl; exact wnt_n rfl; (with_reducible apply s_assign); exact rfl; dsimp only [Nat.reduceAdd, Nat.reduceMul, Nat.reduceSub, List.nil_append, List.cons_append, nbk, List.map_cons, List.map_nil]
   exact Trc.done _ _ _; exact rfl; (with_reducible refine thn_n ?_); (with_reducible refine Gol.seq ?_); (with_reducible apply Gol.region); apply Trc.step rfl rfl
   exact wnt_n rfl; (with_reducible apply s_move); exact rfl; dsimp only [Nat.reduceAdd, Nat.reduceMul, Nat.reduceSub, List.nil_append, List.cons_append, nbk, List.map_cons, List.map_nil]
   apply Trc.step rfl rfl; exact wnt_n rfl; (with_reducible apply s_move); exact rfl; dsimp only [Nat.reduceAdd, Nat.reduceMul, Nat.reduceSub, List.nil_append, List.cons_append, nbk, List.map_cons, List.map_nil]
   apply Trc.step rfl rfl; exact wnt_n rfl; (with_reducible apply s_addn); exact rfl; exact rfl; simp <;> omega; dsimp only [Nat.reduceAdd, Nat.reduceMul, Nat.reduceSub, List.nil_append, List.cons_append, nbk, List.map_cons, List.map_nil]
   apply Trc.step rfl rfl; exact wnt_n rfl; (with_reducible apply s_move); exact rfl; dsimp only [Nat.reduceAdd, Nat.reduceMul, Nat.reduceSub, List.nil_append, List.cons_append, nbk, List.map_cons, List.map_nil]
   apply Trc.step rfl rfl; exact wnt_n rfl; (with_reducible apply s_slE); exact rfl; exact ⟨_, rfl⟩; exact ⟨_, rfl⟩; omega; omega; simp only [byA_length, List.length_append, List.length_cons, List.length_nil, List.length_take, List.length_drop, List.length_replicate, List.length_map, Nat.mul_one, nameB_length, flat_length, List.length_set, inA_length] <;> omega
   dsimp only [Nat.reduceAdd, Nat.reduceMul, Nat.reduceSub, List.nil_append, List.cons_append, nbk, List.map_cons, List.map_nil]; apply Trc.step rfl rfl
   exact wnt_n rfl; (with_reducible apply s_appNil); exact rfl; exact rfl; apply rd_ex; simp only [byA_length, List.length_append, List.length_cons, List.length_nil, List.length_take, List.length_drop, List.length_replicate, List.length_map, Nat.mul_one, nameB_length, flat_length, List.length_set, inA_length] <;> omega
   exact OneL.one; omega; dsimp only [Nat.reduceAdd, Nat.reduceMul, Nat.reduceSub, List.nil_append, List.cons_append, nbk, List.map_cons, List.map_nil]; apply Trc.step rfl rfl
   exact wnt_n rfl; (with_reducible apply s_move); exact rfl; dsimp only [Nat.reduceAdd, Nat.reduceMul, Nat.reduceSub, List.nil_append, List.cons_append, nbk, List.map_cons, List.map_nil]
   apply Trc.step rfl rfl; exact wnt_n rfl; (with_reducible apply s_assign); exact rfl; dsimp only [Nat.reduceAdd, Nat.reduceMul, Nat.reduceSub, List.nil_append, List.cons_append, nbk, List.map_cons, List.map_nil]
   apply Trc.step rfl rfl; exact wnt_n rfl; (with_reducible apply s_assign); exact rfl; dsimp only [Nat.reduceAdd, Nat.reduceMul, Nat.reduceSub, List.nil_append, List.cons_append, nbk, List.map_cons, List.map_nil]
   apply Trc.step rfl rfl; exact wnt_n rfl; (with_reducible apply s_assign); exact rfl; dsimp only [Nat.reduceAdd, Nat.reduceMul, Nat.reduceSub, List.nil_append, List.cons_append, nbk, List.map_cons, List.map_nil]
   exact Trc.done _ _ _; exact rfl; (with_reducible refine thn_n ?_); (with_reducible refine Gol.ret ?_))
  simp only [Nat.add_sub_cancel_left, Nat.mul_one]
  rw [byA_drop, byA_take]
  (apply RetQ.mk (by first | exact .inr rfl | exact .inl rfl); apply res_3 rfl; exact res_tmp rfl; exact res_tmp rfl; exact res_tmp rfl; exact out_tp rfl)
theorem refBytes_yes (bs : List UInt8) (n : Nat) (f : Bool) (a m : Nat) (hl : bs.length = n) (hn : n ≤ 140737488355000) (hm : (rdU ((bs.drop a).take 2)).toNat = m) (h : a + 2 + m ≤ n) : Fresh Try.prog 23 [.ex n f (byA bs), .v (.int .i64 (a : Int))] (fun k => .tp [.sl k m, .v (.int .i64 ((a + 2 + m : Nat) : Int)), .v (.bool true)]) [⟨byA ((bs.drop (a + 2)).take m), 5, 1⟩] := by
  have hv := rdU2_lt bs a
  rw [hm] at hv
  have h4 : ¬ (n - a - 2 < m) := by omega
  refine Fresh.of (fn := Try.f23) Try.func23 rfl (Nat.le_of_ble_eq_true rfl) fun w => ?_
  ((with_reducible refine Gol.seq ?_); (with_reducible apply Gol.region); apply Trc.step rfl rfl; exact wnt_n rfl; (with_reducible apply s_assign); exact rfl
   dsimp only [Nat.reduceAdd, Nat.reduceMul, Nat.reduceSub, List.nil_append, List.cons_append, nbk, List.map_cons, List.map_nil]; apply Trc.step rfl rfl
   exact wnt_n rfl; (with_reducible apply s_assign); exact rfl; dsimp only [Nat.reduceAdd, Nat.reduceMul, Nat.reduceSub, List.nil_append, List.cons_append, nbk, List.map_cons, List.map_nil]
   apply Trc.step rfl rfl; exact wnt_n rfl; (with_reducible apply s_assign); exact rfl; dsimp only [Nat.reduceAdd, Nat.reduceMul, Nat.reduceSub, List.nil_append, List.cons_append, nbk, List.map_cons, List.map_nil]
   exact Trc.done _ _ _; exact rfl; (with_reducible refine thn_n ?_); (with_reducible refine Gol.seq ?_); (with_reducible apply Gol.region); apply Trc.step rfl rfl
   exact wnt_n rfl; (with_reducible apply s_move); exact rfl; dsimp only [Nat.reduceAdd, Nat.reduceMul, Nat.reduceSub, List.nil_append, List.cons_append, nbk, List.map_cons, List.map_nil]
   apply Trc.step rfl rfl; exact wnt_n rfl; (with_reducible apply s_move); exact rfl; dsimp only [Nat.reduceAdd, Nat.reduceMul, Nat.reduceSub, List.nil_append, List.cons_append, nbk, List.map_cons, List.map_nil]
   apply Trc.step rfl rfl; exact wnt_n rfl; apply s_call (f := 19) rfl; apply evs.cons rfl; apply evs.cons rfl; apply evs.cons rfl
   exact evs.nil; apply ArgL.cons; exact arg_clo; apply ArgL.cons; exact arg_clo; apply ArgL.cons; exact arg_clo; exact ArgL.nil; exact refUint_yesm bs n f a 2 m hl hn (by decide) (by decide) (by omega) hm
   exact Nat.le_of_ble_eq_true rfl; dsimp only [Nat.reduceAdd, Nat.reduceMul, Nat.reduceSub, List.nil_append, List.cons_append, nbk, List.map_cons, List.map_nil]
   apply Trc.step rfl rfl; exact wnt_n rfl; (with_reducible apply s_move); exact rfl; dsimp only [Nat.reduceAdd, Nat.reduceMul, Nat.reduceSub, List.nil_append, List.cons_append, nbk, List.map_cons, List.map_nil]
   apply Trc.step rfl rfl; exact wnt_n rfl; (with_reducible apply s_extract); exact rfl; exact rfl; dsimp only [Nat.reduceAdd, Nat.reduceMul, Nat.reduceSub, List.nil_append, List.cons_append, nbk, List.map_cons, List.map_nil]
   apply Trc.step rfl rfl; exact wnt_n rfl; (with_reducible apply s_extract); exact rfl; exact rfl; dsimp only [Nat.reduceAdd, Nat.reduceMul, Nat.reduceSub, List.nil_append, List.cons_append, nbk, List.map_cons, List.map_nil]
   apply Trc.step rfl rfl; exact wnt_n rfl; (with_reducible apply s_assign); exact rfl; dsimp only [Nat.reduceAdd, Nat.reduceMul, Nat.reduceSub, List.nil_append, List.cons_append, nbk, List.map_cons, List.map_nil]
   apply Trc.step rfl rfl; exact wnt_n rfl; (with_reducible apply s_assign); exact rfl; dsimp only [Nat.reduceAdd, Nat.reduceMul, Nat.reduceSub, List.nil_append, List.cons_append, nbk, List.map_cons, List.map_nil]
   exact Trc.done _ _ _; exact rfl; (with_reducible refine thn_n ?_); (with_reducible refine Gol.seq ?_); (with_reducible refine Gol.seq ?_); (with_reducible apply Gol.region)
   apply Trc.step rfl rfl; exact wnt_n rfl; (with_reducible apply s_move); exact rfl; dsimp only [Nat.reduceAdd, Nat.reduceMul, Nat.reduceSub, List.nil_append, List.cons_append, nbk, List.map_cons, List.map_nil]
   apply Trc.step rfl rfl; exact wnt_n rfl; (with_reducible apply s_not); exact rfl; dsimp only [Nat.reduceAdd, Nat.reduceMul, Nat.reduceSub, List.nil_append, List.cons_append, nbk, List.map_cons, List.map_nil]
   apply Trc.step rfl rfl; exact wnt_n rfl; (with_reducible apply s_move); exact rfl; dsimp only [Nat.reduceAdd, Nat.reduceMul, Nat.reduceSub, List.nil_append, List.cons_append, nbk, List.map_cons, List.map_nil]
   apply Trc.step rfl rfl; apply wnt_g; exact rfl; exact rfl; exact rfl; rfl; (with_reducible apply s_move); exact rfl; dsimp only [Nat.reduceAdd, Nat.reduceMul, Nat.reduceSub, List.nil_append, List.cons_append, nbk, List.map_cons, List.map_nil]
   apply Trc.step rfl rfl; apply wnt_g; exact rfl; exact rfl; exact rfl; rfl; (with_reducible apply s_ci64); exact rfl; omega; dsimp only [Nat.reduceAdd, Nat.reduceMul, Nat.reduceSub, List.nil_append, List.cons_append, nbk, List.map_cons, List.map_nil]
   apply Trc.step rfl rfl; apply wnt_g; exact rfl; exact rfl; exact rfl; rfl; (with_reducible apply s_move); exact rfl; dsimp only [Nat.reduceAdd, Nat.reduceMul, Nat.reduceSub, List.nil_append, List.cons_append, nbk, List.map_cons, List.map_nil]
   apply Trc.step rfl rfl; apply wnt_g; exact rfl; exact rfl; exact rfl; rfl; (with_reducible apply s_len); exact rfl; exact ln_ex; dsimp only [Nat.reduceAdd, Nat.reduceMul, Nat.reduceSub, List.nil_append, List.cons_append, nbk, List.map_cons, List.map_nil]
   apply Trc.step rfl rfl; apply wnt_g; exact rfl; exact rfl; exact rfl; rfl; (with_reducible apply s_move); exact rfl; dsimp only [Nat.reduceAdd, Nat.reduceMul, Nat.reduceSub, List.nil_append, List.cons_append, nbk, List.map_cons, List.map_nil]
   apply Trc.step rfl rfl; apply wnt_g; exact rfl; exact rfl; exact rfl; rfl; (with_reducible apply s_subn); exact rfl; exact rfl; omega; omega; dsimp only [Nat.reduceAdd, Nat.reduceMul, Nat.reduceSub, List.nil_append, List.cons_append, nbk, List.map_cons, List.map_nil]
   apply Trc.step rfl rfl; apply wnt_g; exact rfl; exact rfl; exact rfl; rfl; (with_reducible apply s_subn); exact rfl; exact rfl; simp <;> omega; omega
   dsimp only [Nat.reduceAdd, Nat.reduceMul, Nat.reduceSub, List.nil_append, List.cons_append, nbk, List.map_cons, List.map_nil]; apply Trc.step rfl rfl
   apply wnt_g; exact rfl; exact rfl; exact rfl; rfl; (with_reducible apply s_gtn); exact rfl; exact rfl; dsimp only [Nat.reduceAdd, Nat.reduceMul, Nat.reduceSub, List.nil_append, List.cons_append, nbk, List.map_cons, List.map_nil]
   apply Trc.step rfl rfl; exact wnt_n rfl; (with_reducible apply s_pick_f); exact rfl; rfl; exact rfl; dsimp only [Nat.reduceAdd, Nat.reduceMul, Nat.reduceSub, List.nil_append, List.cons_append, nbk, List.map_cons, List.map_nil]
   exact Trc.done _ _ _; exact rfl; (with_reducible refine thn_n ?_))
  refine Gol.cond_f rfl (decide_eq_false h4) ?_
  ((with_reducible refine Gol.skip ?_); (with_reducible refine thn_n ?_); (with_reducible refine Gol.seq ?_); (with_reducible apply Gol.region); apply Trc.step rfl rfl
   exact wnt_n rfl; (with_reducible apply s_move); exact rfl; dsimp only [Nat.reduceAdd, Nat.reduceMul, Nat.reduceSub, List.nil_append, List.cons_append, nbk, List.map_cons, List.map_nil]
   apply Trc.step rfl rfl; exact wnt_n rfl; (with_reducible apply s_addn); exact rfl; exact rfl; simp <;> omega; dsimp only [Nat.reduceAdd, Nat.reduceMul, Nat.reduceSub, List.nil_append, List.cons_append, nbk, List.map_cons, List.map_nil]
   apply Trc.step rfl rfl; exact wnt_n rfl; (with_reducible apply s_move); exact rfl; dsimp only [Nat.reduceAdd, Nat.reduceMul, Nat.reduceSub, List.nil_append, List.cons_append, nbk, List.map_cons, List.map_nil]
   apply Trc.step rfl rfl; exact wnt_n rfl; (with_reducible apply s_ci64); exact rfl; omega; dsimp only [Nat.reduceAdd, Nat.reduceMul, Nat.reduceSub, List.nil_append, List.cons_append, nbk, List.map_cons, List.map_nil]
   apply Trc.step rfl rfl; exact wnt_n rfl; (with_reducible apply s_addn); exact rfl; exact rfl; omega; dsimp only [Nat.reduceAdd, Nat.reduceMul, Nat.reduceSub, List.nil_append, List.cons_append, nbk, List.map_cons, List.map_nil]
   apply Trc.step rfl rfl; exact wnt_n rfl; (with_reducible apply s_assign); exact rfl; dsimp only [Nat.reduceAdd, Nat.reduceMul, Nat.reduceSub, List.nil_append, List.cons_append, nbk, List.map_cons, List.map_nil]
   exact Trc.done _ _ _; exact rfl; (with_reducible refine thn_n ?_); (with_reducible refine Gol.seq ?_); (with_reducible apply Gol.region); apply Trc.step rfl rfl
   exact wnt_n rfl; (with_reducible apply s_bytesP); exact PV.nil; exact rfl; omega; dsimp only [Nat.reduceAdd, Nat.reduceMul, Nat.reduceSub, List.nil_append, List.cons_append, nbk, List.map_cons, List.map_nil]
   apply Trc.step rfl rfl; exact wnt_n rfl; (with_reducible apply s_move); exact rfl; dsimp only [Nat.reduceAdd, Nat.reduceMul, Nat.reduceSub, List.nil_append, List.cons_append, nbk, List.map_cons, List.map_nil]
   apply Trc.step rfl rfl; exact wnt_n rfl; (with_reducible apply s_move); exact rfl; dsimp only [Nat.reduceAdd, Nat.reduceMul, Nat.reduceSub, List.nil_append, List.cons_append, nbk, List.map_cons, List.map_nil]
   apply Trc.step rfl rfl; exact wnt_n rfl; (with_reducible apply s_addn); exact rfl; exact rfl; simp <;> omega; dsimp only [Nat.reduceAdd, Nat.reduceMul, Nat.reduceSub, List.nil_append, List.cons_append, nbk, List.map_cons, List.map_nil]
   apply Trc.step rfl rfl; exact wnt_n rfl; (with_reducible apply s_move); exact rfl; dsimp only [Nat.reduceAdd, Nat.reduceMul, Nat.reduceSub, List.nil_append, List.cons_append, nbk, List.map_cons, List.map_nil]
   apply Trc.step rfl rfl; exact wnt_n rfl; (with_reducible apply s_slE); exact rfl; exact ⟨_, rfl⟩; exact ⟨_, rfl⟩; omega; omega; simp only [byA_length, List.length_append, List.length_cons, List.length_nil, List.length_take, List.length_drop, List.length_replicate, List.length_map, Nat.mul_one, nameB_length, flat_length, List.length_set, inA_length] <;> omega
   dsimp only [Nat.reduceAdd, Nat.reduceMul, Nat.reduceSub, List.nil_append, List.cons_append, nbk, List.map_cons, List.map_nil]; apply Trc.step rfl rfl
   exact wnt_n rfl; (with_reducible apply s_app); exact rfl; exact rfl; exact rfl; apply rd_ex; simp only [byA_length, List.length_append, List.length_cons, List.length_nil, List.length_take, List.length_drop, List.length_replicate, List.length_map, Nat.mul_one, nameB_length, flat_length, List.length_set, inA_length] <;> omega
   rfl; exact rfl; exact rfl; exact OneL.one; omega; dsimp only [Nat.reduceAdd, Nat.reduceMul, Nat.reduceSub, List.nil_append, List.cons_append, nbk, List.map_cons, List.map_nil]
   apply Trc.step rfl rfl; exact wnt_n rfl; (with_reducible apply s_move); exact rfl; dsimp only [Nat.reduceAdd, Nat.reduceMul, Nat.reduceSub, List.nil_append, List.cons_append, nbk, List.map_cons, List.map_nil]
   apply Trc.step rfl rfl; exact wnt_n rfl; (with_reducible apply s_assign); exact rfl; dsimp only [Nat.reduceAdd, Nat.reduceMul, Nat.reduceSub, List.nil_append, List.cons_append, nbk, List.map_cons, List.map_nil]
   apply Trc.step rfl rfl; exact wnt_n rfl; (with_reducible apply s_assign); exact rfl; dsimp only [Nat.reduceAdd, Nat.reduceMul, Nat.reduceSub, List.nil_append, List.cons_append, nbk, List.map_cons, List.map_nil]
   apply Trc.step rfl rfl; exact wnt_n rfl; (with_reducible apply s_assign); exact rfl; dsimp only [Nat.reduceAdd, Nat.reduceMul, Nat.reduceSub, List.nil_append, List.cons_append, nbk, List.map_cons, List.map_nil]
   exact Trc.done _ _ _; exact rfl; (with_reducible refine thn_n ?_); (with_reducible refine Gol.ret ?_))
  simp only [Nat.add_sub_cancel_left, Nat.mul_one, Nat.zero_add]
  rw [byA_drop, byA_take]
  (apply RetQ.mk (by first | exact .inr rfl | exact .inl rfl); apply res_3 rfl; exact res_tmp rfl; exact res_tmp rfl; exact res_tmp rfl; exact out_tp rfl)
/-- a nil result, told as an empty slice of one's own -/
theorem Fresh.nilTp {P : Program} {f : FuncId} {cs us : List AV} (e : TypeId) (sz : Nat) (h : Fresh P f cs (fun _ => .tp (.v (.slice none 0 0) :: us)) []) : Fresh P f cs (fun k => .tp (.sl k 0 :: us)) [⟨[], e, sz⟩] := fun E0 xs hS hD hx => (h E0 xs hS hD hx).mono (by
  rintro en w' ⟨x, ls, rfl, h1, _, _, h4⟩
  refine ⟨x, fun _ => ⟨none, 0⟩, rfl, h1, fun j g _ hg => (by cases hg), fun i j g _ _ hg => (by cases hg), fun k E' hw hS' hD' => ⟨fun j blk hj => ?_, ?_⟩⟩
  · cases j with
    | zero => simp at hj; subst hj; exact .mk_none rfl ⟨rfl, rfl⟩
    | succ j => simp at hj
  · have hr := (h4 k E' hw (fun g hg => by
      rcases hS' g hg with h | ⟨j, _, h⟩
      · exact .inl h
      · cases h) (fun j hj => by simp at hj)).2
    obtain ⟨d1, d2⟩ := hD' 0 (by simp)
    simp only [Nat.add_zero] at d1 d2
    cases hr with
    | tp cs xs hl hx =>
      have hR : RVs E' (.v (.slice none 0 0) :: us) xs.toList := ⟨by simpa using hl, fun j c x hc hx' => hx j c x hc (by simpa using hx')⟩
      obtain ⟨y, ys, hy, r1, r2⟩ := hR.cons_inv
      have hs : RV E' (.sl k 0) (.slice ((E'.L k).g.map fun g => ⟨g, 0, none⟩) 0 (E'.L k).c) := .sl k 0 d1 (Nat.zero_le _)
      rw [d2] at hs
      rw [r1.v_inv] at hy
      have := RVs.cons hs r2
      simp only [Option.map_none] at this
      rw [← hy] at this
      exact .tp _ xs (by simpa using hl) (fun j c x hc hx => this.2 j c x hc (by simpa using hx)))
theorem appBytes_both (bs ps : List UInt8) (n m : Nat) (hn : bs.length = n) (hm : ps.length = m) (h : n ≤ 140737488355000) : ∃ (out : List UInt8) (l : Nat) (ok : Bool), out.length = l ∧ ∀ f g, Fresh Try.prog 16 [.ex n f (byA bs), .ex m g (byA ps)] (fun k => .tp [.sl k l, .v (.bool ok)]) [⟨byA out, 5, 1⟩] ∧ Fresh Try.prog 21 [.ex n f (byA bs), .ex m g (byA ps)] (fun k => .tp [.sl k l, .v (.bool ok)]) [⟨byA out, 5, 1⟩] := by
  by_cases hb : 65535 < m
  · exact ⟨[], 0, false, rfl, fun f g => ⟨.nilTp _ _ (appBytes_no bs ps n m f g hb), .nilTp _ _ (refAppBytes_no bs ps n m f g hb)⟩⟩
  · exact ⟨_, n + 2 + m, true, by simp [hn, hm, beB_length]; omega, fun f g => ⟨appBytes_yes bs ps n m f g hn hm h hb, refAppBytes_yes bs ps n m f g hn hm h hb⟩⟩
theorem bytes_both (bs : List UInt8) (n : Nat) (a : Int) (hn : bs.length = n) (h : n ≤ 140737488355000) : ∃ (out : List UInt8) (l : Nat) (tt : Int) (ok : Bool), out.length = l ∧ ∀ f, Fresh Try.prog 22 [.ex n f (byA bs), .v (.int .i64 a)] (fun k => .tp [.sl k l, .v (.int .i64 tt), .v (.bool ok)]) [⟨byA out, 5, 1⟩] ∧ Fresh Try.prog 23 [.ex n f (byA bs), .v (.int .i64 a)] (fun k => .tp [.sl k l, .v (.int .i64 tt), .v (.bool ok)]) [⟨byA out, 5, 1⟩] := by
  by_cases hb : 0 ≤ a ∧ a ≤ (n : Int) - 2
  · obtain ⟨j, rfl⟩ := Int.eq_ofNat_of_zero_le hb.1
    by_cases hc : j + 2 + (rdU ((bs.drop j).take 2)).toNat ≤ n
    · exact ⟨_, _, _, true, by simp; omega, fun f => ⟨bytes_yes bs n f j _ hn h rfl hc, refBytes_yes bs n f j _ hn h rfl hc⟩⟩
    · exact ⟨[], 0, 0, false, rfl, fun f => ⟨.nilTp _ _ (bytes_no1 bs n f j _ hn h (by omega) rfl (by omega)), .nilTp _ _ (refBytes_no1 bs n f j _ hn h (by omega) rfl (by omega))⟩⟩
  · exact ⟨[], 0, 0, false, rfl, fun f => ⟨.nilTp _ _ (bytes_no0 bs n f a h hb), .nilTp _ _ (refBytes_no0 bs n f a hn h hb)⟩⟩
theorem byA_zeros (n : Nat) : List.replicate (n * 1) (AV.v (.int .u8 0)) = byA (List.replicate n 0) := by
  rw [Nat.mul_one, byA, List.map_replicate]; rfl
theorem codecStrings_ok (bs ps : List UInt8) (ix long : Int) (n m : Nat) (hn : bs.length = n) (hm : ps.length = m) (h : n ≤ 140737488351232) (hm2 : m ≤ 140737488351232) : Fresh Try.prog 6 [.ex n false (byA bs), .ex m false (byA ps), .v (.int .i64 ix), .v (.int .i64 long)] (fun _ => .v (.bool true)) [] := by
  obtain ⟨o2, l2, tt, is, ho2, hB⟩ := bytes_both bs n ix hn (by omega)
  refine Fresh.of (fn := Try.f6) Try.func6 rfl (Nat.le_of_ble_eq_true rfl) fun w => ?_
  ((with_reducible refine Gol.seq ?_); (with_reducible apply Gol.region); apply Trc.step rfl rfl; exact wnt_n rfl; (with_reducible apply s_assign); exact rfl
   dsimp only [Nat.reduceAdd, Nat.reduceMul, Nat.reduceSub, List.nil_append, List.cons_append, nbk, List.map_cons, List.map_nil]; exact Trc.done _ _ _; exact rfl
   (with_reducible refine thn_n ?_); (with_reducible refine Gol.seq ?_); (with_reducible refine Gol.seq ?_); (with_reducible apply Gol.region); apply Trc.step rfl rfl
   exact wnt_n rfl; (with_reducible apply s_move); exact rfl; dsimp only [Nat.reduceAdd, Nat.reduceMul, Nat.reduceSub, List.nil_append, List.cons_append, nbk, List.map_cons, List.map_nil]
   apply Trc.step rfl rfl; exact wnt_n rfl; (with_reducible apply s_rem); exact rfl; exact rfl; omega; dsimp only [Nat.reduceAdd, Nat.reduceMul, Nat.reduceSub, List.nil_append, List.cons_append, nbk, List.map_cons, List.map_nil]
   apply Trc.step rfl rfl; exact wnt_n rfl; (with_reducible apply s_eq); exact rfl; exact rfl; dsimp only [Nat.reduceAdd, Nat.reduceMul, Nat.reduceSub, List.nil_append, List.cons_append, nbk, List.map_cons, List.map_nil]
   exact Trc.done _ _ _; exact rfl; (with_reducible refine thn_n ?_))
  refine Gol.cond rfl (fun hc => ?_) (fun hc => ?_)
  · have hr : (toU64 long).toNat % 3 < 3 := Nat.mod_lt _ (by decide)
    ((with_reducible apply Gol.region); apply Trc.step rfl rfl; exact wnt_n rfl; (with_reducible apply s_move); exact rfl; dsimp only [Nat.reduceAdd, Nat.reduceMul, Nat.reduceSub, List.nil_append, List.cons_append, nbk, List.map_cons, List.map_nil]
     apply Trc.step rfl rfl; exact wnt_n rfl; (with_reducible apply s_cu64); exact rfl; dsimp only [Nat.reduceAdd, Nat.reduceMul, Nat.reduceSub, List.nil_append, List.cons_append, nbk, List.map_cons, List.map_nil]
     apply Trc.step rfl rfl; exact wnt_n rfl; (with_reducible apply s_remn); exact rfl; exact rfl; decide; dsimp only [Nat.reduceAdd, Nat.reduceMul, Nat.reduceSub, List.nil_append, List.cons_append, nbk, List.map_cons, List.map_nil]
     apply Trc.step rfl rfl; exact wnt_n rfl; (with_reducible apply s_ci64); exact rfl; omega; dsimp only [Nat.reduceAdd, Nat.reduceMul, Nat.reduceSub, List.nil_append, List.cons_append, nbk, List.map_cons, List.map_nil]
     apply Trc.step rfl rfl; exact wnt_n rfl; (with_reducible apply s_addn); exact rfl; exact rfl; simp <;> omega; dsimp only [Nat.reduceAdd, Nat.reduceMul, Nat.reduceSub, List.nil_append, List.cons_append, nbk, List.map_cons, List.map_nil]
     apply Trc.step rfl rfl; exact wnt_n rfl; (with_reducible apply s_make); exact rfl; exact rfl; exact rfl; omega; omega; dsimp only [Nat.reduceAdd, Nat.reduceMul, Nat.reduceSub, List.nil_append, List.cons_append, nbk, List.map_cons, List.map_nil]
     apply Trc.step rfl rfl; exact wnt_n rfl; (with_reducible apply s_assign); exact rfl; dsimp only [Nat.reduceAdd, Nat.reduceMul, Nat.reduceSub, List.nil_append, List.cons_append, nbk, List.map_cons, List.map_nil]
     exact Trc.done _ _ _; exact rfl; (with_reducible refine thn_n ?_); (with_reducible refine Gol.seq ?_))
    rw [byA_zeros]
    obtain ⟨o1, l1, ok, ho1, hA⟩ := appBytes_both bs (List.replicate (65534 + (toU64 long).toNat % 3) 0) n (65534 + (toU64 long).toNat % 3) hn (by simp) (by omega)
    ((with_reducible apply Gol.region); apply Trc.step rfl rfl; exact wnt_n rfl; (with_reducible apply s_move); exact rfl; dsimp only [Nat.reduceAdd, Nat.reduceMul, Nat.reduceSub, List.nil_append, List.cons_append, nbk, List.map_cons, List.map_nil]
     apply Trc.step rfl rfl; exact wnt_n rfl; (with_reducible apply s_move); exact rfl; dsimp only [Nat.reduceAdd, Nat.reduceMul, Nat.reduceSub, List.nil_append, List.cons_append, nbk, List.map_cons, List.map_nil]
     apply Trc.step rfl rfl; exact wnt_n rfl; apply s_call (f := 16) rfl; apply evs.cons rfl; apply evs.cons rfl; exact evs.nil
     apply ArgL.cons; exact arg_clo; apply ArgL.cons; exact arg_sl rfl; exact ArgL.nil; exact (hA _ _).1; exact Nat.le_of_ble_eq_true rfl; dsimp only [Nat.reduceAdd, Nat.reduceMul, Nat.reduceSub, List.nil_append, List.cons_append, nbk, List.map_cons, List.map_nil]
     apply Trc.step rfl rfl; exact wnt_n rfl; (with_reducible apply s_move); exact rfl; dsimp only [Nat.reduceAdd, Nat.reduceMul, Nat.reduceSub, List.nil_append, List.cons_append, nbk, List.map_cons, List.map_nil]
     apply Trc.step rfl rfl; exact wnt_n rfl; (with_reducible apply s_extract); exact rfl; exact rfl; dsimp only [Nat.reduceAdd, Nat.reduceMul, Nat.reduceSub, List.nil_append, List.cons_append, nbk, List.map_cons, List.map_nil]
     apply Trc.step rfl rfl; exact wnt_n rfl; (with_reducible apply s_extract); exact rfl; exact rfl; dsimp only [Nat.reduceAdd, Nat.reduceMul, Nat.reduceSub, List.nil_append, List.cons_append, nbk, List.map_cons, List.map_nil]
     apply Trc.step rfl rfl; exact wnt_n rfl; (with_reducible apply s_assign); exact rfl; dsimp only [Nat.reduceAdd, Nat.reduceMul, Nat.reduceSub, List.nil_append, List.cons_append, nbk, List.map_cons, List.map_nil]
     apply Trc.step rfl rfl; exact wnt_n rfl; (with_reducible apply s_assign); exact rfl; dsimp only [Nat.reduceAdd, Nat.reduceMul, Nat.reduceSub, List.nil_append, List.cons_append, nbk, List.map_cons, List.map_nil]
     exact Trc.done _ _ _; exact rfl; (with_reducible refine thn_n ?_); (with_reducible refine Gol.seq ?_); (with_reducible apply Gol.region); apply Trc.step rfl rfl
     exact wnt_n rfl; (with_reducible apply s_move); exact rfl; dsimp only [Nat.reduceAdd, Nat.reduceMul, Nat.reduceSub, List.nil_append, List.cons_append, nbk, List.map_cons, List.map_nil]
     apply Trc.step rfl rfl; exact wnt_n rfl; (with_reducible apply s_move); exact rfl; dsimp only [Nat.reduceAdd, Nat.reduceMul, Nat.reduceSub, List.nil_append, List.cons_append, nbk, List.map_cons, List.map_nil]
     apply Trc.step rfl rfl; exact wnt_n rfl; apply s_call (f := 21) rfl; apply evs.cons rfl; apply evs.cons rfl; exact evs.nil
     apply ArgL.cons; exact arg_clo; apply ArgL.cons; exact arg_sl rfl; exact ArgL.nil; exact (hA _ _).2; exact Nat.le_of_ble_eq_true rfl; dsimp only [Nat.reduceAdd, Nat.reduceMul, Nat.reduceSub, List.nil_append, List.cons_append, nbk, List.map_cons, List.map_nil]
     apply Trc.step rfl rfl; exact wnt_n rfl; (with_reducible apply s_move); exact rfl; dsimp only [Nat.reduceAdd, Nat.reduceMul, Nat.reduceSub, List.nil_append, List.cons_append, nbk, List.map_cons, List.map_nil]
     apply Trc.step rfl rfl; exact wnt_n rfl; (with_reducible apply s_extract); exact rfl; exact rfl; dsimp only [Nat.reduceAdd, Nat.reduceMul, Nat.reduceSub, List.nil_append, List.cons_append, nbk, List.map_cons, List.map_nil]
     apply Trc.step rfl rfl; exact wnt_n rfl; (with_reducible apply s_extract); exact rfl; exact rfl; dsimp only [Nat.reduceAdd, Nat.reduceMul, Nat.reduceSub, List.nil_append, List.cons_append, nbk, List.map_cons, List.map_nil]
     apply Trc.step rfl rfl; exact wnt_n rfl; (with_reducible apply s_assign); exact rfl; dsimp only [Nat.reduceAdd, Nat.reduceMul, Nat.reduceSub, List.nil_append, List.cons_append, nbk, List.map_cons, List.map_nil]
     apply Trc.step rfl rfl; exact wnt_n rfl; (with_reducible apply s_assign); exact rfl; dsimp only [Nat.reduceAdd, Nat.reduceMul, Nat.reduceSub, List.nil_append, List.cons_append, nbk, List.map_cons, List.map_nil]
     exact Trc.done _ _ _; exact rfl; (with_reducible refine thn_n ?_); (with_reducible refine Gol.seq ?_); (with_reducible apply Gol.region); apply Trc.step rfl rfl
     exact wnt_n rfl; (with_reducible apply s_move); exact rfl; dsimp only [Nat.reduceAdd, Nat.reduceMul, Nat.reduceSub, List.nil_append, List.cons_append, nbk, List.map_cons, List.map_nil]
     apply Trc.step rfl rfl; exact wnt_n rfl; (with_reducible apply s_move); exact rfl; dsimp only [Nat.reduceAdd, Nat.reduceMul, Nat.reduceSub, List.nil_append, List.cons_append, nbk, List.map_cons, List.map_nil]
     apply Trc.step rfl rfl; exact wnt_n rfl; apply s_call (f := 22) rfl; apply evs.cons rfl; apply evs.cons rfl; exact evs.nil; apply ArgL.cons
     exact arg_clo; apply ArgL.cons; exact arg_clo; exact ArgL.nil; exact (hB _).1; exact Nat.le_of_ble_eq_true rfl; dsimp only [Nat.reduceAdd, Nat.reduceMul, Nat.reduceSub, List.nil_append, List.cons_append, nbk, List.map_cons, List.map_nil]
     apply Trc.step rfl rfl; exact wnt_n rfl; (with_reducible apply s_move); exact rfl; dsimp only [Nat.reduceAdd, Nat.reduceMul, Nat.reduceSub, List.nil_append, List.cons_append, nbk, List.map_cons, List.map_nil]
     apply Trc.step rfl rfl; exact wnt_n rfl; (with_reducible apply s_extract); exact rfl; exact rfl; dsimp only [Nat.reduceAdd, Nat.reduceMul, Nat.reduceSub, List.nil_append, List.cons_append, nbk, List.map_cons, List.map_nil]
     apply Trc.step rfl rfl; exact wnt_n rfl; (with_reducible apply s_extract); exact rfl; exact rfl; dsimp only [Nat.reduceAdd, Nat.reduceMul, Nat.reduceSub, List.nil_append, List.cons_append, nbk, List.map_cons, List.map_nil]
     apply Trc.step rfl rfl; exact wnt_n rfl; (with_reducible apply s_extract); exact rfl; exact rfl; dsimp only [Nat.reduceAdd, Nat.reduceMul, Nat.reduceSub, List.nil_append, List.cons_append, nbk, List.map_cons, List.map_nil]
     apply Trc.step rfl rfl; exact wnt_n rfl; (with_reducible apply s_assign); exact rfl; dsimp only [Nat.reduceAdd, Nat.reduceMul, Nat.reduceSub, List.nil_append, List.cons_append, nbk, List.map_cons, List.map_nil]
     apply Trc.step rfl rfl; exact wnt_n rfl; (with_reducible apply s_assign); exact rfl; dsimp only [Nat.reduceAdd, Nat.reduceMul, Nat.reduceSub, List.nil_append, List.cons_append, nbk, List.map_cons, List.map_nil]
     apply Trc.step rfl rfl; exact wnt_n rfl; (with_reducible apply s_assign); exact rfl; dsimp only [Nat.reduceAdd, Nat.reduceMul, Nat.reduceSub, List.nil_append, List.cons_append, nbk, List.map_cons, List.map_nil]
     exact Trc.done _ _ _; exact rfl; (with_reducible refine thn_n ?_); (with_reducible refine Gol.seq ?_); (with_reducible apply Gol.region); apply Trc.step rfl rfl
     exact wnt_n rfl; (with_reducible apply s_move); exact rfl; dsimp only [Nat.reduceAdd, Nat.reduceMul, Nat.reduceSub, List.nil_append, List.cons_append, nbk, List.map_cons, List.map_nil]
     apply Trc.step rfl rfl; exact wnt_n rfl; (with_reducible apply s_move); exact rfl; dsimp only [Nat.reduceAdd, Nat.reduceMul, Nat.reduceSub, List.nil_append, List.cons_append, nbk, List.map_cons, List.map_nil]
     apply Trc.step rfl rfl; exact wnt_n rfl; apply s_call (f := 23) rfl; apply evs.cons rfl; apply evs.cons rfl; exact evs.nil
     apply ArgL.cons; exact arg_clo; apply ArgL.cons; exact arg_clo; exact ArgL.nil; exact (hB _).2; exact Nat.le_of_ble_eq_true rfl; dsimp only [Nat.reduceAdd, Nat.reduceMul, Nat.reduceSub, List.nil_append, List.cons_append, nbk, List.map_cons, List.map_nil]
     apply Trc.step rfl rfl; exact wnt_n rfl; (with_reducible apply s_move); exact rfl; dsimp only [Nat.reduceAdd, Nat.reduceMul, Nat.reduceSub, List.nil_append, List.cons_append, nbk, List.map_cons, List.map_nil]
     apply Trc.step rfl rfl; exact wnt_n rfl; (with_reducible apply s_extract); exact rfl; exact rfl; dsimp only [Nat.reduceAdd, Nat.reduceMul, Nat.reduceSub, List.nil_append, List.cons_append, nbk, List.map_cons, List.map_nil]
     apply Trc.step rfl rfl; exact wnt_n rfl; (with_reducible apply s_extract); exact rfl; exact rfl; dsimp only [Nat.reduceAdd, Nat.reduceMul, Nat.reduceSub, List.nil_append, List.cons_append, nbk, List.map_cons, List.map_nil]
     apply Trc.step rfl rfl; exact wnt_n rfl; (with_reducible apply s_extract); exact rfl; exact rfl; dsimp only [Nat.reduceAdd, Nat.reduceMul, Nat.reduceSub, List.nil_append, List.cons_append, nbk, List.map_cons, List.map_nil]
     apply Trc.step rfl rfl; exact wnt_n rfl; (with_reducible apply s_assign); exact rfl; dsimp only [Nat.reduceAdd, Nat.reduceMul, Nat.reduceSub, List.nil_append, List.cons_append, nbk, List.map_cons, List.map_nil]
     apply Trc.step rfl rfl; exact wnt_n rfl; (with_reducible apply s_assign); exact rfl; dsimp only [Nat.reduceAdd, Nat.reduceMul, Nat.reduceSub, List.nil_append, List.cons_append, nbk, List.map_cons, List.map_nil]
     apply Trc.step rfl rfl; exact wnt_n rfl; (with_reducible apply s_assign); exact rfl; dsimp only [Nat.reduceAdd, Nat.reduceMul, Nat.reduceSub, List.nil_append, List.cons_append, nbk, List.map_cons, List.map_nil]
     exact Trc.done _ _ _; exact rfl; (with_reducible refine thn_n ?_); (with_reducible refine Gol.seq ?_); (with_reducible apply Gol.region); apply Trc.step rfl rfl
     exact wnt_n rfl; (with_reducible apply s_move); exact rfl; dsimp only [Nat.reduceAdd, Nat.reduceMul, Nat.reduceSub, List.nil_append, List.cons_append, nbk, List.map_cons, List.map_nil]
     apply Trc.step rfl rfl; exact wnt_n rfl; (with_reducible apply s_move); exact rfl; dsimp only [Nat.reduceAdd, Nat.reduceMul, Nat.reduceSub, List.nil_append, List.cons_append, nbk, List.map_cons, List.map_nil]
     apply Trc.step rfl rfl; exact wnt_n rfl; apply s_call (f := 13) rfl; apply evs.cons rfl; apply evs.cons rfl; exact evs.nil
     apply ArgL.cons; exact arg_sl rfl; apply ArgL.cons; exact arg_sl rfl; exact ArgL.nil; exact same_ok o1 o1 _ _ _ _ ho1 ho1; exact Nat.le_of_ble_eq_true rfl
     dsimp only [Nat.reduceAdd, Nat.reduceMul, Nat.reduceSub, List.nil_append, List.cons_append, nbk, List.map_cons, List.map_nil]; apply Trc.step rfl rfl
     exact wnt_n rfl; (with_reducible apply s_move); exact rfl; dsimp only [Nat.reduceAdd, Nat.reduceMul, Nat.reduceSub, List.nil_append, List.cons_append, nbk, List.map_cons, List.map_nil]
     apply Trc.step rfl rfl; apply wnt_g; exact rfl; exact rfl; exact rfl; (focus (simp [*]; done)); (with_reducible apply s_move); exact rfl; dsimp only [Nat.reduceAdd, Nat.reduceMul, Nat.reduceSub, List.nil_append, List.cons_append, nbk, List.map_cons, List.map_nil]
     apply Trc.step rfl rfl; apply wnt_g; exact rfl; exact rfl; exact rfl; (focus (simp [*]; done)); (with_reducible apply s_move); exact rfl; dsimp only [Nat.reduceAdd, Nat.reduceMul, Nat.reduceSub, List.nil_append, List.cons_append, nbk, List.map_cons, List.map_nil]
     apply Trc.step rfl rfl; apply wnt_g; exact rfl; exact rfl; exact rfl; (focus (simp [*]; done)); (with_reducible apply s_eqb); exact rfl; exact rfl; dsimp only [Nat.reduceAdd, Nat.reduceMul, Nat.reduceSub, List.nil_append, List.cons_append, nbk, List.map_cons, List.map_nil]
     apply Trc.step rfl rfl; exact wnt_n rfl; (with_reducible apply s_pick_t); exact rfl; (focus (simp [*]; done)); exact rfl; dsimp only [Nat.reduceAdd, Nat.reduceMul, Nat.reduceSub, List.nil_append, List.cons_append, nbk, List.map_cons, List.map_nil]
     apply Trc.step rfl rfl; exact wnt_n rfl; (with_reducible apply s_move); exact rfl; dsimp only [Nat.reduceAdd, Nat.reduceMul, Nat.reduceSub, List.nil_append, List.cons_append, nbk, List.map_cons, List.map_nil]
     apply Trc.step rfl rfl; apply wnt_g; exact rfl; exact rfl; exact rfl; (focus (simp [*]; done)); (with_reducible apply s_move); exact rfl; dsimp only [Nat.reduceAdd, Nat.reduceMul, Nat.reduceSub, List.nil_append, List.cons_append, nbk, List.map_cons, List.map_nil]
     apply Trc.step rfl rfl; apply wnt_g; exact rfl; exact rfl; exact rfl; (focus (simp [*]; done)); (with_reducible apply s_move); exact rfl; dsimp only [Nat.reduceAdd, Nat.reduceMul, Nat.reduceSub, List.nil_append, List.cons_append, nbk, List.map_cons, List.map_nil]
     apply Trc.step rfl rfl; apply wnt_g; exact rfl; exact rfl; exact rfl; (focus (simp [*]; done)); apply s_call (f := 13) rfl
     apply evs.cons rfl; apply evs.cons rfl; exact evs.nil; apply ArgL.cons; exact arg_sl rfl; apply ArgL.cons; exact arg_sl rfl; exact ArgL.nil; exact same_ok o2 o2 _ _ _ _ ho2 ho2
     exact Nat.le_of_ble_eq_true rfl; dsimp only [Nat.reduceAdd, Nat.reduceMul, Nat.reduceSub, List.nil_append, List.cons_append, nbk, List.map_cons, List.map_nil]
     apply Trc.step rfl rfl; exact wnt_n rfl; (with_reducible apply s_pick_t); exact rfl; (focus (simp [*]; done)); exact rfl; dsimp only [Nat.reduceAdd, Nat.reduceMul, Nat.reduceSub, List.nil_append, List.cons_append, nbk, List.map_cons, List.map_nil]
     apply Trc.step rfl rfl; exact wnt_n rfl; (with_reducible apply s_move); exact rfl; dsimp only [Nat.reduceAdd, Nat.reduceMul, Nat.reduceSub, List.nil_append, List.cons_append, nbk, List.map_cons, List.map_nil]
     apply Trc.step rfl rfl; apply wnt_g; exact rfl; exact rfl; exact rfl; (focus (simp [*]; done)); (with_reducible apply s_move); exact rfl; dsimp only [Nat.reduceAdd, Nat.reduceMul, Nat.reduceSub, List.nil_append, List.cons_append, nbk, List.map_cons, List.map_nil]
     apply Trc.step rfl rfl; apply wnt_g; exact rfl; exact rfl; exact rfl; (focus (simp [*]; done)); (with_reducible apply s_move); exact rfl; dsimp only [Nat.reduceAdd, Nat.reduceMul, Nat.reduceSub, List.nil_append, List.cons_append, nbk, List.map_cons, List.map_nil]
     apply Trc.step rfl rfl; apply wnt_g; exact rfl; exact rfl; exact rfl; (focus (simp [*]; done)); (with_reducible apply s_eq); exact rfl; exact rfl; dsimp only [Nat.reduceAdd, Nat.reduceMul, Nat.reduceSub, List.nil_append, List.cons_append, nbk, List.map_cons, List.map_nil]
     apply Trc.step rfl rfl; exact wnt_n rfl; (with_reducible apply s_pick_t); exact rfl; (focus (simp [*]; done)); exact rfl; dsimp only [Nat.reduceAdd, Nat.reduceMul, Nat.reduceSub, List.nil_append, List.cons_append, nbk, List.map_cons, List.map_nil]
     apply Trc.step rfl rfl; exact wnt_n rfl; (with_reducible apply s_move); exact rfl; dsimp only [Nat.reduceAdd, Nat.reduceMul, Nat.reduceSub, List.nil_append, List.cons_append, nbk, List.map_cons, List.map_nil]
     apply Trc.step rfl rfl; apply wnt_g; exact rfl; exact rfl; exact rfl; (focus (simp only [*]; rfl)); (with_reducible apply s_move); exact rfl; dsimp only [Nat.reduceAdd, Nat.reduceMul, Nat.reduceSub, List.nil_append, List.cons_append, nbk, List.map_cons, List.map_nil]
     apply Trc.step rfl rfl; apply wnt_g; exact rfl; exact rfl; exact rfl; (focus (simp only [*]; rfl)); (with_reducible apply s_move); exact rfl; dsimp only [Nat.reduceAdd, Nat.reduceMul, Nat.reduceSub, List.nil_append, List.cons_append, nbk, List.map_cons, List.map_nil]
     apply Trc.step rfl rfl; apply wnt_g; exact rfl; exact rfl; exact rfl; (focus (simp only [*]; rfl)); (with_reducible apply s_eqb); exact rfl; exact rfl
     dsimp only [Nat.reduceAdd, Nat.reduceMul, Nat.reduceSub, List.nil_append, List.cons_append, nbk, List.map_cons, List.map_nil]; apply Trc.step rfl rfl
     exact wnt_n rfl; (with_reducible apply s_pick_t); exact rfl; (focus (simp only [*]; rfl)); exact rfl; dsimp only [Nat.reduceAdd, Nat.reduceMul, Nat.reduceSub, List.nil_append, List.cons_append, nbk, List.map_cons, List.map_nil]
     apply Trc.step rfl rfl; exact wnt_n rfl; (with_reducible apply s_move); exact rfl; dsimp only [Nat.reduceAdd, Nat.reduceMul, Nat.reduceSub, List.nil_append, List.cons_append, nbk, List.map_cons, List.map_nil]
     apply Trc.step rfl rfl; apply wnt_g; exact rfl; exact rfl; exact rfl; (focus (simp [*]; done)); apply s_call (f := 9) rfl
     exact evs.nil; exact ArgL.nil; exact awake2_ok; exact Nat.le_of_ble_eq_true rfl; dsimp only [Nat.reduceAdd, Nat.reduceMul, Nat.reduceSub, List.nil_append, List.cons_append, nbk, List.map_cons, List.map_nil]
     apply Trc.step rfl rfl; exact wnt_n rfl; (with_reducible apply s_pick_t); exact rfl; (focus (simp [*]; done)); exact rfl; dsimp only [Nat.reduceAdd, Nat.reduceMul, Nat.reduceSub, List.nil_append, List.cons_append, nbk, List.map_cons, List.map_nil]
     apply Trc.step rfl rfl; exact wnt_n rfl; (with_reducible apply s_assign); exact rfl; dsimp only [Nat.reduceAdd, Nat.reduceMul, Nat.reduceSub, List.nil_append, List.cons_append, nbk, List.map_cons, List.map_nil]
     exact Trc.done _ _ _; exact rfl; (with_reducible refine thn_n ?_); (with_reducible refine Gol.ret ?_))
    apply RetQ.bool
    · (apply RetQ.mk (by first | exact .inr rfl | exact .inl rfl); apply res_1 rfl; exact res_tmp rfl; exact out_val)
    · simp
  · obtain ⟨o1, l1, ok, ho1, hA⟩ := appBytes_both bs ps n m hn hm (by omega)
    ((with_reducible refine Gol.skip ?_); (with_reducible refine thn_n ?_); (with_reducible refine Gol.seq ?_); (with_reducible apply Gol.region); apply Trc.step rfl rfl
     exact wnt_n rfl; (with_reducible apply s_move); exact rfl; dsimp only [Nat.reduceAdd, Nat.reduceMul, Nat.reduceSub, List.nil_append, List.cons_append, nbk, List.map_cons, List.map_nil]
     apply Trc.step rfl rfl; exact wnt_n rfl; (with_reducible apply s_move); exact rfl; dsimp only [Nat.reduceAdd, Nat.reduceMul, Nat.reduceSub, List.nil_append, List.cons_append, nbk, List.map_cons, List.map_nil]
     apply Trc.step rfl rfl; exact wnt_n rfl; apply s_call (f := 16) rfl; apply evs.cons rfl; apply evs.cons rfl; exact evs.nil
     apply ArgL.cons; exact arg_clo; apply ArgL.cons; exact arg_clo; exact ArgL.nil; exact (hA _ _).1; exact Nat.le_of_ble_eq_true rfl; dsimp only [Nat.reduceAdd, Nat.reduceMul, Nat.reduceSub, List.nil_append, List.cons_append, nbk, List.map_cons, List.map_nil]
     apply Trc.step rfl rfl; exact wnt_n rfl; (with_reducible apply s_move); exact rfl; dsimp only [Nat.reduceAdd, Nat.reduceMul, Nat.reduceSub, List.nil_append, List.cons_append, nbk, List.map_cons, List.map_nil]
     apply Trc.step rfl rfl; exact wnt_n rfl; (with_reducible apply s_extract); exact rfl; exact rfl; dsimp only [Nat.reduceAdd, Nat.reduceMul, Nat.reduceSub, List.nil_append, List.cons_append, nbk, List.map_cons, List.map_nil]
     apply Trc.step rfl rfl; exact wnt_n rfl; (with_reducible apply s_extract); exact rfl; exact rfl; dsimp only [Nat.reduceAdd, Nat.reduceMul, Nat.reduceSub, List.nil_append, List.cons_append, nbk, List.map_cons, List.map_nil]
     apply Trc.step rfl rfl; exact wnt_n rfl; (with_reducible apply s_assign); exact rfl; dsimp only [Nat.reduceAdd, Nat.reduceMul, Nat.reduceSub, List.nil_append, List.cons_append, nbk, List.map_cons, List.map_nil]
     apply Trc.step rfl rfl; exact wnt_n rfl; (with_reducible apply s_assign); exact rfl; dsimp only [Nat.reduceAdd, Nat.reduceMul, Nat.reduceSub, List.nil_append, List.cons_append, nbk, List.map_cons, List.map_nil]
     exact Trc.done _ _ _; exact rfl; (with_reducible refine thn_n ?_); (with_reducible refine Gol.seq ?_); (with_reducible apply Gol.region); apply Trc.step rfl rfl
     exact wnt_n rfl; (with_reducible apply s_move); exact rfl; dsimp only [Nat.reduceAdd, Nat.reduceMul, Nat.reduceSub, List.nil_append, List.cons_append, nbk, List.map_cons, List.map_nil]
     apply Trc.step rfl rfl; exact wnt_n rfl; (with_reducible apply s_move); exact rfl; dsimp only [Nat.reduceAdd, Nat.reduceMul, Nat.reduceSub, List.nil_append, List.cons_append, nbk, List.map_cons, List.map_nil]
     apply Trc.step rfl rfl; exact wnt_n rfl; apply s_call (f := 21) rfl; apply evs.cons rfl; apply evs.cons rfl; exact evs.nil
     apply ArgL.cons; exact arg_clo; apply ArgL.cons; exact arg_clo; exact ArgL.nil; exact (hA _ _).2; exact Nat.le_of_ble_eq_true rfl; dsimp only [Nat.reduceAdd, Nat.reduceMul, Nat.reduceSub, List.nil_append, List.cons_append, nbk, List.map_cons, List.map_nil]
     apply Trc.step rfl rfl; exact wnt_n rfl; (with_reducible apply s_move); exact rfl; dsimp only [Nat.reduceAdd, Nat.reduceMul, Nat.reduceSub, List.nil_append, List.cons_append, nbk, List.map_cons, List.map_nil]
     apply Trc.step rfl rfl; exact wnt_n rfl; (with_reducible apply s_extract); exact rfl; exact rfl; dsimp only [Nat.reduceAdd, Nat.reduceMul, Nat.reduceSub, List.nil_append, List.cons_append, nbk, List.map_cons, List.map_nil]
     apply Trc.step rfl rfl; exact wnt_n rfl; (with_reducible apply s_extract); exact rfl; exact rfl; dsimp only [Nat.reduceAdd, Nat.reduceMul, Nat.reduceSub, List.nil_append, List.cons_append, nbk, List.map_cons, List.map_nil]
     apply Trc.step rfl rfl; exact wnt_n rfl; (with_reducible apply s_assign); exact rfl; dsimp only [Nat.reduceAdd, Nat.reduceMul, Nat.reduceSub, List.nil_append, List.cons_append, nbk, List.map_cons, List.map_nil]
     apply Trc.step rfl rfl; exact wnt_n rfl; (with_reducible apply s_assign); exact rfl; dsimp only [Nat.reduceAdd, Nat.reduceMul, Nat.reduceSub, List.nil_append, List.cons_append, nbk, List.map_cons, List.map_nil]
     exact Trc.done _ _ _; exact rfl; (with_reducible refine thn_n ?_); (with_reducible refine Gol.seq ?_); (with_reducible apply Gol.region); apply Trc.step rfl rfl
     exact wnt_n rfl; (with_reducible apply s_move); exact rfl; dsimp only [Nat.reduceAdd, Nat.reduceMul, Nat.reduceSub, List.nil_append, List.cons_append, nbk, List.map_cons, List.map_nil]
     apply Trc.step rfl rfl; exact wnt_n rfl; (with_reducible apply s_move); exact rfl; dsimp only [Nat.reduceAdd, Nat.reduceMul, Nat.reduceSub, List.nil_append, List.cons_append, nbk, List.map_cons, List.map_nil]
     apply Trc.step rfl rfl; exact wnt_n rfl; apply s_call (f := 22) rfl; apply evs.cons rfl; apply evs.cons rfl; exact evs.nil; apply ArgL.cons
     exact arg_clo; apply ArgL.cons; exact arg_clo; exact ArgL.nil; exact (hB _).1; exact Nat.le_of_ble_eq_true rfl; dsimp only [Nat.reduceAdd, Nat.reduceMul, Nat.reduceSub, List.nil_append, List.cons_append, nbk, List.map_cons, List.map_nil]
     apply Trc.step rfl rfl; exact wnt_n rfl; (with_reducible apply s_move); exact rfl; dsimp only [Nat.reduceAdd, Nat.reduceMul, Nat.reduceSub, List.nil_append, List.cons_append, nbk, List.map_cons, List.map_nil]
     apply Trc.step rfl rfl; exact wnt_n rfl; (with_reducible apply s_extract); exact rfl; exact rfl; dsimp only [Nat.reduceAdd, Nat.reduceMul, Nat.reduceSub, List.nil_append, List.cons_append, nbk, List.map_cons, List.map_nil]
     apply Trc.step rfl rfl; exact wnt_n rfl; (with_reducible apply s_extract); exact rfl; exact rfl; dsimp only [Nat.reduceAdd, Nat.reduceMul, Nat.reduceSub, List.nil_append, List.cons_append, nbk, List.map_cons, List.map_nil]
     apply Trc.step rfl rfl; exact wnt_n rfl; (with_reducible apply s_extract); exact rfl; exact rfl; dsimp only [Nat.reduceAdd, Nat.reduceMul, Nat.reduceSub, List.nil_append, List.cons_append, nbk, List.map_cons, List.map_nil]
     apply Trc.step rfl rfl; exact wnt_n rfl; (with_reducible apply s_assign); exact rfl; dsimp only [Nat.reduceAdd, Nat.reduceMul, Nat.reduceSub, List.nil_append, List.cons_append, nbk, List.map_cons, List.map_nil]
     apply Trc.step rfl rfl; exact wnt_n rfl; (with_reducible apply s_assign); exact rfl; dsimp only [Nat.reduceAdd, Nat.reduceMul, Nat.reduceSub, List.nil_append, List.cons_append, nbk, List.map_cons, List.map_nil]
     apply Trc.step rfl rfl; exact wnt_n rfl; (with_reducible apply s_assign); exact rfl; dsimp only [Nat.reduceAdd, Nat.reduceMul, Nat.reduceSub, List.nil_append, List.cons_append, nbk, List.map_cons, List.map_nil]
     exact Trc.done _ _ _; exact rfl; (with_reducible refine thn_n ?_); (with_reducible refine Gol.seq ?_); (with_reducible apply Gol.region); apply Trc.step rfl rfl
     exact wnt_n rfl; (with_reducible apply s_move); exact rfl; dsimp only [Nat.reduceAdd, Nat.reduceMul, Nat.reduceSub, List.nil_append, List.cons_append, nbk, List.map_cons, List.map_nil]
     apply Trc.step rfl rfl; exact wnt_n rfl; (with_reducible apply s_move); exact rfl; dsimp only [Nat.reduceAdd, Nat.reduceMul, Nat.reduceSub, List.nil_append, List.cons_append, nbk, List.map_cons, List.map_nil]
     apply Trc.step rfl rfl; exact wnt_n rfl; apply s_call (f := 23) rfl; apply evs.cons rfl; apply evs.cons rfl; exact evs.nil
     apply ArgL.cons; exact arg_clo; apply ArgL.cons; exact arg_clo; exact ArgL.nil; exact (hB _).2; exact Nat.le_of_ble_eq_true rfl; dsimp only [Nat.reduceAdd, Nat.reduceMul, Nat.reduceSub, List.nil_append, List.cons_append, nbk, List.map_cons, List.map_nil]
     apply Trc.step rfl rfl; exact wnt_n rfl; (with_reducible apply s_move); exact rfl; dsimp only [Nat.reduceAdd, Nat.reduceMul, Nat.reduceSub, List.nil_append, List.cons_append, nbk, List.map_cons, List.map_nil]
     apply Trc.step rfl rfl; exact wnt_n rfl; (with_reducible apply s_extract); exact rfl; exact rfl; dsimp only [Nat.reduceAdd, Nat.reduceMul, Nat.reduceSub, List.nil_append, List.cons_append, nbk, List.map_cons, List.map_nil]
     apply Trc.step rfl rfl; exact wnt_n rfl; (with_reducible apply s_extract); exact rfl; exact rfl; dsimp only [Nat.reduceAdd, Nat.reduceMul, Nat.reduceSub, List.nil_append, List.cons_append, nbk, List.map_cons, List.map_nil]
     apply Trc.step rfl rfl; exact wnt_n rfl; (with_reducible apply s_extract); exact rfl; exact rfl; dsimp only [Nat.reduceAdd, Nat.reduceMul, Nat.reduceSub, List.nil_append, List.cons_append, nbk, List.map_cons, List.map_nil]
     apply Trc.step rfl rfl; exact wnt_n rfl; (with_reducible apply s_assign); exact rfl; dsimp only [Nat.reduceAdd, Nat.reduceMul, Nat.reduceSub, List.nil_append, List.cons_append, nbk, List.map_cons, List.map_nil]
     apply Trc.step rfl rfl; exact wnt_n rfl; (with_reducible apply s_assign); exact rfl; dsimp only [Nat.reduceAdd, Nat.reduceMul, Nat.reduceSub, List.nil_append, List.cons_append, nbk, List.map_cons, List.map_nil]
     apply Trc.step rfl rfl; exact wnt_n rfl; (with_reducible apply s_assign); exact rfl; dsimp only [Nat.reduceAdd, Nat.reduceMul, Nat.reduceSub, List.nil_append, List.cons_append, nbk, List.map_cons, List.map_nil]
     exact Trc.done _ _ _; exact rfl; (with_reducible refine thn_n ?_); (with_reducible refine Gol.seq ?_); (with_reducible apply Gol.region); apply Trc.step rfl rfl
     exact wnt_n rfl; (with_reducible apply s_move); exact rfl; dsimp only [Nat.reduceAdd, Nat.reduceMul, Nat.reduceSub, List.nil_append, List.cons_append, nbk, List.map_cons, List.map_nil]
     apply Trc.step rfl rfl; exact wnt_n rfl; (with_reducible apply s_move); exact rfl; dsimp only [Nat.reduceAdd, Nat.reduceMul, Nat.reduceSub, List.nil_append, List.cons_append, nbk, List.map_cons, List.map_nil]
     apply Trc.step rfl rfl; exact wnt_n rfl; apply s_call (f := 13) rfl; apply evs.cons rfl; apply evs.cons rfl; exact evs.nil
     apply ArgL.cons; exact arg_sl rfl; apply ArgL.cons; exact arg_sl rfl; exact ArgL.nil; exact same_ok o1 o1 _ _ _ _ ho1 ho1; exact Nat.le_of_ble_eq_true rfl
     dsimp only [Nat.reduceAdd, Nat.reduceMul, Nat.reduceSub, List.nil_append, List.cons_append, nbk, List.map_cons, List.map_nil]; apply Trc.step rfl rfl
     exact wnt_n rfl; (with_reducible apply s_move); exact rfl; dsimp only [Nat.reduceAdd, Nat.reduceMul, Nat.reduceSub, List.nil_append, List.cons_append, nbk, List.map_cons, List.map_nil]
     apply Trc.step rfl rfl; apply wnt_g; exact rfl; exact rfl; exact rfl; (focus (simp [*]; done)); (with_reducible apply s_move); exact rfl; dsimp only [Nat.reduceAdd, Nat.reduceMul, Nat.reduceSub, List.nil_append, List.cons_append, nbk, List.map_cons, List.map_nil]
     apply Trc.step rfl rfl; apply wnt_g; exact rfl; exact rfl; exact rfl; (focus (simp [*]; done)); (with_reducible apply s_move); exact rfl; dsimp only [Nat.reduceAdd, Nat.reduceMul, Nat.reduceSub, List.nil_append, List.cons_append, nbk, List.map_cons, List.map_nil]
     apply Trc.step rfl rfl; apply wnt_g; exact rfl; exact rfl; exact rfl; (focus (simp [*]; done)); (with_reducible apply s_eqb); exact rfl; exact rfl; dsimp only [Nat.reduceAdd, Nat.reduceMul, Nat.reduceSub, List.nil_append, List.cons_append, nbk, List.map_cons, List.map_nil]
     apply Trc.step rfl rfl; exact wnt_n rfl; (with_reducible apply s_pick_t); exact rfl; (focus (simp [*]; done)); exact rfl; dsimp only [Nat.reduceAdd, Nat.reduceMul, Nat.reduceSub, List.nil_append, List.cons_append, nbk, List.map_cons, List.map_nil]
     apply Trc.step rfl rfl; exact wnt_n rfl; (with_reducible apply s_move); exact rfl; dsimp only [Nat.reduceAdd, Nat.reduceMul, Nat.reduceSub, List.nil_append, List.cons_append, nbk, List.map_cons, List.map_nil]
     apply Trc.step rfl rfl; apply wnt_g; exact rfl; exact rfl; exact rfl; (focus (simp [*]; done)); (with_reducible apply s_move); exact rfl; dsimp only [Nat.reduceAdd, Nat.reduceMul, Nat.reduceSub, List.nil_append, List.cons_append, nbk, List.map_cons, List.map_nil]
     apply Trc.step rfl rfl; apply wnt_g; exact rfl; exact rfl; exact rfl; (focus (simp [*]; done)); (with_reducible apply s_move); exact rfl; dsimp only [Nat.reduceAdd, Nat.reduceMul, Nat.reduceSub, List.nil_append, List.cons_append, nbk, List.map_cons, List.map_nil]
     apply Trc.step rfl rfl; apply wnt_g; exact rfl; exact rfl; exact rfl; (focus (simp [*]; done)); apply s_call (f := 13) rfl
     apply evs.cons rfl; apply evs.cons rfl; exact evs.nil; apply ArgL.cons; exact arg_sl rfl; apply ArgL.cons; exact arg_sl rfl; exact ArgL.nil; exact same_ok o2 o2 _ _ _ _ ho2 ho2
     exact Nat.le_of_ble_eq_true rfl; dsimp only [Nat.reduceAdd, Nat.reduceMul, Nat.reduceSub, List.nil_append, List.cons_append, nbk, List.map_cons, List.map_nil]
     apply Trc.step rfl rfl; exact wnt_n rfl; (with_reducible apply s_pick_t); exact rfl; (focus (simp [*]; done)); exact rfl; dsimp only [Nat.reduceAdd, Nat.reduceMul, Nat.reduceSub, List.nil_append, List.cons_append, nbk, List.map_cons, List.map_nil]
     apply Trc.step rfl rfl; exact wnt_n rfl; (with_reducible apply s_move); exact rfl; dsimp only [Nat.reduceAdd, Nat.reduceMul, Nat.reduceSub, List.nil_append, List.cons_append, nbk, List.map_cons, List.map_nil]
     apply Trc.step rfl rfl; apply wnt_g; exact rfl; exact rfl; exact rfl; (focus (simp [*]; done)); (with_reducible apply s_move); exact rfl; dsimp only [Nat.reduceAdd, Nat.reduceMul, Nat.reduceSub, List.nil_append, List.cons_append, nbk, List.map_cons, List.map_nil]
     apply Trc.step rfl rfl; apply wnt_g; exact rfl; exact rfl; exact rfl; (focus (simp [*]; done)); (with_reducible apply s_move); exact rfl; dsimp only [Nat.reduceAdd, Nat.reduceMul, Nat.reduceSub, List.nil_append, List.cons_append, nbk, List.map_cons, List.map_nil]
     apply Trc.step rfl rfl; apply wnt_g; exact rfl; exact rfl; exact rfl; (focus (simp [*]; done)); (with_reducible apply s_eq); exact rfl; exact rfl; dsimp only [Nat.reduceAdd, Nat.reduceMul, Nat.reduceSub, List.nil_append, List.cons_append, nbk, List.map_cons, List.map_nil]
     apply Trc.step rfl rfl; exact wnt_n rfl; (with_reducible apply s_pick_t); exact rfl; (focus (simp [*]; done)); exact rfl; dsimp only [Nat.reduceAdd, Nat.reduceMul, Nat.reduceSub, List.nil_append, List.cons_append, nbk, List.map_cons, List.map_nil]
     apply Trc.step rfl rfl; exact wnt_n rfl; (with_reducible apply s_move); exact rfl; dsimp only [Nat.reduceAdd, Nat.reduceMul, Nat.reduceSub, List.nil_append, List.cons_append, nbk, List.map_cons, List.map_nil]
     apply Trc.step rfl rfl; apply wnt_g; exact rfl; exact rfl; exact rfl; (focus (simp only [*]; rfl)); (with_reducible apply s_move); exact rfl; dsimp only [Nat.reduceAdd, Nat.reduceMul, Nat.reduceSub, List.nil_append, List.cons_append, nbk, List.map_cons, List.map_nil]
     apply Trc.step rfl rfl; apply wnt_g; exact rfl; exact rfl; exact rfl; (focus (simp only [*]; rfl)); (with_reducible apply s_move); exact rfl; dsimp only [Nat.reduceAdd, Nat.reduceMul, Nat.reduceSub, List.nil_append, List.cons_append, nbk, List.map_cons, List.map_nil]
     apply Trc.step rfl rfl; apply wnt_g; exact rfl; exact rfl; exact rfl; (focus (simp only [*]; rfl)); (with_reducible apply s_eqb); exact rfl; exact rfl
     dsimp only [Nat.reduceAdd, Nat.reduceMul, Nat.reduceSub, List.nil_append, List.cons_append, nbk, List.map_cons, List.map_nil]; apply Trc.step rfl rfl
     exact wnt_n rfl; (with_reducible apply s_pick_t); exact rfl; (focus (simp only [*]; rfl)); exact rfl; dsimp only [Nat.reduceAdd, Nat.reduceMul, Nat.reduceSub, List.nil_append, List.cons_append, nbk, List.map_cons, List.map_nil]
     apply Trc.step rfl rfl; exact wnt_n rfl; (with_reducible apply s_move); exact rfl; dsimp only [Nat.reduceAdd, Nat.reduceMul, Nat.reduceSub, List.nil_append, List.cons_append, nbk, List.map_cons, List.map_nil]
     apply Trc.step rfl rfl; apply wnt_g; exact rfl; exact rfl; exact rfl; (focus (simp [*]; done)); apply s_call (f := 9) rfl
     exact evs.nil; exact ArgL.nil; exact awake2_ok; exact Nat.le_of_ble_eq_true rfl; dsimp only [Nat.reduceAdd, Nat.reduceMul, Nat.reduceSub, List.nil_append, List.cons_append, nbk, List.map_cons, List.map_nil]
     apply Trc.step rfl rfl; exact wnt_n rfl; (with_reducible apply s_pick_t); exact rfl; (focus (simp [*]; done)); exact rfl; dsimp only [Nat.reduceAdd, Nat.reduceMul, Nat.reduceSub, List.nil_append, List.cons_append, nbk, List.map_cons, List.map_nil]
     apply Trc.step rfl rfl; exact wnt_n rfl; (with_reducible apply s_assign); exact rfl; dsimp only [Nat.reduceAdd, Nat.reduceMul, Nat.reduceSub, List.nil_append, List.cons_append, nbk, List.map_cons, List.map_nil]
     exact Trc.done _ _ _; exact rfl; (with_reducible refine thn_n ?_); (with_reducible refine Gol.ret ?_))
    apply RetQ.bool
    · (apply RetQ.mk (by first | exact .inr rfl | exact .inl rfl); apply res_1 rfl; exact res_tmp rfl; exact out_val)
    · simp
end Go.Proofs.Ytnghcfjejgdnlaa
