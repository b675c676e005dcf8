/-
  Texts laid together: St13, St14, St18, InsL, St25, St26, St15. Conditions: as told in each.
-/
import Derived.Test.YtkkeeokeihkagaaGreatKa3
set_option linter.unusedSimpArgs false
set_option linter.unusedVariables false
set_option linter.unusedSectionVars false
/-
  Layer 21: Validate accepts a valid state. Conditions: lengths below 2^17.
-/
namespace Go.Proofs.YtkkeeokeihkagaaGreat
open Go.RowKit

def okCell (k i : Int) (n : UInt64) : Prop := (k = 1 ∧ 0 ≤ i ∧ i ≤ 15 ∧ n = 0) ∨ (k = 2 ∧ i = 0) ∨ (k = 3 ∧ 0 ≤ i ∧ i ≤ 9 ∧ n = 0) ∨ (k = 4 ∧ i = 0 ∧ n = 0)
def okEnt (d : Dl) : Prop := okCell d.k d.i d.n ∧ d.a ≠ 0 ∧ -1125899906842624 ≤ d.a ∧ d.a ≤ 1125899906842624
def okLk (d : Lk) : Prop := 0 ≤ d.o ∧ d.o ≤ 15 ∧ 0 ≤ d.t ∧ d.t ≤ 15 ∧ 1 ≤ d.u ∧ d.u ≤ 1000
/-- each element and the next -/
def Asc {α : Type} (r : α → α → Prop) (l : List α) : Prop := ∀ (i : Nat) x y, l[i]? = some x → l[i + 1]? = some y → r x y
def ltD (x y : Dl) : Prop := cmpC x.k x.i x.n y.k y.i y.n < 0
structure ValidS (s : Stt) : Prop where
  ent : ∀ d ∈ s.cells, okEnt d
  asc : Asc ltD s.cells
  q1 : 1 ≤ s.seqs.length
  q16 : s.seqs.length ≤ 16
  sq : ∀ q ∈ s.seqs, 0 ≤ q ∧ q ≤ 32
  lk : ∀ d ∈ s.locks, okLk d
  ascL : Asc (fun x y : Lk => cmpN x.n y.n < 0) s.locks
  ascA : Asc (fun x y : UInt64 => cmpN x y < 0) s.applied
  g0 : 0 ≤ s.guilty
  g1 : s.guilty ≤ 1023
theorem validCell_yes (k i : Int) (n : UInt64) (h : okCell k i n) : Fresh Tryz.prog 57 [.v (.agg (cellC k i n))] (fun _ => .v (.bool true)) [] := by
  rcases h with ⟨rfl, h1, h2, rfl⟩ | ⟨rfl, rfl⟩ | ⟨rfl, h1, h2, rfl⟩ | ⟨rfl, rfl, rfl⟩
  · apply Fresh.bool
    · refine Fresh.of (fn := Tryz.f57) Tryz.func57 rfl (Nat.le_of_ble_eq_true rfl) fun w => ?_
      (refine Gol.seq ?_; apply Gol.region; apply Trc.stp rfl rfl rfl; apply s_box; exact rfl
       exact rfl; dsimp only [Nat.reduceAdd, Nat.reduceMul, Nat.reduceSub, List.nil_append, List.cons_append, nbk, List.map_cons, List.map_nil]; apply Trc.stp rfl rfl rfl; apply s_assign; exact rfl; dsimp only [Nat.reduceAdd, Nat.reduceMul, List.nil_append]
       exact Trc.done _ _ _; exact rfl; refine thn_n ?_; refine Gol.seq ?_; apply Gol.region; apply Trc.stp rfl rfl rfl; apply s_assign; exact rfl; dsimp only [Nat.reduceAdd, Nat.reduceMul, List.nil_append]
       exact Trc.done _ _ _; exact rfl; refine thn_n ?_; refine Gol.seq ?_; refine Gol.seq ?_; apply Gol.region
       apply Trc.stp rfl rfl rfl; apply s_fieldAddr; exact rfl; dsimp only [Nat.reduceAdd, Nat.reduceMul, List.nil_append]
       apply Trc.stp rfl rfl rfl; apply s_load; exact rfl; exact rfl; exact rfl; dsimp only [Nat.reduceAdd, Nat.reduceMul, List.nil_append]
       exact Trc.done _ _ _; exact rfl; refine thn_n ?_; refine Gol.block ?_; refine Gol.seq ?_; apply Gol.region
       apply Trc.stp rfl rfl rfl; apply s_eqn; exact rfl; exact rfl; dsimp only [Nat.reduceAdd, Nat.reduceMul, List.nil_append]
       apply Trc.stp rfl rfl rfl; apply s_assign; exact rfl; dsimp only [Nat.reduceAdd, Nat.reduceMul, List.nil_append]
       exact Trc.done _ _ _; exact rfl; refine thn_n ?_)
      refine Gol.cond_t rfl (by decide) ?_
      (apply Gol.region; apply Trc.stp rfl rfl rfl; apply s_assign; exact rfl; dsimp only [Nat.reduceAdd, Nat.reduceMul, List.nil_append]
       exact Trc.done _ _ _; exact rfl; refine inBlk_n ?_; refine thn_n ?_; refine Gol.seq ?_; apply Gol.region
       apply Trc.stp rfl rfl rfl; apply s_fieldAddr; exact rfl; dsimp only [Nat.reduceAdd, Nat.reduceMul, List.nil_append]
       apply Trc.stp rfl rfl rfl; apply s_load; exact rfl; exact rfl; exact rfl; dsimp only [Nat.reduceAdd, Nat.reduceMul, List.nil_append]
       apply Trc.stp rfl rfl rfl; apply s_ge; exact rfl; exact rfl; dsimp only [Nat.reduceAdd, Nat.reduceMul, List.nil_append]
       apply Trc.stp rfl rfl rfl; apply s_move; exact rfl; dsimp only [Nat.reduceAdd, Nat.reduceMul, List.nil_append]
       apply Trc.step rfl rfl; apply wnt_g; exact rfl; exact rfl; exact rfl; (focus (simp only [*]; rfl)); apply s_fieldAddr; exact rfl; dsimp only [Nat.reduceAdd, Nat.reduceMul, List.nil_append]
       apply Trc.step rfl rfl; apply wnt_g; exact rfl; exact rfl; exact rfl; (focus (simp only [*]; rfl)); apply s_load; exact rfl; exact rfl
       exact rfl; dsimp only [Nat.reduceAdd, Nat.reduceMul, List.nil_append]; apply Trc.step rfl rfl
       apply wnt_g; exact rfl; exact rfl; exact rfl; (focus (simp only [*]; rfl)); apply s_move; exact rfl; dsimp only [Nat.reduceAdd, Nat.reduceMul, List.nil_append]
       apply Trc.step rfl rfl; apply wnt_g; exact rfl; exact rfl; exact rfl; (focus (simp only [*]; rfl)); apply s_le; exact rfl; exact rfl
       dsimp only [Nat.reduceAdd, Nat.reduceMul, List.nil_append]; apply Trc.stp rfl rfl rfl; apply s_pick_t; exact rfl; (focus (simp only [*]; rfl)); exact rfl; dsimp only [Nat.reduceAdd, Nat.reduceMul, List.nil_append]
       apply Trc.stp rfl rfl rfl; apply s_move; exact rfl; dsimp only [Nat.reduceAdd, Nat.reduceMul, List.nil_append]
       apply Trc.step rfl rfl; apply wnt_g; exact rfl; exact rfl; exact rfl; (focus (simp only [*]; rfl)); apply s_fieldAddr; exact rfl; dsimp only [Nat.reduceAdd, Nat.reduceMul, List.nil_append]
       apply Trc.step rfl rfl; apply wnt_g; exact rfl; exact rfl; exact rfl; (focus (simp only [*]; rfl)); apply s_load; exact rfl; exact rfl
       exact rfl; dsimp only [Nat.reduceAdd, Nat.reduceMul, List.nil_append]; apply Trc.step rfl rfl
       apply wnt_g; exact rfl; exact rfl; exact rfl; (focus (simp only [*]; rfl)); apply s_eqn; exact rfl; exact rfl; dsimp only [Nat.reduceAdd, Nat.reduceMul, List.nil_append]
       apply Trc.step rfl rfl; apply wnt_g; exact rfl; exact rfl; exact rfl; (focus (simp only [*]; rfl)); apply s_move; exact rfl; dsimp only [Nat.reduceAdd, Nat.reduceMul, List.nil_append]
       apply Trc.step rfl rfl; apply wnt_g; exact rfl; exact rfl; exact rfl; rfl; apply s_fieldAddr; exact rfl; dsimp only [Nat.reduceAdd, Nat.reduceMul, List.nil_append]
       apply Trc.step rfl rfl; apply wnt_g; exact rfl; exact rfl; exact rfl; rfl; apply s_loadN; exact rfl; exact rfl; exact Nat.le_of_ble_eq_true rfl
       exact agu_nm8 rfl; dsimp only [Nat.reduceAdd, Nat.reduceMul, List.nil_append]; apply Trc.step rfl rfl
       apply wnt_g; exact rfl; exact rfl; exact rfl; rfl; apply s_zero; dsimp only [Nat.reduceAdd, Nat.reduceMul, Nat.reduceSub, List.nil_append, List.cons_append, nbk, List.map_cons, List.map_nil]
       apply Trc.step rfl rfl; apply wnt_g; exact rfl; exact rfl; exact rfl; rfl; apply s_eqN; exact rfl; exact rfl; dsimp only [Nat.reduceAdd, Nat.reduceMul, List.nil_append]
       apply Trc.step rfl rfl; apply wnt_g; exact rfl; exact rfl; exact rfl; (focus (simp only [*]; rfl)); apply s_pick_f; exact rfl; rfl; exact rfl
       dsimp only [Nat.reduceAdd, Nat.reduceMul, List.nil_append]; apply Trc.stp rfl rfl rfl; apply s_pick_t; exact rfl; (focus (simp only [*]; rfl)); exact rfl; dsimp only [Nat.reduceAdd, Nat.reduceMul, List.nil_append]
       apply Trc.stp rfl rfl rfl; apply s_assign; exact rfl; dsimp only [Nat.reduceAdd, Nat.reduceMul, List.nil_append]
       exact Trc.done _ _ _; exact rfl; refine thn_n ?_; refine Gol.ret ?_)
      (apply RetQ.mk (by first | exact .inr rfl | exact .inl rfl); apply res_1 rfl; exact res_tmp rfl; exact out_val)
    · simp
  · apply Fresh.bool
    · refine Fresh.of (fn := Tryz.f57) Tryz.func57 rfl (Nat.le_of_ble_eq_true rfl) fun w => ?_
      (refine Gol.seq ?_; apply Gol.region; apply Trc.stp rfl rfl rfl; apply s_box; exact rfl
       exact rfl; dsimp only [Nat.reduceAdd, Nat.reduceMul, Nat.reduceSub, List.nil_append, List.cons_append, nbk, List.map_cons, List.map_nil]; apply Trc.stp rfl rfl rfl; apply s_assign; exact rfl; dsimp only [Nat.reduceAdd, Nat.reduceMul, List.nil_append]
       exact Trc.done _ _ _; exact rfl; refine thn_n ?_; refine Gol.seq ?_; apply Gol.region; apply Trc.stp rfl rfl rfl; apply s_assign; exact rfl; dsimp only [Nat.reduceAdd, Nat.reduceMul, List.nil_append]
       exact Trc.done _ _ _; exact rfl; refine thn_n ?_; refine Gol.seq ?_; refine Gol.seq ?_; apply Gol.region
       apply Trc.stp rfl rfl rfl; apply s_fieldAddr; exact rfl; dsimp only [Nat.reduceAdd, Nat.reduceMul, List.nil_append]
       apply Trc.stp rfl rfl rfl; apply s_load; exact rfl; exact rfl; exact rfl; dsimp only [Nat.reduceAdd, Nat.reduceMul, List.nil_append]
       exact Trc.done _ _ _; exact rfl; refine thn_n ?_; refine Gol.block ?_; refine Gol.seq ?_; apply Gol.region
       apply Trc.stp rfl rfl rfl; apply s_eqn; exact rfl; exact rfl; dsimp only [Nat.reduceAdd, Nat.reduceMul, List.nil_append]
       apply Trc.stp rfl rfl rfl; apply s_assign; exact rfl; dsimp only [Nat.reduceAdd, Nat.reduceMul, List.nil_append]
       exact Trc.done _ _ _; exact rfl; refine thn_n ?_)
      refine Gol.cond_f rfl (by decide) ?_
      (refine Gol.seq ?_; apply Gol.region; apply Trc.stp rfl rfl rfl; apply s_eqn; exact rfl
       exact rfl; dsimp only [Nat.reduceAdd, Nat.reduceMul, List.nil_append]; apply Trc.stp rfl rfl rfl; apply s_assign; exact rfl; dsimp only [Nat.reduceAdd, Nat.reduceMul, List.nil_append]
       exact Trc.done _ _ _; exact rfl; refine thn_n ?_)
      refine Gol.cond_f rfl (by decide) ?_
      (refine Gol.seq ?_; refine Gol.seq ?_; apply Gol.region; apply Trc.stp rfl rfl rfl; apply s_eqn
       exact rfl; exact rfl; dsimp only [Nat.reduceAdd, Nat.reduceMul, List.nil_append]; apply Trc.stp rfl rfl rfl; apply s_assign; exact rfl; dsimp only [Nat.reduceAdd, Nat.reduceMul, List.nil_append]
       exact Trc.done _ _ _; exact rfl; refine thn_n ?_)
      refine Gol.cond_t rfl (by decide) ?_
      (refine Gol.skip ?_; refine thn_n ?_)
      refine Gol.cond_t rfl (by decide) ?_
      (refine Gol.skip ?_; refine inBlk_n ?_; refine thn_n ?_; refine Gol.seq ?_; apply Gol.region
       apply Trc.stp rfl rfl rfl; apply s_fieldAddr; exact rfl; dsimp only [Nat.reduceAdd, Nat.reduceMul, List.nil_append]
       apply Trc.stp rfl rfl rfl; apply s_load; exact rfl; exact rfl; exact rfl; dsimp only [Nat.reduceAdd, Nat.reduceMul, List.nil_append]
       apply Trc.stp rfl rfl rfl; apply s_gen; exact rfl; exact rfl; dsimp only [Nat.reduceAdd, Nat.reduceMul, List.nil_append]
       apply Trc.stp rfl rfl rfl; apply s_move; exact rfl; dsimp only [Nat.reduceAdd, Nat.reduceMul, List.nil_append]
       apply Trc.step rfl rfl; apply wnt_g; exact rfl; exact rfl; exact rfl; rfl; apply s_fieldAddr; exact rfl; dsimp only [Nat.reduceAdd, Nat.reduceMul, List.nil_append]
       apply Trc.step rfl rfl; apply wnt_g; exact rfl; exact rfl; exact rfl; rfl; apply s_load; exact rfl; exact rfl; exact rfl; dsimp only [Nat.reduceAdd, Nat.reduceMul, List.nil_append]
       apply Trc.step rfl rfl; apply wnt_g; exact rfl; exact rfl; exact rfl; rfl; apply s_move; exact rfl; dsimp only [Nat.reduceAdd, Nat.reduceMul, List.nil_append]
       apply Trc.step rfl rfl; apply wnt_g; exact rfl; exact rfl; exact rfl; rfl; apply s_len'; exact rfl; exact rfl; dsimp only [Nat.reduceAdd, Nat.reduceMul, List.nil_append]
       apply Trc.stp rfl rfl rfl; apply s_pick_t; exact rfl; rfl; exact rfl; dsimp only [Nat.reduceAdd, Nat.reduceMul, List.nil_append]
       apply Trc.stp rfl rfl rfl; apply s_move; exact rfl; dsimp only [Nat.reduceAdd, Nat.reduceMul, List.nil_append]
       apply Trc.step rfl rfl; apply wnt_g; exact rfl; exact rfl; exact rfl; rfl; apply s_fieldAddr; exact rfl; dsimp only [Nat.reduceAdd, Nat.reduceMul, List.nil_append]
       apply Trc.step rfl rfl; apply wnt_g; exact rfl; exact rfl; exact rfl; rfl; apply s_load; exact rfl; exact rfl; exact rfl; dsimp only [Nat.reduceAdd, Nat.reduceMul, List.nil_append]
       apply Trc.step rfl rfl; apply wnt_g; exact rfl; exact rfl; exact rfl; rfl; apply s_eqn; exact rfl; exact rfl; dsimp only [Nat.reduceAdd, Nat.reduceMul, List.nil_append]
       apply Trc.step rfl rfl; apply wnt_g; exact rfl; exact rfl; exact rfl; rfl; apply s_move; exact rfl; dsimp only [Nat.reduceAdd, Nat.reduceMul, List.nil_append]
       apply Trc.skip rfl rfl; apply wnt_g; exact rfl; exact rfl; exact rfl; rfl; dsimp only [Nat.reduceAdd, Nat.reduceMul, List.nil_append]
       apply Trc.skip rfl rfl; apply wnt_g; exact rfl; exact rfl; exact rfl; rfl; dsimp only [Nat.reduceAdd, Nat.reduceMul, List.nil_append]
       apply Trc.skip rfl rfl; apply wnt_g; exact rfl; exact rfl; exact rfl; rfl; dsimp only [Nat.reduceAdd, Nat.reduceMul, List.nil_append]
       apply Trc.skip rfl rfl; apply wnt_g; exact rfl; exact rfl; exact rfl; rfl; dsimp only [Nat.reduceAdd, Nat.reduceMul, List.nil_append]
       apply Trc.step rfl rfl; apply wnt_g; exact rfl; exact rfl; exact rfl; rfl; apply s_pick_t; exact rfl; rfl; exact rfl; dsimp only [Nat.reduceAdd, Nat.reduceMul, List.nil_append]
       apply Trc.stp rfl rfl rfl; apply s_pick_t; exact rfl; rfl; exact rfl; dsimp only [Nat.reduceAdd, Nat.reduceMul, List.nil_append]
       apply Trc.stp rfl rfl rfl; apply s_assign; exact rfl; dsimp only [Nat.reduceAdd, Nat.reduceMul, List.nil_append]
       exact Trc.done _ _ _; exact rfl; refine thn_n ?_; refine Gol.ret ?_)
      (apply RetQ.mk (by first | exact .inr rfl | exact .inl rfl); apply res_1 rfl; exact res_tmp rfl; exact out_val)
    · simp
  · apply Fresh.bool
    · refine Fresh.of (fn := Tryz.f57) Tryz.func57 rfl (Nat.le_of_ble_eq_true rfl) fun w => ?_
      (refine Gol.seq ?_; apply Gol.region; apply Trc.stp rfl rfl rfl; apply s_box; exact rfl
       exact rfl; dsimp only [Nat.reduceAdd, Nat.reduceMul, Nat.reduceSub, List.nil_append, List.cons_append, nbk, List.map_cons, List.map_nil]; apply Trc.stp rfl rfl rfl; apply s_assign; exact rfl; dsimp only [Nat.reduceAdd, Nat.reduceMul, List.nil_append]
       exact Trc.done _ _ _; exact rfl; refine thn_n ?_; refine Gol.seq ?_; apply Gol.region; apply Trc.stp rfl rfl rfl; apply s_assign; exact rfl; dsimp only [Nat.reduceAdd, Nat.reduceMul, List.nil_append]
       exact Trc.done _ _ _; exact rfl; refine thn_n ?_; refine Gol.seq ?_; refine Gol.seq ?_; apply Gol.region
       apply Trc.stp rfl rfl rfl; apply s_fieldAddr; exact rfl; dsimp only [Nat.reduceAdd, Nat.reduceMul, List.nil_append]
       apply Trc.stp rfl rfl rfl; apply s_load; exact rfl; exact rfl; exact rfl; dsimp only [Nat.reduceAdd, Nat.reduceMul, List.nil_append]
       exact Trc.done _ _ _; exact rfl; refine thn_n ?_; refine Gol.block ?_; refine Gol.seq ?_; apply Gol.region
       apply Trc.stp rfl rfl rfl; apply s_eqn; exact rfl; exact rfl; dsimp only [Nat.reduceAdd, Nat.reduceMul, List.nil_append]
       apply Trc.stp rfl rfl rfl; apply s_assign; exact rfl; dsimp only [Nat.reduceAdd, Nat.reduceMul, List.nil_append]
       exact Trc.done _ _ _; exact rfl; refine thn_n ?_)
      refine Gol.cond_f rfl (by decide) ?_
      (refine Gol.seq ?_; apply Gol.region; apply Trc.stp rfl rfl rfl; apply s_eqn; exact rfl
       exact rfl; dsimp only [Nat.reduceAdd, Nat.reduceMul, List.nil_append]; apply Trc.stp rfl rfl rfl; apply s_assign; exact rfl; dsimp only [Nat.reduceAdd, Nat.reduceMul, List.nil_append]
       exact Trc.done _ _ _; exact rfl; refine thn_n ?_)
      refine Gol.cond_t rfl (by decide) ?_
      (apply Gol.region; apply Trc.stp rfl rfl rfl; apply s_assign; exact rfl; dsimp only [Nat.reduceAdd, Nat.reduceMul, List.nil_append]
       exact Trc.done _ _ _; exact rfl; refine inBlk_n ?_; refine thn_n ?_; refine Gol.seq ?_; apply Gol.region
       apply Trc.stp rfl rfl rfl; apply s_fieldAddr; exact rfl; dsimp only [Nat.reduceAdd, Nat.reduceMul, List.nil_append]
       apply Trc.stp rfl rfl rfl; apply s_load; exact rfl; exact rfl; exact rfl; dsimp only [Nat.reduceAdd, Nat.reduceMul, List.nil_append]
       apply Trc.stp rfl rfl rfl; apply s_ge; exact rfl; exact rfl; dsimp only [Nat.reduceAdd, Nat.reduceMul, List.nil_append]
       apply Trc.stp rfl rfl rfl; apply s_move; exact rfl; dsimp only [Nat.reduceAdd, Nat.reduceMul, List.nil_append]
       apply Trc.step rfl rfl; apply wnt_g; exact rfl; exact rfl; exact rfl; (focus (simp only [*]; rfl)); apply s_fieldAddr; exact rfl; dsimp only [Nat.reduceAdd, Nat.reduceMul, List.nil_append]
       apply Trc.step rfl rfl; apply wnt_g; exact rfl; exact rfl; exact rfl; (focus (simp only [*]; rfl)); apply s_load; exact rfl; exact rfl
       exact rfl; dsimp only [Nat.reduceAdd, Nat.reduceMul, List.nil_append]; apply Trc.step rfl rfl
       apply wnt_g; exact rfl; exact rfl; exact rfl; (focus (simp only [*]; rfl)); apply s_move; exact rfl; dsimp only [Nat.reduceAdd, Nat.reduceMul, List.nil_append]
       apply Trc.step rfl rfl; apply wnt_g; exact rfl; exact rfl; exact rfl; (focus (simp only [*]; rfl)); apply s_le; exact rfl; exact rfl
       dsimp only [Nat.reduceAdd, Nat.reduceMul, List.nil_append]; apply Trc.stp rfl rfl rfl; apply s_pick_t; exact rfl; (focus (simp only [*]; rfl)); exact rfl; dsimp only [Nat.reduceAdd, Nat.reduceMul, List.nil_append]
       apply Trc.stp rfl rfl rfl; apply s_move; exact rfl; dsimp only [Nat.reduceAdd, Nat.reduceMul, List.nil_append]
       apply Trc.step rfl rfl; apply wnt_g; exact rfl; exact rfl; exact rfl; (focus (simp only [*]; rfl)); apply s_fieldAddr; exact rfl; dsimp only [Nat.reduceAdd, Nat.reduceMul, List.nil_append]
       apply Trc.step rfl rfl; apply wnt_g; exact rfl; exact rfl; exact rfl; (focus (simp only [*]; rfl)); apply s_load; exact rfl; exact rfl
       exact rfl; dsimp only [Nat.reduceAdd, Nat.reduceMul, List.nil_append]; apply Trc.step rfl rfl
       apply wnt_g; exact rfl; exact rfl; exact rfl; (focus (simp only [*]; rfl)); apply s_eqn; exact rfl; exact rfl; dsimp only [Nat.reduceAdd, Nat.reduceMul, List.nil_append]
       apply Trc.step rfl rfl; apply wnt_g; exact rfl; exact rfl; exact rfl; (focus (simp only [*]; rfl)); apply s_move; exact rfl; dsimp only [Nat.reduceAdd, Nat.reduceMul, List.nil_append]
       apply Trc.step rfl rfl; apply wnt_g; exact rfl; exact rfl; exact rfl; rfl; apply s_fieldAddr; exact rfl; dsimp only [Nat.reduceAdd, Nat.reduceMul, List.nil_append]
       apply Trc.step rfl rfl; apply wnt_g; exact rfl; exact rfl; exact rfl; rfl; apply s_loadN; exact rfl; exact rfl; exact Nat.le_of_ble_eq_true rfl
       exact agu_nm8 rfl; dsimp only [Nat.reduceAdd, Nat.reduceMul, List.nil_append]; apply Trc.step rfl rfl
       apply wnt_g; exact rfl; exact rfl; exact rfl; rfl; apply s_zero; dsimp only [Nat.reduceAdd, Nat.reduceMul, Nat.reduceSub, List.nil_append, List.cons_append, nbk, List.map_cons, List.map_nil]
       apply Trc.step rfl rfl; apply wnt_g; exact rfl; exact rfl; exact rfl; rfl; apply s_eqN; exact rfl; exact rfl; dsimp only [Nat.reduceAdd, Nat.reduceMul, List.nil_append]
       apply Trc.step rfl rfl; apply wnt_g; exact rfl; exact rfl; exact rfl; (focus (simp only [*]; rfl)); apply s_pick_f; exact rfl; rfl; exact rfl
       dsimp only [Nat.reduceAdd, Nat.reduceMul, List.nil_append]; apply Trc.stp rfl rfl rfl; apply s_pick_t; exact rfl; (focus (simp only [*]; rfl)); exact rfl; dsimp only [Nat.reduceAdd, Nat.reduceMul, List.nil_append]
       apply Trc.stp rfl rfl rfl; apply s_assign; exact rfl; dsimp only [Nat.reduceAdd, Nat.reduceMul, List.nil_append]
       exact Trc.done _ _ _; exact rfl; refine thn_n ?_; refine Gol.ret ?_)
      (apply RetQ.mk (by first | exact .inr rfl | exact .inl rfl); apply res_1 rfl; exact res_tmp rfl; exact out_val)
    · simp
  · apply Fresh.bool
    · refine Fresh.of (fn := Tryz.f57) Tryz.func57 rfl (Nat.le_of_ble_eq_true rfl) fun w => ?_
      (refine Gol.seq ?_; apply Gol.region; apply Trc.stp rfl rfl rfl; apply s_box; exact rfl
       exact rfl; dsimp only [Nat.reduceAdd, Nat.reduceMul, Nat.reduceSub, List.nil_append, List.cons_append, nbk, List.map_cons, List.map_nil]; apply Trc.stp rfl rfl rfl; apply s_assign; exact rfl; dsimp only [Nat.reduceAdd, Nat.reduceMul, List.nil_append]
       exact Trc.done _ _ _; exact rfl; refine thn_n ?_; refine Gol.seq ?_; apply Gol.region; apply Trc.stp rfl rfl rfl; apply s_assign; exact rfl; dsimp only [Nat.reduceAdd, Nat.reduceMul, List.nil_append]
       exact Trc.done _ _ _; exact rfl; refine thn_n ?_; refine Gol.seq ?_; refine Gol.seq ?_; apply Gol.region
       apply Trc.stp rfl rfl rfl; apply s_fieldAddr; exact rfl; dsimp only [Nat.reduceAdd, Nat.reduceMul, List.nil_append]
       apply Trc.stp rfl rfl rfl; apply s_load; exact rfl; exact rfl; exact rfl; dsimp only [Nat.reduceAdd, Nat.reduceMul, List.nil_append]
       exact Trc.done _ _ _; exact rfl; refine thn_n ?_; refine Gol.block ?_; refine Gol.seq ?_; apply Gol.region
       apply Trc.stp rfl rfl rfl; apply s_eqn; exact rfl; exact rfl; dsimp only [Nat.reduceAdd, Nat.reduceMul, List.nil_append]
       apply Trc.stp rfl rfl rfl; apply s_assign; exact rfl; dsimp only [Nat.reduceAdd, Nat.reduceMul, List.nil_append]
       exact Trc.done _ _ _; exact rfl; refine thn_n ?_)
      refine Gol.cond_f rfl (by decide) ?_
      (refine Gol.seq ?_; apply Gol.region; apply Trc.stp rfl rfl rfl; apply s_eqn; exact rfl
       exact rfl; dsimp only [Nat.reduceAdd, Nat.reduceMul, List.nil_append]; apply Trc.stp rfl rfl rfl; apply s_assign; exact rfl; dsimp only [Nat.reduceAdd, Nat.reduceMul, List.nil_append]
       exact Trc.done _ _ _; exact rfl; refine thn_n ?_)
      refine Gol.cond_f rfl (by decide) ?_
      (refine Gol.seq ?_; refine Gol.seq ?_; apply Gol.region; apply Trc.stp rfl rfl rfl; apply s_eqn
       exact rfl; exact rfl; dsimp only [Nat.reduceAdd, Nat.reduceMul, List.nil_append]; apply Trc.stp rfl rfl rfl; apply s_assign; exact rfl; dsimp only [Nat.reduceAdd, Nat.reduceMul, List.nil_append]
       exact Trc.done _ _ _; exact rfl; refine thn_n ?_)
      refine Gol.cond_f rfl (by decide) ?_
      (apply Gol.region; apply Trc.stp rfl rfl rfl; apply s_eqn; exact rfl; exact rfl; dsimp only [Nat.reduceAdd, Nat.reduceMul, List.nil_append]
       apply Trc.stp rfl rfl rfl; apply s_assign; exact rfl; dsimp only [Nat.reduceAdd, Nat.reduceMul, List.nil_append]
       exact Trc.done _ _ _; exact rfl; refine thn_n ?_)
      refine Gol.cond_t rfl (by decide) ?_
      (refine Gol.skip ?_; refine inBlk_n ?_; refine thn_n ?_; refine Gol.seq ?_; apply Gol.region
       apply Trc.stp rfl rfl rfl; apply s_fieldAddr; exact rfl; dsimp only [Nat.reduceAdd, Nat.reduceMul, List.nil_append]
       apply Trc.stp rfl rfl rfl; apply s_load; exact rfl; exact rfl; exact rfl; dsimp only [Nat.reduceAdd, Nat.reduceMul, List.nil_append]
       apply Trc.stp rfl rfl rfl; apply s_gen; exact rfl; exact rfl; dsimp only [Nat.reduceAdd, Nat.reduceMul, List.nil_append]
       apply Trc.stp rfl rfl rfl; apply s_move; exact rfl; dsimp only [Nat.reduceAdd, Nat.reduceMul, List.nil_append]
       apply Trc.step rfl rfl; apply wnt_g; exact rfl; exact rfl; exact rfl; rfl; apply s_fieldAddr; exact rfl; dsimp only [Nat.reduceAdd, Nat.reduceMul, List.nil_append]
       apply Trc.step rfl rfl; apply wnt_g; exact rfl; exact rfl; exact rfl; rfl; apply s_load; exact rfl; exact rfl; exact rfl; dsimp only [Nat.reduceAdd, Nat.reduceMul, List.nil_append]
       apply Trc.step rfl rfl; apply wnt_g; exact rfl; exact rfl; exact rfl; rfl; apply s_move; exact rfl; dsimp only [Nat.reduceAdd, Nat.reduceMul, List.nil_append]
       apply Trc.step rfl rfl; apply wnt_g; exact rfl; exact rfl; exact rfl; rfl; apply s_len'; exact rfl; exact rfl; dsimp only [Nat.reduceAdd, Nat.reduceMul, List.nil_append]
       apply Trc.stp rfl rfl rfl; apply s_pick_t; exact rfl; rfl; exact rfl; dsimp only [Nat.reduceAdd, Nat.reduceMul, List.nil_append]
       apply Trc.stp rfl rfl rfl; apply s_move; exact rfl; dsimp only [Nat.reduceAdd, Nat.reduceMul, List.nil_append]
       apply Trc.step rfl rfl; apply wnt_g; exact rfl; exact rfl; exact rfl; rfl; apply s_fieldAddr; exact rfl; dsimp only [Nat.reduceAdd, Nat.reduceMul, List.nil_append]
       apply Trc.step rfl rfl; apply wnt_g; exact rfl; exact rfl; exact rfl; rfl; apply s_load; exact rfl; exact rfl; exact rfl; dsimp only [Nat.reduceAdd, Nat.reduceMul, List.nil_append]
       apply Trc.step rfl rfl; apply wnt_g; exact rfl; exact rfl; exact rfl; rfl; apply s_eqn; exact rfl; exact rfl; dsimp only [Nat.reduceAdd, Nat.reduceMul, List.nil_append]
       apply Trc.step rfl rfl; apply wnt_g; exact rfl; exact rfl; exact rfl; rfl; apply s_move; exact rfl; dsimp only [Nat.reduceAdd, Nat.reduceMul, List.nil_append]
       apply Trc.step rfl rfl; apply wnt_g; exact rfl; exact rfl; exact rfl; rfl; apply s_fieldAddr; exact rfl; dsimp only [Nat.reduceAdd, Nat.reduceMul, List.nil_append]
       apply Trc.step rfl rfl; apply wnt_g; exact rfl; exact rfl; exact rfl; rfl; apply s_loadN; exact rfl; exact rfl; decide; exact agu_nm8 rfl
       dsimp only [Nat.reduceAdd, Nat.reduceMul, List.nil_append]; apply Trc.step rfl rfl
       apply wnt_g; exact rfl; exact rfl; exact rfl; rfl; apply s_zero; dsimp only [Nat.reduceAdd, Nat.reduceMul, Nat.reduceSub, List.nil_append, List.cons_append, nbk, List.map_cons, List.map_nil]
       apply Trc.step rfl rfl; apply wnt_g; exact rfl; exact rfl; exact rfl; rfl; apply s_eqN; exact rfl; exact rfl; dsimp only [Nat.reduceAdd, Nat.reduceMul, List.nil_append]
       apply Trc.step rfl rfl; apply wnt_g; exact rfl; exact rfl; exact rfl; rfl; apply s_pick_f; exact rfl; rfl; exact rfl; dsimp only [Nat.reduceAdd, Nat.reduceMul, List.nil_append]
       apply Trc.stp rfl rfl rfl; apply s_pick_t; exact rfl; rfl; exact rfl; dsimp only [Nat.reduceAdd, Nat.reduceMul, List.nil_append]
       apply Trc.stp rfl rfl rfl; apply s_assign; exact rfl; dsimp only [Nat.reduceAdd, Nat.reduceMul, List.nil_append]
       exact Trc.done _ _ _; exact rfl; refine thn_n ?_; refine Gol.ret ?_)
      (apply RetQ.mk (by first | exact .inr rfl | exact .inl rfl); apply res_1 rfl; exact res_tmp rfl; exact out_val)
    · simp
theorem badCell_no (d : Dl) (h : okEnt d) : Fresh Tryz.prog 56 [.v (.agg (deltaC d.k d.i d.n d.a))] (fun _ => .v (.bool false)) [] := by
  obtain ⟨h1, h2, h3, h4⟩ := h
  have g1 : ¬ 1125899906842624 < d.a := by omega
  have g2 : ¬ d.a < -1125899906842624 := by omega
  apply Fresh.bool
  · refine Fresh.of (fn := Tryz.f56) Tryz.func56 rfl (Nat.le_of_ble_eq_true rfl) fun w => ?_
    (refine Gol.seq ?_; apply Gol.region; apply Trc.stp rfl rfl rfl; apply s_box; exact rfl
     exact rfl; dsimp only [Nat.reduceAdd, Nat.reduceMul, Nat.reduceSub, List.nil_append, List.cons_append, nbk, List.map_cons, List.map_nil]; apply Trc.stp rfl rfl rfl; apply s_assign; exact rfl; dsimp only [Nat.reduceAdd, Nat.reduceMul, List.nil_append]
     exact Trc.done _ _ _; exact rfl; refine thn_n ?_; refine Gol.seq ?_; apply Gol.region; apply Trc.stp rfl rfl rfl; apply s_fieldAddr; exact rfl; dsimp only [Nat.reduceAdd, Nat.reduceMul, List.nil_append]
     apply Trc.stp rfl rfl rfl; apply s_loadN; exact rfl; exact rfl; exact Nat.le_of_ble_eq_true rfl; exact agu_cell rfl; dsimp only [Nat.reduceAdd, Nat.reduceMul, List.nil_append]
     apply Trc.stp rfl rfl rfl; apply s_call (f := 57) rfl; apply evs.cons rfl; exact evs.nil; apply ArgL.cons; exact arg_clo
     exact ArgL.nil; exact validCell_yes _ _ _ h1; exact Nat.le_of_ble_eq_true rfl; dsimp only [Nat.reduceAdd, Nat.reduceMul, Nat.reduceSub, List.nil_append, List.cons_append, nbk, List.map_cons, List.map_nil]
     apply Trc.stp rfl rfl rfl; apply s_not; exact rfl; dsimp only [Nat.reduceAdd, Nat.reduceMul, List.nil_append]
     apply Trc.stp rfl rfl rfl; apply s_move; exact rfl; dsimp only [Nat.reduceAdd, Nat.reduceMul, List.nil_append]
     apply Trc.step rfl rfl; apply wnt_g; exact rfl; exact rfl; exact rfl; rfl; apply s_fieldAddr; exact rfl; dsimp only [Nat.reduceAdd, Nat.reduceMul, List.nil_append]
     apply Trc.step rfl rfl; apply wnt_g; exact rfl; exact rfl; exact rfl; rfl; apply s_load; exact rfl; exact rfl; exact rfl; dsimp only [Nat.reduceAdd, Nat.reduceMul, List.nil_append]
     apply Trc.step rfl rfl; apply wnt_g; exact rfl; exact rfl; exact rfl; rfl; apply s_eq; exact rfl; exact rfl; dsimp only [Nat.reduceAdd, Nat.reduceMul, List.nil_append]
     apply Trc.stp rfl rfl rfl; apply s_pick_f; exact rfl; rfl; exact rfl; dsimp only [Nat.reduceAdd, Nat.reduceMul, List.nil_append]
     apply Trc.stp rfl rfl rfl; apply s_move; exact rfl; dsimp only [Nat.reduceAdd, Nat.reduceMul, List.nil_append]
     apply Trc.step rfl rfl; apply wnt_g; exact rfl; exact rfl; exact rfl; (focus (simp only [*]; rfl)); apply s_fieldAddr; exact rfl; dsimp only [Nat.reduceAdd, Nat.reduceMul, List.nil_append]
     apply Trc.step rfl rfl; apply wnt_g; exact rfl; exact rfl; exact rfl; (focus (simp only [*]; rfl)); apply s_load; exact rfl; exact rfl
     exact rfl; dsimp only [Nat.reduceAdd, Nat.reduceMul, List.nil_append]; apply Trc.step rfl rfl
     apply wnt_g; exact rfl; exact rfl; exact rfl; (focus (simp only [*]; rfl)); apply s_gt; exact rfl; exact rfl; dsimp only [Nat.reduceAdd, Nat.reduceMul, List.nil_append]
     apply Trc.stp rfl rfl rfl; apply s_pick_f; exact rfl; (focus (simp only [*]; rfl)); exact rfl; dsimp only [Nat.reduceAdd, Nat.reduceMul, List.nil_append]
     apply Trc.stp rfl rfl rfl; apply s_move; exact rfl; dsimp only [Nat.reduceAdd, Nat.reduceMul, List.nil_append]
     apply Trc.step rfl rfl; apply wnt_g; exact rfl; exact rfl; exact rfl; (focus (simp only [*]; rfl)); apply s_fieldAddr; exact rfl; dsimp only [Nat.reduceAdd, Nat.reduceMul, List.nil_append]
     apply Trc.step rfl rfl; apply wnt_g; exact rfl; exact rfl; exact rfl; (focus (simp only [*]; rfl)); apply s_load; exact rfl; exact rfl
     exact rfl; dsimp only [Nat.reduceAdd, Nat.reduceMul, List.nil_append]; apply Trc.step rfl rfl
     apply wnt_g; exact rfl; exact rfl; exact rfl; (focus (simp only [*]; rfl)); apply s_lt; exact rfl; exact rfl; dsimp only [Nat.reduceAdd, Nat.reduceMul, List.nil_append]
     apply Trc.stp rfl rfl rfl; apply s_pick_f; exact rfl; (focus (simp only [*]; rfl)); exact rfl; dsimp only [Nat.reduceAdd, Nat.reduceMul, List.nil_append]
     apply Trc.stp rfl rfl rfl; apply s_assign; exact rfl; dsimp only [Nat.reduceAdd, Nat.reduceMul, List.nil_append]
     exact Trc.done _ _ _; exact rfl; refine thn_n ?_; refine Gol.ret ?_)
    (apply RetQ.mk (by first | exact .inr rfl | exact .inl rfl); apply res_1 rfl; exact res_tmp rfl; exact out_val)
  · simp [g2]
theorem badSeq_no (q : Int) (h : 0 ≤ q ∧ q ≤ 32) : Fresh Tryz.prog 58 [.v (.int .i64 q)] (fun _ => .v (.bool false)) [] := by
  have g1 : ¬ q < 0 := by omega
  have g2 : ¬ 32 < q := by omega
  apply Fresh.bool
  · refine Fresh.of (fn := Tryz.f58) Tryz.func58 rfl (Nat.le_of_ble_eq_true rfl) fun w => ?_
    (refine Gol.seq ?_; apply Gol.region; apply Trc.stp rfl rfl rfl; apply s_assign; exact rfl
     dsimp only [Nat.reduceAdd, Nat.reduceMul, List.nil_append]; exact Trc.done _ _ _; exact rfl
     refine thn_n ?_; refine Gol.seq ?_; apply Gol.region; apply Trc.stp rfl rfl rfl; apply s_move
     exact rfl; dsimp only [Nat.reduceAdd, Nat.reduceMul, List.nil_append]; apply Trc.stp rfl rfl rfl; apply s_lt; exact rfl; exact rfl; dsimp only [Nat.reduceAdd, Nat.reduceMul, List.nil_append]
     apply Trc.stp rfl rfl rfl; apply s_move; exact rfl; dsimp only [Nat.reduceAdd, Nat.reduceMul, List.nil_append]
     apply Trc.step rfl rfl; apply wnt_g; exact rfl; exact rfl; exact rfl; (focus (simp only [*]; rfl)); apply s_move; exact rfl; dsimp only [Nat.reduceAdd, Nat.reduceMul, List.nil_append]
     apply Trc.step rfl rfl; apply wnt_g; exact rfl; exact rfl; exact rfl; (focus (simp only [*]; rfl)); apply s_gt; exact rfl; exact rfl
     dsimp only [Nat.reduceAdd, Nat.reduceMul, List.nil_append]; apply Trc.stp rfl rfl rfl; apply s_pick_f; exact rfl; (focus (simp only [*]; rfl)); exact rfl; dsimp only [Nat.reduceAdd, Nat.reduceMul, List.nil_append]
     apply Trc.stp rfl rfl rfl; apply s_assign; exact rfl; dsimp only [Nat.reduceAdd, Nat.reduceMul, List.nil_append]
     exact Trc.done _ _ _; exact rfl; refine thn_n ?_; refine Gol.ret ?_)
    (apply RetQ.mk (by first | exact .inr rfl | exact .inl rfl); apply res_1 rfl; exact res_tmp rfl; exact out_val)
  · simp [g2]
theorem badLock_no (d : Lk) (h : okLk d) : Fresh Tryz.prog 59 [.v (.agg (lockC d.n d.h d.o d.t d.u))] (fun _ => .v (.bool false)) [] := by
  obtain ⟨h1, h2, h3, h4, h5, h6⟩ := h
  have g1 : ¬ d.o < 0 := by omega
  have g2 : ¬ 16 ≤ d.o := by omega
  have g3 : ¬ d.t < 0 := by omega
  have g4 : ¬ 16 ≤ d.t := by omega
  have g5 : ¬ d.u < 1 := by omega
  have g6 : ¬ 1000 < d.u := by omega
  apply Fresh.bool
  · refine Fresh.of (fn := Tryz.f59) Tryz.func59 rfl (Nat.le_of_ble_eq_true rfl) fun w => ?_
    (refine Gol.seq ?_; apply Gol.region; apply Trc.stp rfl rfl rfl; apply s_box; exact rfl
     exact rfl; dsimp only [Nat.reduceAdd, Nat.reduceMul, Nat.reduceSub, List.nil_append, List.cons_append, nbk, List.map_cons, List.map_nil]; apply Trc.stp rfl rfl rfl; apply s_assign; exact rfl; dsimp only [Nat.reduceAdd, Nat.reduceMul, List.nil_append]
     exact Trc.done _ _ _; exact rfl; refine thn_n ?_; refine Gol.seq ?_; apply Gol.region; apply Trc.stp rfl rfl rfl; apply s_fieldAddr; exact rfl; dsimp only [Nat.reduceAdd, Nat.reduceMul, List.nil_append]
     apply Trc.stp rfl rfl rfl; apply s_load; exact rfl; exact rfl; exact rfl; dsimp only [Nat.reduceAdd, Nat.reduceMul, List.nil_append]
     apply Trc.stp rfl rfl rfl; apply s_lt; exact rfl; exact rfl; dsimp only [Nat.reduceAdd, Nat.reduceMul, List.nil_append]
     apply Trc.stp rfl rfl rfl; apply s_move; exact rfl; dsimp only [Nat.reduceAdd, Nat.reduceMul, List.nil_append]
     apply Trc.step rfl rfl; apply wnt_g; exact rfl; exact rfl; exact rfl; (focus (simp only [*]; rfl)); apply s_fieldAddr; exact rfl; dsimp only [Nat.reduceAdd, Nat.reduceMul, List.nil_append]
     apply Trc.step rfl rfl; apply wnt_g; exact rfl; exact rfl; exact rfl; (focus (simp only [*]; rfl)); apply s_load; exact rfl; exact rfl
     exact rfl; dsimp only [Nat.reduceAdd, Nat.reduceMul, List.nil_append]; apply Trc.step rfl rfl
     apply wnt_g; exact rfl; exact rfl; exact rfl; (focus (simp only [*]; rfl)); apply s_ge; exact rfl; exact rfl; dsimp only [Nat.reduceAdd, Nat.reduceMul, List.nil_append]
     apply Trc.stp rfl rfl rfl; apply s_pick_f; exact rfl; (focus (simp only [*]; rfl)); exact rfl; dsimp only [Nat.reduceAdd, Nat.reduceMul, List.nil_append]
     apply Trc.stp rfl rfl rfl; apply s_move; exact rfl; dsimp only [Nat.reduceAdd, Nat.reduceMul, List.nil_append]
     apply Trc.step rfl rfl; apply wnt_g; exact rfl; exact rfl; exact rfl; (focus (simp only [*]; rfl)); apply s_fieldAddr; exact rfl; dsimp only [Nat.reduceAdd, Nat.reduceMul, List.nil_append]
     apply Trc.step rfl rfl; apply wnt_g; exact rfl; exact rfl; exact rfl; (focus (simp only [*]; rfl)); apply s_load; exact rfl; exact rfl
     exact rfl; dsimp only [Nat.reduceAdd, Nat.reduceMul, List.nil_append]; apply Trc.step rfl rfl
     apply wnt_g; exact rfl; exact rfl; exact rfl; (focus (simp only [*]; rfl)); apply s_lt; exact rfl; exact rfl; dsimp only [Nat.reduceAdd, Nat.reduceMul, List.nil_append]
     apply Trc.stp rfl rfl rfl; apply s_pick_f; exact rfl; (focus (simp only [*]; rfl)); exact rfl; dsimp only [Nat.reduceAdd, Nat.reduceMul, List.nil_append]
     apply Trc.stp rfl rfl rfl; apply s_move; exact rfl; dsimp only [Nat.reduceAdd, Nat.reduceMul, List.nil_append]
     apply Trc.step rfl rfl; apply wnt_g; exact rfl; exact rfl; exact rfl; (focus (simp only [*]; rfl)); apply s_fieldAddr; exact rfl; dsimp only [Nat.reduceAdd, Nat.reduceMul, List.nil_append]
     apply Trc.step rfl rfl; apply wnt_g; exact rfl; exact rfl; exact rfl; (focus (simp only [*]; rfl)); apply s_load; exact rfl; exact rfl
     exact rfl; dsimp only [Nat.reduceAdd, Nat.reduceMul, List.nil_append]; apply Trc.step rfl rfl
     apply wnt_g; exact rfl; exact rfl; exact rfl; (focus (simp only [*]; rfl)); apply s_ge; exact rfl; exact rfl; dsimp only [Nat.reduceAdd, Nat.reduceMul, List.nil_append]
     apply Trc.stp rfl rfl rfl; apply s_pick_f; exact rfl; (focus (simp only [*]; rfl)); exact rfl; dsimp only [Nat.reduceAdd, Nat.reduceMul, List.nil_append]
     apply Trc.stp rfl rfl rfl; apply s_move; exact rfl; dsimp only [Nat.reduceAdd, Nat.reduceMul, List.nil_append]
     apply Trc.step rfl rfl; apply wnt_g; exact rfl; exact rfl; exact rfl; (focus (simp only [*]; rfl)); apply s_fieldAddr; exact rfl; dsimp only [Nat.reduceAdd, Nat.reduceMul, List.nil_append]
     apply Trc.step rfl rfl; apply wnt_g; exact rfl; exact rfl; exact rfl; (focus (simp only [*]; rfl)); apply s_load; exact rfl; exact rfl
     exact rfl; dsimp only [Nat.reduceAdd, Nat.reduceMul, List.nil_append]; apply Trc.step rfl rfl
     apply wnt_g; exact rfl; exact rfl; exact rfl; (focus (simp only [*]; rfl)); apply s_lt; exact rfl; exact rfl; dsimp only [Nat.reduceAdd, Nat.reduceMul, List.nil_append]
     apply Trc.stp rfl rfl rfl; apply s_pick_f; exact rfl; (focus (simp only [*]; rfl)); exact rfl; dsimp only [Nat.reduceAdd, Nat.reduceMul, List.nil_append]
     apply Trc.stp rfl rfl rfl; apply s_move; exact rfl; dsimp only [Nat.reduceAdd, Nat.reduceMul, List.nil_append]
     apply Trc.step rfl rfl; apply wnt_g; exact rfl; exact rfl; exact rfl; (focus (simp only [*]; rfl)); apply s_fieldAddr; exact rfl; dsimp only [Nat.reduceAdd, Nat.reduceMul, List.nil_append]
     apply Trc.step rfl rfl; apply wnt_g; exact rfl; exact rfl; exact rfl; (focus (simp only [*]; rfl)); apply s_load; exact rfl; exact rfl
     exact rfl; dsimp only [Nat.reduceAdd, Nat.reduceMul, List.nil_append]; apply Trc.step rfl rfl
     apply wnt_g; exact rfl; exact rfl; exact rfl; (focus (simp only [*]; rfl)); apply s_gt; exact rfl; exact rfl; dsimp only [Nat.reduceAdd, Nat.reduceMul, List.nil_append]
     apply Trc.stp rfl rfl rfl; apply s_pick_f; exact rfl; (focus (simp only [*]; rfl)); exact rfl; dsimp only [Nat.reduceAdd, Nat.reduceMul, List.nil_append]
     apply Trc.stp rfl rfl rfl; apply s_assign; exact rfl; dsimp only [Nat.reduceAdd, Nat.reduceMul, List.nil_append]
     exact Trc.done _ _ _; exact rfl; refine thn_n ?_; refine Gol.ret ?_)
    (apply RetQ.mk (by first | exact .inr rfl | exact .inl rfl); apply res_1 rfl; exact res_tmp rfl; exact out_val)
  · simp [g6]
theorem fIx_none {α : Type} (l : List α) (i : Nat) : fIx (fun _ => false) l i = -1 := by
  induction l generalizing i with
  | nil => rfl
  | cons a l ih => rw [fIx, if_neg (by simp), ih]
theorem idxL_none (l : List Lk) (fl : Bool) (g : FuncId) [hF : FnI Tryz.prog g] (hl : l.length ≤ 10000000) (h0 : ∀ d ∈ l, Fresh Tryz.prog g [.v (.agg (lockC d.n d.h d.o d.t d.u))] (fun _ => .v (.bool false)) []) :
    Fresh Tryz.prog 90 [.ex l.length fl (lsA l), .fn g []] (fun _ => .v (.int .i64 (-1))) [] := by
  refine Fresh.of (fn := Tryz.f90) Tryz.func90 rfl (Nat.le_of_ble_eq_true rfl) fun w => ?_
  (refine Gol.seq ?_; apply Gol.region; apply Trc.stp rfl rfl rfl; apply s_assign; exact rfl
   dsimp only [Nat.reduceAdd, Nat.reduceMul, List.nil_append]; exact Trc.done _ _ _; exact rfl
   refine thn_n ?_; refine Gol.seq ?_; refine Gol.seq ?_; apply Gol.region; apply Trc.stp rfl rfl rfl; apply s_move; exact rfl; dsimp only [Nat.reduceAdd, Nat.reduceMul, List.nil_append]
   apply Trc.stp rfl rfl rfl; apply s_len; exact rfl; exact ln_ex; dsimp only [Nat.reduceAdd, Nat.reduceMul, List.nil_append]
   apply Trc.stp rfl rfl rfl; apply s_move; exact rfl; dsimp only [Nat.reduceAdd, Nat.reduceMul, List.nil_append]
   exact Trc.done _ _ _; exact rfl; refine thn_n ?_; refine Gol.block ?_)
  refine Gol.loop (ι := Nat) (fun i => i ≤ l.length) (fun i => l.length - i) 32 (fun i => []) (fun i => [(8, .v (.int .i64 (i : Int))), (7, .v (.int .i64 (l.length : Int))), (0, .ex l.length fl (lsA l)), (1, .fn g [])]) 0 (Nat.zero_le _) ?_ ?_
  · (apply Le.mk' []; apply RnT.c; exact rfl; exact Rn.v rfl; apply RnT.c; exact rfl; exact Rn.v rfl; apply RnT.c; exact rfl; exact Rn.clo inferInstance rfl
     apply RnT.c; exact rfl; exact Rn.clo inferInstance rfl; exact RnT.n; exact RnH.n; exact rfl)
  intro i hi
  (refine Gol.seq ?_; apply Gol.region; apply Trc.stp rfl rfl rfl; apply s_ltn; exact rfl
   exact rfl; dsimp only [Nat.reduceAdd, Nat.reduceMul, List.nil_append]; exact Trc.done _ _ _
   exact rfl; refine thn_n ?_; refine Gol.seq ?_)
  refine Gol.cond rfl (fun h => ?_) (fun h => ?_)
  · have hlt : i < l.length := of_decide_eq_true h
    obtain ⟨d, hd⟩ : ∃ d, l[i]? = some d := ⟨l[i], List.getElem?_eq_getElem hlt⟩
    have hf := h0 d (List.mem_of_getElem? hd)
    (refine Gol.skip ?_; refine thn_n ?_; refine Gol.seq ?_; refine Gol.block ?_; refine Gol.seq ?_
     apply Gol.region; apply Trc.stp rfl rfl rfl; apply s_move; exact rfl; dsimp only [Nat.reduceAdd, Nat.reduceMul, List.nil_append]
     apply Trc.stp rfl rfl rfl; apply s_assign; exact rfl; dsimp only [Nat.reduceAdd, Nat.reduceMul, List.nil_append]
     exact Trc.done _ _ _; exact rfl; refine thn_n ?_; refine Gol.seq ?_; apply Gol.region; apply Trc.stp rfl rfl rfl; apply s_move; exact rfl; dsimp only [Nat.reduceAdd, Nat.reduceMul, List.nil_append]
     apply Trc.stp rfl rfl rfl; apply s_move; exact rfl; dsimp only [Nat.reduceAdd, Nat.reduceMul, List.nil_append]
     apply Trc.stp rfl rfl rfl; apply s_move; exact rfl; dsimp only [Nat.reduceAdd, Nat.reduceMul, List.nil_append]
     apply Trc.stp rfl rfl rfl; apply s_ixe; exact rfl; exact rfl; omega; exact ls_ne (by omega); dsimp only [Nat.reduceAdd, Nat.reduceMul, List.nil_append]
     apply Trc.stp rfl rfl rfl; apply s_loadEN; exact rfl; simp only [byA_length, List.length_append, List.length_cons, List.length_nil, List.length_take, List.length_drop, List.length_replicate, List.length_map, Nat.mul_one, nameB_length, flat_length, List.length_set, inA_length, dsA_length, lsA_length, dA_length, lA_length] <;> omega
     exact agu_l (by assumption); dsimp only [Nat.reduceAdd, Nat.reduceMul, List.nil_append]
     apply Trc.stp rfl rfl rfl; apply s_callC rfl; assumption; apply evs.cons rfl; exact evs.nil; dsimp only [List.cons_append, List.nil_append]
     apply ArgL.cons; exact arg_clo; exact ArgL.nil; exact hf; exact Nat.le_of_ble_eq_true rfl; dsimp only [Nat.reduceAdd, Nat.reduceMul, Nat.reduceSub, List.nil_append, List.cons_append, nbk, List.map_cons, List.map_nil]
     exact Trc.done _ _ _; exact rfl; refine thn_n ?_)
    refine Gol.cond_f rfl rfl ?_
    (refine Gol.skip ?_; refine inBlk_n ?_; refine thn_n ?_; apply Gol.region; apply Trc.stp rfl rfl rfl; apply s_addn; exact rfl; exact rfl; simp <;> omega; dsimp only [Nat.reduceAdd, Nat.reduceMul, List.nil_append]
     apply Trc.stp rfl rfl rfl; apply s_move; exact rfl; dsimp only [Nat.reduceAdd, Nat.reduceMul, List.nil_append]
     exact Trc.done _ _ _; exact rfl)
    refine rnd_n (i + 1) (by omega) (by omega) ?_
    (apply Le.mk' []; apply RnT.c; exact rfl; exact Rn.v rfl; apply RnT.c; exact rfl; exact Rn.v rfl; apply RnT.c; exact rfl; exact Rn.clo inferInstance rfl
     apply RnT.c; exact rfl; exact Rn.clo inferInstance rfl; exact RnT.n; exact RnH.n; exact rfl)
  · (refine Gol.exit ?_; refine thn_x ?_; refine rnd_x ?_; refine inBlk_hit ?_; refine thn_n ?_
     refine Gol.seq ?_; apply Gol.region; apply Trc.stp rfl rfl rfl; apply s_assign; exact rfl
     dsimp only [Nat.reduceAdd, Nat.reduceMul, List.nil_append]; exact Trc.done _ _ _; exact rfl
     refine thn_n ?_; refine Gol.ret ?_)
    (apply RetQ.mk (by first | exact .inr rfl | exact .inl rfl); apply res_1 rfl; exact res_tmp rfl; exact out_val)
theorem idxI_none (l : List Int) (fl : Bool) (g : FuncId) [hF : FnI Tryz.prog g] (hl : l.length ≤ 10000000) (h0 : ∀ d ∈ l, Fresh Tryz.prog g [.v (.int .i64 d)] (fun _ => .v (.bool false)) []) :
    Fresh Tryz.prog 100 [.ex l.length fl (inA l), .fn g []] (fun _ => .v (.int .i64 (-1))) [] := by
  refine Fresh.of (fn := Tryz.f100) Tryz.func100 rfl (Nat.le_of_ble_eq_true rfl) fun w => ?_
  (refine Gol.seq ?_; apply Gol.region; apply Trc.stp rfl rfl rfl; apply s_assign; exact rfl
   dsimp only [Nat.reduceAdd, Nat.reduceMul, List.nil_append]; exact Trc.done _ _ _; exact rfl
   refine thn_n ?_; refine Gol.seq ?_; refine Gol.seq ?_; apply Gol.region; apply Trc.stp rfl rfl rfl; apply s_move; exact rfl; dsimp only [Nat.reduceAdd, Nat.reduceMul, List.nil_append]
   apply Trc.stp rfl rfl rfl; apply s_len; exact rfl; exact ln_ex; dsimp only [Nat.reduceAdd, Nat.reduceMul, List.nil_append]
   apply Trc.stp rfl rfl rfl; apply s_move; exact rfl; dsimp only [Nat.reduceAdd, Nat.reduceMul, List.nil_append]
   exact Trc.done _ _ _; exact rfl; refine thn_n ?_; refine Gol.block ?_)
  refine Gol.loop (ι := Nat) (fun i => i ≤ l.length) (fun i => l.length - i) 32 (fun i => []) (fun i => [(8, .v (.int .i64 (i : Int))), (7, .v (.int .i64 (l.length : Int))), (0, .ex l.length fl (inA l)), (1, .fn g [])]) 0 (Nat.zero_le _) ?_ ?_
  · (apply Le.mk' []; apply RnT.c; exact rfl; exact Rn.v rfl; apply RnT.c; exact rfl; exact Rn.v rfl; apply RnT.c; exact rfl; exact Rn.clo inferInstance rfl
     apply RnT.c; exact rfl; exact Rn.clo inferInstance rfl; exact RnT.n; exact RnH.n; exact rfl)
  intro i hi
  (refine Gol.seq ?_; apply Gol.region; apply Trc.stp rfl rfl rfl; apply s_ltn; exact rfl
   exact rfl; dsimp only [Nat.reduceAdd, Nat.reduceMul, List.nil_append]; exact Trc.done _ _ _
   exact rfl; refine thn_n ?_; refine Gol.seq ?_)
  refine Gol.cond rfl (fun h => ?_) (fun h => ?_)
  · have hlt : i < l.length := of_decide_eq_true h
    have hne : inA l ≠ [] := fun e => by have := inA_length l; rw [e] at this; simp at this; omega
    have hd : l[i]? = some (l.getD i 0) := by rw [List.getD_eq_getElem?_getD, List.getElem?_eq_getElem hlt]; rfl
    have hf := h0 _ (List.mem_of_getElem? hd)
    (refine Gol.skip ?_; refine thn_n ?_; refine Gol.seq ?_; refine Gol.block ?_; refine Gol.seq ?_
     apply Gol.region; apply Trc.stp rfl rfl rfl; apply s_move; exact rfl; dsimp only [Nat.reduceAdd, Nat.reduceMul, List.nil_append]
     apply Trc.stp rfl rfl rfl; apply s_assign; exact rfl; dsimp only [Nat.reduceAdd, Nat.reduceMul, List.nil_append]
     exact Trc.done _ _ _; exact rfl; refine thn_n ?_; refine Gol.seq ?_; apply Gol.region; apply Trc.stp rfl rfl rfl; apply s_move; exact rfl; dsimp only [Nat.reduceAdd, Nat.reduceMul, List.nil_append]
     apply Trc.stp rfl rfl rfl; apply s_move; exact rfl; dsimp only [Nat.reduceAdd, Nat.reduceMul, List.nil_append]
     apply Trc.stp rfl rfl rfl; apply s_move; exact rfl; dsimp only [Nat.reduceAdd, Nat.reduceMul, List.nil_append]
     apply Trc.stp rfl rfl rfl; apply s_ixe; exact rfl; exact rfl; omega; assumption; dsimp only [Nat.reduceAdd, Nat.reduceMul, List.nil_append]
     apply Trc.stp rfl rfl rfl; apply s_loadE; exact rfl; apply in_get0; assumption; dsimp only [Nat.reduceAdd, Nat.reduceMul, List.nil_append]
     apply Trc.stp rfl rfl rfl; apply s_callC rfl; assumption; apply evs.cons rfl; exact evs.nil; dsimp only [List.cons_append, List.nil_append]
     apply ArgL.cons; exact arg_clo; exact ArgL.nil; exact hf; exact Nat.le_of_ble_eq_true rfl; dsimp only [Nat.reduceAdd, Nat.reduceMul, Nat.reduceSub, List.nil_append, List.cons_append, nbk, List.map_cons, List.map_nil]
     exact Trc.done _ _ _; exact rfl; refine thn_n ?_)
    refine Gol.cond_f rfl rfl ?_
    (refine Gol.skip ?_; refine inBlk_n ?_; refine thn_n ?_; apply Gol.region; apply Trc.stp rfl rfl rfl; apply s_addn; exact rfl; exact rfl; simp <;> omega; dsimp only [Nat.reduceAdd, Nat.reduceMul, List.nil_append]
     apply Trc.stp rfl rfl rfl; apply s_move; exact rfl; dsimp only [Nat.reduceAdd, Nat.reduceMul, List.nil_append]
     exact Trc.done _ _ _; exact rfl)
    refine rnd_n (i + 1) (by omega) (by omega) ?_
    (apply Le.mk' []; apply RnT.c; exact rfl; exact Rn.v rfl; apply RnT.c; exact rfl; exact Rn.v rfl; apply RnT.c; exact rfl; exact Rn.clo inferInstance rfl
     apply RnT.c; exact rfl; exact Rn.clo inferInstance rfl; exact RnT.n; exact RnH.n; exact rfl)
  · (refine Gol.exit ?_; refine thn_x ?_; refine rnd_x ?_; refine inBlk_hit ?_; refine thn_n ?_
     refine Gol.seq ?_; apply Gol.region; apply Trc.stp rfl rfl rfl; apply s_assign; exact rfl
     dsimp only [Nat.reduceAdd, Nat.reduceMul, List.nil_append]; exact Trc.done _ _ _; exact rfl
     refine thn_n ?_; refine Gol.ret ?_)
    (apply RetQ.mk (by first | exact .inr rfl | exact .inl rfl); apply res_1 rfl; exact res_tmp rfl; exact out_val)
theorem contD_no (l : List Dl) (fl : Bool) (g : FuncId) [hF : FnI Tryz.prog g] (hl : l.length ≤ 10000000) (h0 : ∀ d ∈ l, Fresh Tryz.prog g [.v (.agg (deltaC d.k d.i d.n d.a))] (fun _ => .v (.bool false)) []) :
    Fresh Tryz.prog 60 [.ex l.length fl (dsA l), .fn g []] (fun _ => .v (.bool false)) [] := by
  have hi := fun ff => idxD_ok l ff g [] (fun _ => false) (by omega) h0
  rw [fIx_none] at hi
  apply Fresh.bool
  · refine Fresh.of (fn := Tryz.f60) Tryz.func60 rfl (Nat.le_of_ble_eq_true rfl) fun w => ?_
    (refine Gol.seq ?_; apply Gol.region; apply Trc.stp rfl rfl rfl; apply s_assign; exact rfl
     dsimp only [Nat.reduceAdd, Nat.reduceMul, List.nil_append]; exact Trc.done _ _ _; exact rfl
     refine thn_n ?_; refine Gol.seq ?_; apply Gol.region; apply Trc.stp rfl rfl rfl; apply s_move
     exact rfl; dsimp only [Nat.reduceAdd, Nat.reduceMul, List.nil_append]; apply Trc.stp rfl rfl rfl; apply s_move; exact rfl; dsimp only [Nat.reduceAdd, Nat.reduceMul, List.nil_append]
     apply Trc.stp rfl rfl rfl; apply s_call (f := 74) rfl; apply evs.cons rfl
     apply evs.cons rfl; exact evs.nil; apply ArgL.cons; exact arg_clo; apply ArgL.cons; exact arg_clo; exact ArgL.nil; exact hi _; exact Nat.le_of_ble_eq_true rfl
     dsimp only [Nat.reduceAdd, Nat.reduceMul, Nat.reduceSub, List.nil_append, List.cons_append, nbk, List.map_cons, List.map_nil]; apply Trc.stp rfl rfl rfl; apply s_ge; exact rfl; exact rfl; dsimp only [Nat.reduceAdd, Nat.reduceMul, List.nil_append]
     apply Trc.stp rfl rfl rfl; apply s_assign; exact rfl; dsimp only [Nat.reduceAdd, Nat.reduceMul, List.nil_append]
     exact Trc.done _ _ _; exact rfl; refine thn_n ?_; refine Gol.ret ?_)
    (apply RetQ.mk (by first | exact .inr rfl | exact .inl rfl); apply res_1 rfl; exact res_tmp rfl; exact out_val)
  · decide
theorem contI_no (l : List Int) (fl : Bool) (g : FuncId) [hF : FnI Tryz.prog g] (hl : l.length ≤ 10000000) (h0 : ∀ d ∈ l, Fresh Tryz.prog g [.v (.int .i64 d)] (fun _ => .v (.bool false)) []) :
    Fresh Tryz.prog 63 [.ex l.length fl (inA l), .fn g []] (fun _ => .v (.bool false)) [] := by
  apply Fresh.bool
  · refine Fresh.of (fn := Tryz.f63) Tryz.func63 rfl (Nat.le_of_ble_eq_true rfl) fun w => ?_
    (refine Gol.seq ?_; apply Gol.region; apply Trc.stp rfl rfl rfl; apply s_assign; exact rfl
     dsimp only [Nat.reduceAdd, Nat.reduceMul, List.nil_append]; exact Trc.done _ _ _; exact rfl
     refine thn_n ?_; refine Gol.seq ?_; apply Gol.region; apply Trc.stp rfl rfl rfl; apply s_move
     exact rfl; dsimp only [Nat.reduceAdd, Nat.reduceMul, List.nil_append]; apply Trc.stp rfl rfl rfl; apply s_move; exact rfl; dsimp only [Nat.reduceAdd, Nat.reduceMul, List.nil_append]
     apply Trc.stp rfl rfl rfl; apply s_call (f := 100) rfl; apply evs.cons rfl; apply evs.cons rfl; exact evs.nil
     apply ArgL.cons; exact arg_clo; apply ArgL.cons; exact arg_clo; exact ArgL.nil; exact idxI_none l _ g hl h0; exact Nat.le_of_ble_eq_true rfl; dsimp only [Nat.reduceAdd, Nat.reduceMul, Nat.reduceSub, List.nil_append, List.cons_append, nbk, List.map_cons, List.map_nil]
     apply Trc.stp rfl rfl rfl; apply s_ge; exact rfl; exact rfl; dsimp only [Nat.reduceAdd, Nat.reduceMul, List.nil_append]
     apply Trc.stp rfl rfl rfl; apply s_assign; exact rfl; dsimp only [Nat.reduceAdd, Nat.reduceMul, List.nil_append]
     exact Trc.done _ _ _; exact rfl; refine thn_n ?_; refine Gol.ret ?_)
    (apply RetQ.mk (by first | exact .inr rfl | exact .inl rfl); apply res_1 rfl; exact res_tmp rfl; exact out_val)
  · decide
theorem contL_no (l : List Lk) (fl : Bool) (g : FuncId) [hF : FnI Tryz.prog g] (hl : l.length ≤ 10000000) (h0 : ∀ d ∈ l, Fresh Tryz.prog g [.v (.agg (lockC d.n d.h d.o d.t d.u))] (fun _ => .v (.bool false)) []) :
    Fresh Tryz.prog 64 [.ex l.length fl (lsA l), .fn g []] (fun _ => .v (.bool false)) [] := by
  apply Fresh.bool
  · refine Fresh.of (fn := Tryz.f64) Tryz.func64 rfl (Nat.le_of_ble_eq_true rfl) fun w => ?_
    (refine Gol.seq ?_; apply Gol.region; apply Trc.stp rfl rfl rfl; apply s_assign; exact rfl
     dsimp only [Nat.reduceAdd, Nat.reduceMul, List.nil_append]; exact Trc.done _ _ _; exact rfl
     refine thn_n ?_; refine Gol.seq ?_; apply Gol.region; apply Trc.stp rfl rfl rfl; apply s_move
     exact rfl; dsimp only [Nat.reduceAdd, Nat.reduceMul, List.nil_append]; apply Trc.stp rfl rfl rfl; apply s_move; exact rfl; dsimp only [Nat.reduceAdd, Nat.reduceMul, List.nil_append]
     apply Trc.stp rfl rfl rfl; apply s_call (f := 90) rfl; apply evs.cons rfl
     apply evs.cons rfl; exact evs.nil; apply ArgL.cons; exact arg_clo; apply ArgL.cons; exact arg_clo; exact ArgL.nil; exact idxL_none l _ g hl h0; exact Nat.le_of_ble_eq_true rfl
     dsimp only [Nat.reduceAdd, Nat.reduceMul, Nat.reduceSub, List.nil_append, List.cons_append, nbk, List.map_cons, List.map_nil]; apply Trc.stp rfl rfl rfl; apply s_ge; exact rfl; exact rfl; dsimp only [Nat.reduceAdd, Nat.reduceMul, List.nil_append]
     apply Trc.stp rfl rfl rfl; apply s_assign; exact rfl; dsimp only [Nat.reduceAdd, Nat.reduceMul, List.nil_append]
     exact Trc.done _ _ _; exact rfl; refine thn_n ?_; refine Gol.ret ?_)
    (apply RetQ.mk (by first | exact .inr rfl | exact .inl rfl); apply res_1 rfl; exact res_tmp rfl; exact out_val)
  · decide
end Go.Proofs.YtkkeeokeihkagaaGreat


/-
  Layer 21: Validate accepts a valid state. Conditions: lengths below 2^17.
-/
namespace Go.Proofs.YtkkeeokeihkagaaGreat
open Go.RowKit

theorem ascD_ok (l : List Dl) (fl : Bool) (c : FuncId) [hF : FnI Tryz.prog c] (hl : l.length ≤ 10000000) (h0 : ∀ (i : Nat) x y, l[i]? = some x → l[i + 1]? = some y → ∃ q, q < 0 ∧ Fresh Tryz.prog c [.v (.agg (deltaC x.k x.i x.n x.a)), .v (.agg (deltaC y.k y.i y.n y.a))] (fun _ => .v (.int .i64 q)) []) :
    Fresh Tryz.prog 61 [.ex l.length fl (dsA l), .fn c []] (fun _ => .v (.bool true)) [] := by
  refine Fresh.of (fn := Tryz.f61) Tryz.func61 rfl (Nat.le_of_ble_eq_true rfl) fun w => ?_
  (refine Gol.seq ?_; apply Gol.region; apply Trc.stp rfl rfl rfl; apply s_assign; exact rfl
   dsimp only [Nat.reduceAdd, Nat.reduceMul, List.nil_append]; exact Trc.done _ _ _; exact rfl
   refine thn_n ?_; refine Gol.seq ?_; refine Gol.seq ?_; apply Gol.region; apply Trc.stp rfl rfl rfl; apply s_assign; exact rfl; dsimp only [Nat.reduceAdd, Nat.reduceMul, List.nil_append]
   exact Trc.done _ _ _; exact rfl; refine thn_n ?_; refine Gol.block ?_)
  refine Gol.loop (ι := Nat) (fun j => 1 ≤ j) (fun j => l.length - j) 16 (fun _ => []) (fun j => [(5, .v (.int .i64 (j : Int))), (0, .ex l.length fl (dsA l)), (1, .fn c [])]) 1 (Nat.le_refl _) ?_ ?_
  · (apply Le.mk' []; apply RnT.c; exact rfl; exact Rn.v rfl; apply RnT.c; exact rfl; exact Rn.clo inferInstance rfl; apply RnT.c; exact rfl; exact Rn.clo inferInstance rfl
     exact RnT.n; exact RnH.n; exact rfl)
  intro j hj
  (refine Gol.seq ?_; refine Gol.seq ?_; apply Gol.region; apply Trc.stp rfl rfl rfl; apply s_move
   exact rfl; dsimp only [Nat.reduceAdd, Nat.reduceMul, List.nil_append]; apply Trc.stp rfl rfl rfl; apply s_move; exact rfl; dsimp only [Nat.reduceAdd, Nat.reduceMul, List.nil_append]
   apply Trc.stp rfl rfl rfl; apply s_len; exact rfl; exact ln_ex; dsimp only [Nat.reduceAdd, Nat.reduceMul, List.nil_append]
   apply Trc.stp rfl rfl rfl; apply s_ltn; exact rfl; exact rfl; dsimp only [Nat.reduceAdd, Nat.reduceMul, List.nil_append]
   exact Trc.done _ _ _; exact rfl; refine thn_n ?_)
  refine Gol.cond rfl (fun h => ?_) (fun h => ?_)
  · have hlt : j < l.length := of_decide_eq_true h
    obtain ⟨x, hx⟩ : ∃ x, l[j - 1]? = some x := ⟨l[j - 1], List.getElem?_eq_getElem (by omega)⟩
    obtain ⟨y, hy⟩ : ∃ y, l[j]? = some y := ⟨l[j], List.getElem?_eq_getElem hlt⟩
    have hjj : j - 1 + 1 = j := by omega
    obtain ⟨q, hq, hf⟩ := h0 (j - 1) _ _ hx (by rw [hjj]; exact hy)
    have hq' : ¬ 0 ≤ q := by omega
    (refine Gol.skip ?_; refine thn_n ?_; refine Gol.seq ?_; refine Gol.block ?_; refine Gol.seq ?_
     apply Gol.any; kernel_rfl; apply Trc.stp rfl rfl rfl; apply s_move; exact rfl; dsimp only [Nat.reduceAdd, Nat.reduceMul, List.nil_append]
     apply Trc.stp rfl rfl rfl; apply s_move; exact rfl; dsimp only [Nat.reduceAdd, Nat.reduceMul, List.nil_append]
     apply Trc.stp rfl rfl rfl; apply s_move; exact rfl; dsimp only [Nat.reduceAdd, Nat.reduceMul, List.nil_append]
     apply Trc.stp rfl rfl rfl; apply s_subn; exact rfl; exact rfl; omega; omega; dsimp only [Nat.reduceAdd, Nat.reduceMul, Nat.reduceSub, List.nil_append, List.cons_append, nbk, List.map_cons, List.map_nil]
     apply Trc.stp rfl rfl rfl; apply s_ixe; exact rfl; exact rfl; omega; exact ds_ne (by omega); dsimp only [Nat.reduceAdd, Nat.reduceMul, List.nil_append]
     apply Trc.stp rfl rfl rfl; apply s_loadEN; exact rfl; simp only [byA_length, List.length_append, List.length_cons, List.length_nil, List.length_take, List.length_drop, List.length_replicate, List.length_map, Nat.mul_one, nameB_length, flat_length, List.length_set, inA_length, dsA_length, lsA_length, dA_length, lA_length] <;> omega
     exact agu_d (by assumption); dsimp only [Nat.reduceAdd, Nat.reduceMul, List.nil_append]
     apply Trc.stp rfl rfl rfl; apply s_move; exact rfl; dsimp only [Nat.reduceAdd, Nat.reduceMul, List.nil_append]
     apply Trc.stp rfl rfl rfl; apply s_move; exact rfl; dsimp only [Nat.reduceAdd, Nat.reduceMul, List.nil_append]
     apply Trc.stp rfl rfl rfl; apply s_ixe; exact rfl; exact rfl; omega; exact ds_ne (by omega); dsimp only [Nat.reduceAdd, Nat.reduceMul, List.nil_append]
     apply Trc.stp rfl rfl rfl; apply s_loadEN; exact rfl; simp only [byA_length, List.length_append, List.length_cons, List.length_nil, List.length_take, List.length_drop, List.length_replicate, List.length_map, Nat.mul_one, nameB_length, flat_length, List.length_set, inA_length, dsA_length, lsA_length, dA_length, lA_length] <;> omega
     exact agu_d (by assumption); dsimp only [Nat.reduceAdd, Nat.reduceMul, List.nil_append]
     apply Trc.stp rfl rfl rfl; apply s_callC rfl; assumption; apply evs.cons rfl; apply evs.cons rfl; exact evs.nil; dsimp only [List.cons_append, List.nil_append]
     apply ArgL.cons; exact arg_clo; apply ArgL.cons; exact arg_clo; exact ArgL.nil; exact hf; exact Nat.le_of_ble_eq_true rfl; dsimp only [Nat.reduceAdd, Nat.reduceMul, Nat.reduceSub, List.nil_append, List.cons_append, nbk, List.map_cons, List.map_nil]
     apply Trc.stp rfl rfl rfl; apply s_ge; exact rfl; exact rfl; dsimp only [Nat.reduceAdd, Nat.reduceMul, List.nil_append]
     exact Trc.done _ _ _; kernel_rfl; exact rfl; refine thn_n ?_)
    refine Gol.cond_f rfl (by simp [hq']) ?_
    (refine Gol.skip ?_; refine inBlk_n ?_; refine thn_n ?_; apply Gol.region; apply Trc.stp rfl rfl rfl; apply s_move; exact rfl; dsimp only [Nat.reduceAdd, Nat.reduceMul, List.nil_append]
     apply Trc.stp rfl rfl rfl; apply s_addn; exact rfl; exact rfl; simp <;> omega; dsimp only [Nat.reduceAdd, Nat.reduceMul, List.nil_append]
     apply Trc.stp rfl rfl rfl; apply s_assign; exact rfl; dsimp only [Nat.reduceAdd, Nat.reduceMul, List.nil_append]
     exact Trc.done _ _ _; exact rfl)
    refine rnd_n (j + 1) (by omega) (by omega) ?_
    (apply Le.mk' []; apply RnT.c; exact rfl; exact Rn.v rfl; apply RnT.c; exact rfl; exact Rn.clo inferInstance rfl; apply RnT.c; exact rfl; exact Rn.clo inferInstance rfl
     exact RnT.n; exact RnH.n; exact rfl)
  · (refine Gol.exit ?_; refine thn_x ?_; refine rnd_x ?_; refine inBlk_hit ?_; refine thn_n ?_
     refine Gol.seq ?_; apply Gol.region; apply Trc.stp rfl rfl rfl; apply s_assign; exact rfl
     dsimp only [Nat.reduceAdd, Nat.reduceMul, List.nil_append]; exact Trc.done _ _ _; exact rfl
     refine thn_n ?_; refine Gol.ret ?_)
    (apply RetQ.mk (by first | exact .inr rfl | exact .inl rfl); apply res_1 rfl; exact res_tmp rfl; exact out_val)
theorem ascL_ok (l : List Lk) (fl : Bool) (c : FuncId) [hF : FnI Tryz.prog c] (hl : l.length ≤ 10000000) (h0 : ∀ (i : Nat) x y, l[i]? = some x → l[i + 1]? = some y → ∃ q, q < 0 ∧ Fresh Tryz.prog c [.v (.agg (lockC x.n x.h x.o x.t x.u)), .v (.agg (lockC y.n y.h y.o y.t y.u))] (fun _ => .v (.int .i64 q)) []) :
    Fresh Tryz.prog 65 [.ex l.length fl (lsA l), .fn c []] (fun _ => .v (.bool true)) [] := by
  refine Fresh.of (fn := Tryz.f65) Tryz.func65 rfl (Nat.le_of_ble_eq_true rfl) fun w => ?_
  (refine Gol.seq ?_; apply Gol.region; apply Trc.stp rfl rfl rfl; apply s_assign; exact rfl
   dsimp only [Nat.reduceAdd, Nat.reduceMul, List.nil_append]; exact Trc.done _ _ _; exact rfl
   refine thn_n ?_; refine Gol.seq ?_; refine Gol.seq ?_; apply Gol.region; apply Trc.stp rfl rfl rfl; apply s_assign; exact rfl; dsimp only [Nat.reduceAdd, Nat.reduceMul, List.nil_append]
   exact Trc.done _ _ _; exact rfl; refine thn_n ?_; refine Gol.block ?_)
  refine Gol.loop (ι := Nat) (fun j => 1 ≤ j) (fun j => l.length - j) 16 (fun _ => []) (fun j => [(5, .v (.int .i64 (j : Int))), (0, .ex l.length fl (lsA l)), (1, .fn c [])]) 1 (Nat.le_refl _) ?_ ?_
  · (apply Le.mk' []; apply RnT.c; exact rfl; exact Rn.v rfl; apply RnT.c; exact rfl; exact Rn.clo inferInstance rfl; apply RnT.c; exact rfl; exact Rn.clo inferInstance rfl
     exact RnT.n; exact RnH.n; exact rfl)
  intro j hj
  (refine Gol.seq ?_; refine Gol.seq ?_; apply Gol.region; apply Trc.stp rfl rfl rfl; apply s_move
   exact rfl; dsimp only [Nat.reduceAdd, Nat.reduceMul, List.nil_append]; apply Trc.stp rfl rfl rfl; apply s_move; exact rfl; dsimp only [Nat.reduceAdd, Nat.reduceMul, List.nil_append]
   apply Trc.stp rfl rfl rfl; apply s_len; exact rfl; exact ln_ex; dsimp only [Nat.reduceAdd, Nat.reduceMul, List.nil_append]
   apply Trc.stp rfl rfl rfl; apply s_ltn; exact rfl; exact rfl; dsimp only [Nat.reduceAdd, Nat.reduceMul, List.nil_append]
   exact Trc.done _ _ _; exact rfl; refine thn_n ?_)
  refine Gol.cond rfl (fun h => ?_) (fun h => ?_)
  · have hlt : j < l.length := of_decide_eq_true h
    obtain ⟨x, hx⟩ : ∃ x, l[j - 1]? = some x := ⟨l[j - 1], List.getElem?_eq_getElem (by omega)⟩
    obtain ⟨y, hy⟩ : ∃ y, l[j]? = some y := ⟨l[j], List.getElem?_eq_getElem hlt⟩
    have hjj : j - 1 + 1 = j := by omega
    obtain ⟨q, hq, hf⟩ := h0 (j - 1) _ _ hx (by rw [hjj]; exact hy)
    have hq' : ¬ 0 ≤ q := by omega
    (refine Gol.skip ?_; refine thn_n ?_; refine Gol.seq ?_; refine Gol.block ?_; refine Gol.seq ?_
     apply Gol.any; kernel_rfl; apply Trc.stp rfl rfl rfl; apply s_move; exact rfl; dsimp only [Nat.reduceAdd, Nat.reduceMul, List.nil_append]
     apply Trc.stp rfl rfl rfl; apply s_move; exact rfl; dsimp only [Nat.reduceAdd, Nat.reduceMul, List.nil_append]
     apply Trc.stp rfl rfl rfl; apply s_move; exact rfl; dsimp only [Nat.reduceAdd, Nat.reduceMul, List.nil_append]
     apply Trc.stp rfl rfl rfl; apply s_subn; exact rfl; exact rfl; omega; omega; dsimp only [Nat.reduceAdd, Nat.reduceMul, Nat.reduceSub, List.nil_append, List.cons_append, nbk, List.map_cons, List.map_nil]
     apply Trc.stp rfl rfl rfl; apply s_ixe; exact rfl; exact rfl; omega; exact ls_ne (by omega); dsimp only [Nat.reduceAdd, Nat.reduceMul, List.nil_append]
     apply Trc.stp rfl rfl rfl; apply s_loadEN; exact rfl; simp only [byA_length, List.length_append, List.length_cons, List.length_nil, List.length_take, List.length_drop, List.length_replicate, List.length_map, Nat.mul_one, nameB_length, flat_length, List.length_set, inA_length, dsA_length, lsA_length, dA_length, lA_length] <;> omega
     exact agu_l (by assumption); dsimp only [Nat.reduceAdd, Nat.reduceMul, List.nil_append]
     apply Trc.stp rfl rfl rfl; apply s_move; exact rfl; dsimp only [Nat.reduceAdd, Nat.reduceMul, List.nil_append]
     apply Trc.stp rfl rfl rfl; apply s_move; exact rfl; dsimp only [Nat.reduceAdd, Nat.reduceMul, List.nil_append]
     apply Trc.stp rfl rfl rfl; apply s_ixe; exact rfl; exact rfl; omega; exact ls_ne (by omega); dsimp only [Nat.reduceAdd, Nat.reduceMul, List.nil_append]
     apply Trc.stp rfl rfl rfl; apply s_loadEN; exact rfl; simp only [byA_length, List.length_append, List.length_cons, List.length_nil, List.length_take, List.length_drop, List.length_replicate, List.length_map, Nat.mul_one, nameB_length, flat_length, List.length_set, inA_length, dsA_length, lsA_length, dA_length, lA_length] <;> omega
     exact agu_l (by assumption); dsimp only [Nat.reduceAdd, Nat.reduceMul, List.nil_append]
     apply Trc.stp rfl rfl rfl; apply s_callC rfl; assumption; apply evs.cons rfl; apply evs.cons rfl; exact evs.nil; dsimp only [List.cons_append, List.nil_append]
     apply ArgL.cons; exact arg_clo; apply ArgL.cons; exact arg_clo; exact ArgL.nil; exact hf; exact Nat.le_of_ble_eq_true rfl; dsimp only [Nat.reduceAdd, Nat.reduceMul, Nat.reduceSub, List.nil_append, List.cons_append, nbk, List.map_cons, List.map_nil]
     apply Trc.stp rfl rfl rfl; apply s_ge; exact rfl; exact rfl; dsimp only [Nat.reduceAdd, Nat.reduceMul, List.nil_append]
     exact Trc.done _ _ _; kernel_rfl; exact rfl; refine thn_n ?_)
    refine Gol.cond_f rfl (by simp [hq']) ?_
    (refine Gol.skip ?_; refine inBlk_n ?_; refine thn_n ?_; apply Gol.region; apply Trc.stp rfl rfl rfl; apply s_move; exact rfl; dsimp only [Nat.reduceAdd, Nat.reduceMul, List.nil_append]
     apply Trc.stp rfl rfl rfl; apply s_addn; exact rfl; exact rfl; simp <;> omega; dsimp only [Nat.reduceAdd, Nat.reduceMul, List.nil_append]
     apply Trc.stp rfl rfl rfl; apply s_assign; exact rfl; dsimp only [Nat.reduceAdd, Nat.reduceMul, List.nil_append]
     exact Trc.done _ _ _; exact rfl)
    refine rnd_n (j + 1) (by omega) (by omega) ?_
    (apply Le.mk' []; apply RnT.c; exact rfl; exact Rn.v rfl; apply RnT.c; exact rfl; exact Rn.clo inferInstance rfl; apply RnT.c; exact rfl; exact Rn.clo inferInstance rfl
     exact RnT.n; exact RnH.n; exact rfl)
  · (refine Gol.exit ?_; refine thn_x ?_; refine rnd_x ?_; refine inBlk_hit ?_; refine thn_n ?_
     refine Gol.seq ?_; apply Gol.region; apply Trc.stp rfl rfl rfl; apply s_assign; exact rfl
     dsimp only [Nat.reduceAdd, Nat.reduceMul, List.nil_append]; exact Trc.done _ _ _; exact rfl
     refine thn_n ?_; refine Gol.ret ?_)
    (apply RetQ.mk (by first | exact .inr rfl | exact .inl rfl); apply res_1 rfl; exact res_tmp rfl; exact out_val)
theorem ascN_ok (l : List UInt64) (fl : Bool) (c : FuncId) [hF : FnI Tryz.prog c] (hl : l.length ≤ 10000000) (h0 : ∀ (i : Nat) x y, l[i]? = some x → l[i + 1]? = some y → ∃ q, q < 0 ∧ Fresh Tryz.prog c [.v (.agg (nameC x)), .v (.agg (nameC y))] (fun _ => .v (.int .i64 q)) []) :
    Fresh Tryz.prog 66 [.ex l.length fl (byA (flat l)), .fn c []] (fun _ => .v (.bool true)) [] := by
  refine Fresh.of (fn := Tryz.f66) Tryz.func66 rfl (Nat.le_of_ble_eq_true rfl) fun w => ?_
  (refine Gol.seq ?_; apply Gol.region; apply Trc.stp rfl rfl rfl; apply s_assign; exact rfl
   dsimp only [Nat.reduceAdd, Nat.reduceMul, List.nil_append]; exact Trc.done _ _ _; exact rfl
   refine thn_n ?_; refine Gol.seq ?_; refine Gol.seq ?_; apply Gol.region; apply Trc.stp rfl rfl rfl; apply s_assign; exact rfl; dsimp only [Nat.reduceAdd, Nat.reduceMul, List.nil_append]
   exact Trc.done _ _ _; exact rfl; refine thn_n ?_; refine Gol.block ?_)
  refine Gol.loop (ι := Nat) (fun j => 1 ≤ j) (fun j => l.length - j) 16 (fun _ => []) (fun j => [(5, .v (.int .i64 (j : Int))), (0, .ex l.length fl (byA (flat l))), (1, .fn c [])]) 1 (Nat.le_refl _) ?_ ?_
  · (apply Le.mk' []; apply RnT.c; exact rfl; exact Rn.v rfl; apply RnT.c; exact rfl; exact Rn.clo inferInstance rfl; apply RnT.c; exact rfl; exact Rn.clo inferInstance rfl
     exact RnT.n; exact RnH.n; exact rfl)
  intro j hj
  (refine Gol.seq ?_; refine Gol.seq ?_; apply Gol.region; apply Trc.stp rfl rfl rfl; apply s_move
   exact rfl; dsimp only [Nat.reduceAdd, Nat.reduceMul, List.nil_append]; apply Trc.stp rfl rfl rfl; apply s_move; exact rfl; dsimp only [Nat.reduceAdd, Nat.reduceMul, List.nil_append]
   apply Trc.stp rfl rfl rfl; apply s_len; exact rfl; exact ln_ex; dsimp only [Nat.reduceAdd, Nat.reduceMul, List.nil_append]
   apply Trc.stp rfl rfl rfl; apply s_ltn; exact rfl; exact rfl; dsimp only [Nat.reduceAdd, Nat.reduceMul, List.nil_append]
   exact Trc.done _ _ _; exact rfl; refine thn_n ?_)
  refine Gol.cond rfl (fun h => ?_) (fun h => ?_)
  · have hlt : j < l.length := of_decide_eq_true h
    have hx : l[j - 1]? = some (l.getD (j - 1) 0) := by rw [List.getD_eq_getElem?_getD, List.getElem?_eq_getElem (show j - 1 < l.length by omega)]; rfl
    have hy : l[j]? = some (l.getD j 0) := by rw [List.getD_eq_getElem?_getD, List.getElem?_eq_getElem hlt]; rfl
    have hjj : j - 1 + 1 = j := by omega
    obtain ⟨q, hq, hf⟩ := h0 (j - 1) _ _ hx (by rw [hjj]; exact hy)
    have hq' : ¬ 0 ≤ q := by omega
    (refine Gol.skip ?_; refine thn_n ?_; refine Gol.seq ?_; refine Gol.block ?_; refine Gol.seq ?_
     apply Gol.any; kernel_rfl; apply Trc.stp rfl rfl rfl; apply s_move; exact rfl; dsimp only [Nat.reduceAdd, Nat.reduceMul, List.nil_append]
     apply Trc.stp rfl rfl rfl; apply s_move; exact rfl; dsimp only [Nat.reduceAdd, Nat.reduceMul, List.nil_append]
     apply Trc.stp rfl rfl rfl; apply s_move; exact rfl; dsimp only [Nat.reduceAdd, Nat.reduceMul, List.nil_append]
     apply Trc.stp rfl rfl rfl; apply s_subn; exact rfl; exact rfl; omega; omega; dsimp only [Nat.reduceAdd, Nat.reduceMul, Nat.reduceSub, List.nil_append, List.cons_append, nbk, List.map_cons, List.map_nil]
     apply Trc.stp rfl rfl rfl; apply s_ixe; exact rfl; exact rfl; omega; exact flat_ne (by omega); dsimp only [Nat.reduceAdd, Nat.reduceMul, List.nil_append]
     apply Trc.stp rfl rfl rfl; apply s_loadEN; exact rfl; simp only [byA_length, List.length_append, List.length_cons, List.length_nil, List.length_take, List.length_drop, List.length_replicate, List.length_map, Nat.mul_one, nameB_length, flat_length, List.length_set, inA_length, dsA_length, lsA_length, dA_length, lA_length] <;> omega
     exact agu_nm (by omega); dsimp only [Nat.reduceAdd, Nat.reduceMul, List.nil_append]
     apply Trc.stp rfl rfl rfl; apply s_move; exact rfl; dsimp only [Nat.reduceAdd, Nat.reduceMul, List.nil_append]
     apply Trc.stp rfl rfl rfl; apply s_move; exact rfl; dsimp only [Nat.reduceAdd, Nat.reduceMul, List.nil_append]
     apply Trc.stp rfl rfl rfl; apply s_ixe; exact rfl; exact rfl; omega; exact flat_ne (by omega); dsimp only [Nat.reduceAdd, Nat.reduceMul, List.nil_append]
     apply Trc.stp rfl rfl rfl; apply s_loadEN; exact rfl; simp only [byA_length, List.length_append, List.length_cons, List.length_nil, List.length_take, List.length_drop, List.length_replicate, List.length_map, Nat.mul_one, nameB_length, flat_length, List.length_set, inA_length, dsA_length, lsA_length, dA_length, lA_length] <;> omega
     exact agu_nm (by omega); dsimp only [Nat.reduceAdd, Nat.reduceMul, List.nil_append]
     apply Trc.stp rfl rfl rfl; apply s_callC rfl; assumption; apply evs.cons rfl; apply evs.cons rfl; exact evs.nil; dsimp only [List.cons_append, List.nil_append]
     apply ArgL.cons; exact arg_clo; apply ArgL.cons; exact arg_clo; exact ArgL.nil; exact hf; exact Nat.le_of_ble_eq_true rfl; dsimp only [Nat.reduceAdd, Nat.reduceMul, Nat.reduceSub, List.nil_append, List.cons_append, nbk, List.map_cons, List.map_nil]
     apply Trc.stp rfl rfl rfl; apply s_ge; exact rfl; exact rfl; dsimp only [Nat.reduceAdd, Nat.reduceMul, List.nil_append]
     exact Trc.done _ _ _; kernel_rfl; exact rfl; refine thn_n ?_)
    refine Gol.cond_f rfl (by simp [hq']) ?_
    (refine Gol.skip ?_; refine inBlk_n ?_; refine thn_n ?_; apply Gol.region; apply Trc.stp rfl rfl rfl; apply s_move; exact rfl; dsimp only [Nat.reduceAdd, Nat.reduceMul, List.nil_append]
     apply Trc.stp rfl rfl rfl; apply s_addn; exact rfl; exact rfl; simp <;> omega; dsimp only [Nat.reduceAdd, Nat.reduceMul, List.nil_append]
     apply Trc.stp rfl rfl rfl; apply s_assign; exact rfl; dsimp only [Nat.reduceAdd, Nat.reduceMul, List.nil_append]
     exact Trc.done _ _ _; exact rfl)
    refine rnd_n (j + 1) (by omega) (by omega) ?_
    (apply Le.mk' []; apply RnT.c; exact rfl; exact Rn.v rfl; apply RnT.c; exact rfl; exact Rn.clo inferInstance rfl; apply RnT.c; exact rfl; exact Rn.clo inferInstance rfl
     exact RnT.n; exact RnH.n; exact rfl)
  · (refine Gol.exit ?_; refine thn_x ?_; refine rnd_x ?_; refine inBlk_hit ?_; refine thn_n ?_
     refine Gol.seq ?_; apply Gol.region; apply Trc.stp rfl rfl rfl; apply s_assign; exact rfl
     dsimp only [Nat.reduceAdd, Nat.reduceMul, List.nil_append]; exact Trc.done _ _ _; exact rfl
     refine thn_n ?_; refine Gol.ret ?_)
    (apply RetQ.mk (by first | exact .inr rfl | exact .inl rfl); apply res_1 rfl; exact res_tmp rfl; exact out_val)
theorem compareLocks_ok (y x : Lk) : Fresh Tryz.prog 48 [.v (.agg (lockC y.n y.h y.o y.t y.u)), .v (.agg (lockC x.n x.h x.o x.t x.u))] (fun _ => .v (.int .i64 (cmpN y.n x.n))) [] := by
  refine Fresh.of (fn := Tryz.f48) Tryz.func48 rfl (Nat.le_of_ble_eq_true rfl) fun w => ?_
  (refine Gol.seq ?_; apply Gol.region; apply Trc.stp rfl rfl rfl; apply s_box; exact rfl
   exact rfl; dsimp only [Nat.reduceAdd, Nat.reduceMul, Nat.reduceSub, List.nil_append, List.cons_append, nbk, List.map_cons, List.map_nil]; apply Trc.stp rfl rfl rfl; apply s_box; exact rfl; exact rfl; dsimp only [Nat.reduceAdd, Nat.reduceMul, Nat.reduceSub, List.nil_append, List.cons_append, nbk, List.map_cons, List.map_nil]
   apply Trc.stp rfl rfl rfl; apply s_assign; exact rfl; dsimp only [Nat.reduceAdd, Nat.reduceMul, List.nil_append]
   exact Trc.done _ _ _; exact rfl; refine thn_n ?_; refine Gol.seq ?_; apply Gol.region; apply Trc.stp rfl rfl rfl; apply s_fieldAddr; exact rfl; dsimp only [Nat.reduceAdd, Nat.reduceMul, List.nil_append]
   apply Trc.stp rfl rfl rfl; apply s_loadN; exact rfl; exact rfl; exact Nat.le_of_ble_eq_true rfl; exact agu_nm8 rfl; dsimp only [Nat.reduceAdd, Nat.reduceMul, List.nil_append]
   apply Trc.stp rfl rfl rfl; apply s_fieldAddr; exact rfl; dsimp only [Nat.reduceAdd, Nat.reduceMul, List.nil_append]
   apply Trc.stp rfl rfl rfl; apply s_loadN; exact rfl; exact rfl; exact Nat.le_of_ble_eq_true rfl; exact agu_nm8 rfl; dsimp only [Nat.reduceAdd, Nat.reduceMul, List.nil_append]
   apply Trc.stp rfl rfl rfl; apply s_call (f := 67) rfl; apply evs.cons rfl; apply evs.cons rfl; exact evs.nil
   apply ArgL.cons; exact arg_clo; apply ArgL.cons; exact arg_clo; exact ArgL.nil; exact compareNames_ok _ _; exact Nat.le_of_ble_eq_true rfl; dsimp only [Nat.reduceAdd, Nat.reduceMul, Nat.reduceSub, List.nil_append, List.cons_append, nbk, List.map_cons, List.map_nil]
   apply Trc.stp rfl rfl rfl; apply s_assign; exact rfl; dsimp only [Nat.reduceAdd, Nat.reduceMul, List.nil_append]
   exact Trc.done _ _ _; exact rfl; refine thn_n ?_; refine Gol.ret ?_)
  (apply RetQ.mk (by first | exact .inr rfl | exact .inl rfl); apply res_1 rfl; exact res_tmp rfl; exact out_val)
theorem validate_ok (s : Stt) (hs : Sm s) (h : ValidS s) : Fresh Tryz.prog 29 [stA s] (fun _ => .v (.int .i64 0)) [] := by
  obtain ⟨h1, h2, h3, h4⟩ := hs
  obtain ⟨v1, v2, v3, v4, v5, v6, v7, v8, v9, v10⟩ := h
  have g1 : ¬ s.seqs.length < 1 := by omega
  have g2 : ¬ 16 < s.seqs.length := by omega
  have g3 : ¬ s.guilty < 0 := by omega
  have g4 : ¬ 1023 < s.guilty := by omega
  unfold stA
  refine Fresh.of (fn := Tryz.f29) Tryz.func29 rfl (Nat.le_of_ble_eq_true rfl) fun w => ?_
  (refine Gol.seq ?_; apply Gol.region; apply Trc.stp rfl rfl rfl; apply s_box; exact rfl
   exact rfl; dsimp only [Nat.reduceAdd, Nat.reduceMul, Nat.reduceSub, List.nil_append, List.cons_append, nbk, List.map_cons, List.map_nil]; apply Trc.stp rfl rfl rfl; apply s_assign; exact rfl; dsimp only [Nat.reduceAdd, Nat.reduceMul, List.nil_append]
   exact Trc.done _ _ _; exact rfl; refine thn_n ?_; refine Gol.seq ?_; apply Gol.region; apply Trc.stp rfl rfl rfl; apply s_assign; exact rfl; dsimp only [Nat.reduceAdd, Nat.reduceMul, List.nil_append]
   exact Trc.done _ _ _; exact rfl; refine thn_n ?_; refine Gol.seq ?_; apply Gol.region; apply Trc.stp rfl rfl rfl; apply s_assign; exact rfl; dsimp only [Nat.reduceAdd, Nat.reduceMul, List.nil_append]
   exact Trc.done _ _ _; exact rfl; refine thn_n ?_; refine Gol.seq ?_; apply Gol.region; apply Trc.stp rfl rfl rfl; apply s_assign; exact rfl; dsimp only [Nat.reduceAdd, Nat.reduceMul, List.nil_append]
   exact Trc.done _ _ _; exact rfl; refine thn_n ?_; refine Gol.seq ?_; refine Gol.seq ?_; apply Gol.region
   apply Trc.stp rfl rfl rfl; apply s_fieldAddr; exact rfl; dsimp only [Nat.reduceAdd, Nat.reduceMul, List.nil_append]
   apply Trc.stp rfl rfl rfl; apply s_load; exact rfl; exact rfl; exact rfl; dsimp only [Nat.reduceAdd, Nat.reduceMul, List.nil_append]
   apply Trc.stp rfl rfl rfl; apply s_move; exact rfl; dsimp only [Nat.reduceAdd, Nat.reduceMul, List.nil_append]
   apply Trc.stp rfl rfl rfl; apply s_call (f := 60) rfl; apply evs.cons rfl
   apply evs.cons rfl; exact evs.nil; apply ArgL.cons; exact arg_clo; apply ArgL.cons; exact arg_clo; exact ArgL.nil; exact contD_no s.cells _ _ (by omega) (fun d hd => badCell_no d (v1 d hd))
   exact Nat.le_of_ble_eq_true rfl; dsimp only [Nat.reduceAdd, Nat.reduceMul, Nat.reduceSub, List.nil_append, List.cons_append, nbk, List.map_cons, List.map_nil]
   apply Trc.stp rfl rfl rfl; apply s_move; exact rfl; dsimp only [Nat.reduceAdd, Nat.reduceMul, List.nil_append]
   apply Trc.step rfl rfl; apply wnt_g; exact rfl; exact rfl; exact rfl; rfl; apply s_fieldAddr; exact rfl; dsimp only [Nat.reduceAdd, Nat.reduceMul, List.nil_append]
   apply Trc.step rfl rfl; apply wnt_g; exact rfl; exact rfl; exact rfl; rfl; apply s_load; exact rfl; exact rfl; exact rfl; dsimp only [Nat.reduceAdd, Nat.reduceMul, List.nil_append]
   apply Trc.step rfl rfl; apply wnt_g; exact rfl; exact rfl; exact rfl; rfl; apply s_call (f := 61) rfl
   apply evs.cons rfl; apply evs.cons rfl; exact evs.nil; apply ArgL.cons; exact arg_clo; apply ArgL.cons; exact arg_clo; exact ArgL.nil; exact ascD_ok s.cells _ _ (by omega) (fun i x y hx hy => ⟨_, v2 i x y hx hy, compareCells_ok x y⟩)
   exact Nat.le_of_ble_eq_true rfl; dsimp only [Nat.reduceAdd, Nat.reduceMul, Nat.reduceSub, List.nil_append, List.cons_append, nbk, List.map_cons, List.map_nil]
   apply Trc.step rfl rfl; apply wnt_g; exact rfl; exact rfl; exact rfl; rfl; apply s_not; exact rfl; dsimp only [Nat.reduceAdd, Nat.reduceMul, List.nil_append]
   apply Trc.stp rfl rfl rfl; apply s_pick_f; exact rfl; rfl; exact rfl; dsimp only [Nat.reduceAdd, Nat.reduceMul, List.nil_append]
   apply Trc.stp rfl rfl rfl; apply s_move; exact rfl; dsimp only [Nat.reduceAdd, Nat.reduceMul, List.nil_append]
   apply Trc.step rfl rfl; apply wnt_g; exact rfl; exact rfl; exact rfl; rfl; apply s_fieldAddr; exact rfl; dsimp only [Nat.reduceAdd, Nat.reduceMul, List.nil_append]
   apply Trc.step rfl rfl; apply wnt_g; exact rfl; exact rfl; exact rfl; rfl; apply s_load; exact rfl; exact rfl; exact rfl; dsimp only [Nat.reduceAdd, Nat.reduceMul, List.nil_append]
   apply Trc.step rfl rfl; apply wnt_g; exact rfl; exact rfl; exact rfl; rfl; apply s_len; exact rfl; exact ln_ex; dsimp only [Nat.reduceAdd, Nat.reduceMul, List.nil_append]
   apply Trc.step rfl rfl; apply wnt_g; exact rfl; exact rfl; exact rfl; rfl; apply s_ltn; exact rfl; exact rfl; dsimp only [Nat.reduceAdd, Nat.reduceMul, List.nil_append]
   apply Trc.stp rfl rfl rfl; apply s_pick_f; exact rfl; rfl; exact rfl; dsimp only [Nat.reduceAdd, Nat.reduceMul, List.nil_append]
   apply Trc.stp rfl rfl rfl; apply s_move; exact rfl; dsimp only [Nat.reduceAdd, Nat.reduceMul, List.nil_append]
   apply Trc.step rfl rfl; apply wnt_g; exact rfl; exact rfl; exact rfl; (focus (simp only [*]; rfl)); apply s_fieldAddr; exact rfl; dsimp only [Nat.reduceAdd, Nat.reduceMul, List.nil_append]
   apply Trc.step rfl rfl; apply wnt_g; exact rfl; exact rfl; exact rfl; (focus (simp only [*]; rfl)); apply s_load; exact rfl; exact rfl
   exact rfl; dsimp only [Nat.reduceAdd, Nat.reduceMul, List.nil_append]; apply Trc.step rfl rfl
   apply wnt_g; exact rfl; exact rfl; exact rfl; (focus (simp only [*]; rfl)); apply s_len; exact rfl; exact ln_ex; dsimp only [Nat.reduceAdd, Nat.reduceMul, List.nil_append]
   apply Trc.step rfl rfl; apply wnt_g; exact rfl; exact rfl; exact rfl; (focus (simp only [*]; rfl)); apply s_gtn; exact rfl; exact rfl
   dsimp only [Nat.reduceAdd, Nat.reduceMul, List.nil_append]; apply Trc.stp rfl rfl rfl; apply s_pick_f; exact rfl; (focus (simp only [*]; rfl)); exact rfl; dsimp only [Nat.reduceAdd, Nat.reduceMul, List.nil_append]
   apply Trc.stp rfl rfl rfl; apply s_move; exact rfl; dsimp only [Nat.reduceAdd, Nat.reduceMul, List.nil_append]
   apply Trc.step rfl rfl; apply wnt_g; exact rfl; exact rfl; exact rfl; (focus (simp only [*]; rfl)); apply s_fieldAddr; exact rfl; dsimp only [Nat.reduceAdd, Nat.reduceMul, List.nil_append]
   apply Trc.step rfl rfl; apply wnt_g; exact rfl; exact rfl; exact rfl; (focus (simp only [*]; rfl)); apply s_load; exact rfl; exact rfl
   exact rfl; dsimp only [Nat.reduceAdd, Nat.reduceMul, List.nil_append]; apply Trc.step rfl rfl
   apply wnt_g; exact rfl; exact rfl; exact rfl; (focus (simp only [*]; rfl)); apply s_move; exact rfl; dsimp only [Nat.reduceAdd, Nat.reduceMul, List.nil_append]
   apply Trc.step rfl rfl; apply wnt_g; exact rfl; exact rfl; exact rfl; (focus (simp only [*]; rfl)); apply s_call (f := 63) rfl
   apply evs.cons rfl; apply evs.cons rfl; exact evs.nil; apply ArgL.cons; exact arg_clo; apply ArgL.cons; exact arg_clo; exact ArgL.nil; exact contI_no s.seqs _ _ (by omega) (fun d hd => badSeq_no d (v5 d hd))
   exact Nat.le_of_ble_eq_true rfl; dsimp only [Nat.reduceAdd, Nat.reduceMul, Nat.reduceSub, List.nil_append, List.cons_append, nbk, List.map_cons, List.map_nil]
   apply Trc.stp rfl rfl rfl; apply s_pick_f; exact rfl; (focus (simp only [*]; rfl)); exact rfl; dsimp only [Nat.reduceAdd, Nat.reduceMul, List.nil_append]
   apply Trc.stp rfl rfl rfl; apply s_move; exact rfl; dsimp only [Nat.reduceAdd, Nat.reduceMul, List.nil_append]
   apply Trc.step rfl rfl; apply wnt_g; exact rfl; exact rfl; exact rfl; rfl; apply s_fieldAddr; exact rfl; dsimp only [Nat.reduceAdd, Nat.reduceMul, List.nil_append]
   apply Trc.step rfl rfl; apply wnt_g; exact rfl; exact rfl; exact rfl; rfl; apply s_load; exact rfl; exact rfl; exact rfl; dsimp only [Nat.reduceAdd, Nat.reduceMul, List.nil_append]
   apply Trc.step rfl rfl; apply wnt_g; exact rfl; exact rfl; exact rfl; rfl; apply s_move; exact rfl; dsimp only [Nat.reduceAdd, Nat.reduceMul, List.nil_append]
   apply Trc.step rfl rfl; apply wnt_g; exact rfl; exact rfl; exact rfl; rfl; apply s_call (f := 64) rfl
   apply evs.cons rfl; apply evs.cons rfl; exact evs.nil; apply ArgL.cons; exact arg_clo; apply ArgL.cons; exact arg_clo; exact ArgL.nil; exact contL_no s.locks _ _ (by omega) (fun d hd => badLock_no d (v6 d hd))
   exact Nat.le_of_ble_eq_true rfl; dsimp only [Nat.reduceAdd, Nat.reduceMul, Nat.reduceSub, List.nil_append, List.cons_append, nbk, List.map_cons, List.map_nil]
   apply Trc.stp rfl rfl rfl; apply s_pick_f; exact rfl; rfl; exact rfl; dsimp only [Nat.reduceAdd, Nat.reduceMul, List.nil_append]
   apply Trc.stp rfl rfl rfl; apply s_move; exact rfl; dsimp only [Nat.reduceAdd, Nat.reduceMul, List.nil_append]
   apply Trc.step rfl rfl; apply wnt_g; exact rfl; exact rfl; exact rfl; rfl; apply s_fieldAddr; exact rfl; dsimp only [Nat.reduceAdd, Nat.reduceMul, List.nil_append]
   apply Trc.step rfl rfl; apply wnt_g; exact rfl; exact rfl; exact rfl; rfl; apply s_load; exact rfl; exact rfl; exact rfl; dsimp only [Nat.reduceAdd, Nat.reduceMul, List.nil_append]
   apply Trc.step rfl rfl; apply wnt_g; exact rfl; exact rfl; exact rfl; rfl; apply s_call (f := 65) rfl
   apply evs.cons rfl; apply evs.cons rfl; exact evs.nil; apply ArgL.cons; exact arg_clo; apply ArgL.cons; exact arg_clo; exact ArgL.nil; exact ascL_ok s.locks _ _ (by omega) (fun i x y hx hy => ⟨_, v7 i x y hx hy, compareLocks_ok x y⟩)
   exact Nat.le_of_ble_eq_true rfl; dsimp only [Nat.reduceAdd, Nat.reduceMul, Nat.reduceSub, List.nil_append, List.cons_append, nbk, List.map_cons, List.map_nil]
   apply Trc.step rfl rfl; apply wnt_g; exact rfl; exact rfl; exact rfl; rfl; apply s_not; exact rfl; dsimp only [Nat.reduceAdd, Nat.reduceMul, List.nil_append]
   apply Trc.stp rfl rfl rfl; apply s_pick_f; exact rfl; rfl; exact rfl; dsimp only [Nat.reduceAdd, Nat.reduceMul, List.nil_append]
   apply Trc.stp rfl rfl rfl; apply s_move; exact rfl; dsimp only [Nat.reduceAdd, Nat.reduceMul, List.nil_append]
   apply Trc.step rfl rfl; apply wnt_g; exact rfl; exact rfl; exact rfl; rfl; apply s_fieldAddr; exact rfl; dsimp only [Nat.reduceAdd, Nat.reduceMul, List.nil_append]
   apply Trc.step rfl rfl; apply wnt_g; exact rfl; exact rfl; exact rfl; rfl; apply s_load; exact rfl; exact rfl; exact rfl; dsimp only [Nat.reduceAdd, Nat.reduceMul, List.nil_append]
   apply Trc.step rfl rfl; apply wnt_g; exact rfl; exact rfl; exact rfl; rfl; apply s_call (f := 66) rfl
   apply evs.cons rfl; apply evs.cons rfl; exact evs.nil; apply ArgL.cons; exact arg_clo; apply ArgL.cons; exact arg_clo; exact ArgL.nil; exact ascN_ok s.applied _ _ (by omega) (fun i x y hx hy => ⟨_, v8 i x y hx hy, compareNames_ok x y⟩)
   exact Nat.le_of_ble_eq_true rfl; dsimp only [Nat.reduceAdd, Nat.reduceMul, Nat.reduceSub, List.nil_append, List.cons_append, nbk, List.map_cons, List.map_nil]
   apply Trc.step rfl rfl; apply wnt_g; exact rfl; exact rfl; exact rfl; rfl; apply s_not; exact rfl; dsimp only [Nat.reduceAdd, Nat.reduceMul, List.nil_append]
   apply Trc.stp rfl rfl rfl; apply s_pick_f; exact rfl; rfl; exact rfl; dsimp only [Nat.reduceAdd, Nat.reduceMul, List.nil_append]
   apply Trc.stp rfl rfl rfl; apply s_move; exact rfl; dsimp only [Nat.reduceAdd, Nat.reduceMul, List.nil_append]
   apply Trc.step rfl rfl; apply wnt_g; exact rfl; exact rfl; exact rfl; rfl; apply s_fieldAddr; exact rfl; dsimp only [Nat.reduceAdd, Nat.reduceMul, List.nil_append]
   apply Trc.step rfl rfl; apply wnt_g; exact rfl; exact rfl; exact rfl; rfl; apply s_load; exact rfl; exact rfl; exact rfl; dsimp only [Nat.reduceAdd, Nat.reduceMul, List.nil_append]
   apply Trc.step rfl rfl; apply wnt_g; exact rfl; exact rfl; exact rfl; rfl; apply s_lt; exact rfl; exact rfl; dsimp only [Nat.reduceAdd, Nat.reduceMul, List.nil_append]
   apply Trc.stp rfl rfl rfl; apply s_pick_f; exact rfl; rfl; exact rfl; dsimp only [Nat.reduceAdd, Nat.reduceMul, List.nil_append]
   apply Trc.stp rfl rfl rfl; apply s_move; exact rfl; dsimp only [Nat.reduceAdd, Nat.reduceMul, List.nil_append]
   apply Trc.step rfl rfl; apply wnt_g; exact rfl; exact rfl; exact rfl; (focus (simp only [*]; rfl)); apply s_fieldAddr; exact rfl; dsimp only [Nat.reduceAdd, Nat.reduceMul, List.nil_append]
   apply Trc.step rfl rfl; apply wnt_g; exact rfl; exact rfl; exact rfl; (focus (simp only [*]; rfl)); apply s_load; exact rfl; exact rfl
   exact rfl; dsimp only [Nat.reduceAdd, Nat.reduceMul, List.nil_append]; apply Trc.step rfl rfl
   apply wnt_g; exact rfl; exact rfl; exact rfl; (focus (simp only [*]; rfl)); apply s_gt; exact rfl; exact rfl; dsimp only [Nat.reduceAdd, Nat.reduceMul, List.nil_append]
   apply Trc.stp rfl rfl rfl; apply s_pick_f; exact rfl; (focus (simp only [*]; rfl)); exact rfl; dsimp only [Nat.reduceAdd, Nat.reduceMul, List.nil_append]
   exact Trc.done _ _ _; exact rfl; refine thn_n ?_)
  refine Gol.cond_f rfl (by simp [g4]) ?_
  (refine Gol.skip ?_; refine thn_n ?_; refine Gol.seq ?_; apply Gol.region; apply Trc.stp rfl rfl rfl; apply s_assign; exact rfl; dsimp only [Nat.reduceAdd, Nat.reduceMul, List.nil_append]
   exact Trc.done _ _ _; exact rfl; refine thn_n ?_; refine Gol.ret ?_)
  (apply RetQ.mk (by first | exact .inr rfl | exact .inl rfl); apply res_1 rfl; exact res_tmp rfl; exact out_val)
theorem amount_ok (n : Int) (h : 0 ≤ n ∧ n ≤ 1099511627776) : Fresh Tryz.prog 96 [.v (.int .i64 n)] (fun _ => .v (.bool true)) [] := by
  have h1 := h.1
  apply Fresh.bool
  · refine Fresh.of (fn := Tryz.f96) Tryz.func96 rfl (Nat.le_of_ble_eq_true rfl) fun w => ?_
    (refine Gol.seq ?_; apply Gol.region; apply Trc.stp rfl rfl rfl; apply s_assign; exact rfl
     dsimp only [Nat.reduceAdd, Nat.reduceMul, List.nil_append]; exact Trc.done _ _ _; exact rfl
     refine thn_n ?_; refine Gol.seq ?_; apply Gol.region; apply Trc.stp rfl rfl rfl; apply s_move
     exact rfl; dsimp only [Nat.reduceAdd, Nat.reduceMul, List.nil_append]; apply Trc.stp rfl rfl rfl; apply s_ge; exact rfl; exact rfl; dsimp only [Nat.reduceAdd, Nat.reduceMul, List.nil_append]
     apply Trc.stp rfl rfl rfl; apply s_move; exact rfl; dsimp only [Nat.reduceAdd, Nat.reduceMul, List.nil_append]
     apply Trc.step rfl rfl; apply wnt_g; exact rfl; exact rfl; exact rfl; (focus (simp only [*]; rfl)); apply s_move; exact rfl; dsimp only [Nat.reduceAdd, Nat.reduceMul, List.nil_append]
     apply Trc.step rfl rfl; apply wnt_g; exact rfl; exact rfl; exact rfl; (focus (simp only [*]; rfl)); apply s_le; exact rfl; exact rfl
     dsimp only [Nat.reduceAdd, Nat.reduceMul, List.nil_append]; apply Trc.stp rfl rfl rfl; apply s_pick_t; exact rfl; (focus (simp only [*]; rfl)); exact rfl; dsimp only [Nat.reduceAdd, Nat.reduceMul, List.nil_append]
     apply Trc.stp rfl rfl rfl; apply s_assign; exact rfl; dsimp only [Nat.reduceAdd, Nat.reduceMul, List.nil_append]
     exact Trc.done _ _ _; exact rfl; refine thn_n ?_; refine Gol.ret ?_)
    (apply RetQ.mk (by first | exact .inr rfl | exact .inl rfl); apply res_1 rfl; exact res_tmp rfl; exact out_val)
  · simp [h.2]
theorem valGen_yes (V A : List AV) [hV : CloL V] [hA : CloL A] : Fresh Tryz.prog 54 [.ag [.v (.int .i64 1), .v (.int .i64 3), .ex 1 false V, .ex 1 false A, .ex 1 false (inA [7])]] (fun _ => .v (.int .i64 0)) [] := by
  refine Fresh.of (fn := Tryz.f54) Tryz.func54 rfl (Nat.le_of_ble_eq_true rfl) fun w => ?_
  (refine Gol.seq ?_; apply Gol.region; apply Trc.stp rfl rfl rfl; apply s_box; exact rfl
   exact rfl; dsimp only [Nat.reduceAdd, Nat.reduceMul, Nat.reduceSub, List.nil_append, List.cons_append, nbk, List.map_cons, List.map_nil]; apply Trc.stp rfl rfl rfl; apply s_assign; exact rfl; dsimp only [Nat.reduceAdd, Nat.reduceMul, List.nil_append]
   exact Trc.done _ _ _; exact rfl; refine thn_n ?_; refine Gol.seq ?_; apply Gol.any; kernel_rfl; apply Trc.stp rfl rfl rfl; apply s_fieldAddr; exact rfl; dsimp only [Nat.reduceAdd, Nat.reduceMul, List.nil_append]
   apply Trc.stp rfl rfl rfl; apply s_load; exact rfl; exact rfl; exact rfl; dsimp only [Nat.reduceAdd, Nat.reduceMul, List.nil_append]
   apply Trc.stp rfl rfl rfl; apply s_len; exact rfl; exact ln_ex; dsimp only [Nat.reduceAdd, Nat.reduceMul, List.nil_append]
   apply Trc.stp rfl rfl rfl; apply s_fieldAddr; exact rfl; dsimp only [Nat.reduceAdd, Nat.reduceMul, List.nil_append]
   apply Trc.stp rfl rfl rfl; apply s_load; exact rfl; exact rfl; exact rfl; dsimp only [Nat.reduceAdd, Nat.reduceMul, List.nil_append]
   apply Trc.stp rfl rfl rfl; apply s_len; exact rfl; exact ln_ex; dsimp only [Nat.reduceAdd, Nat.reduceMul, List.nil_append]
   apply Trc.stp rfl rfl rfl; apply s_assign; exact rfl; dsimp only [Nat.reduceAdd, Nat.reduceMul, List.nil_append]
   apply Trc.stp rfl rfl rfl; apply s_assign; exact rfl; dsimp only [Nat.reduceAdd, Nat.reduceMul, List.nil_append]
   exact Trc.done _ _ _; kernel_rfl; exact rfl; refine thn_n ?_; refine Gol.seq ?_; refine Gol.seq ?_
   apply Gol.region; apply Trc.stp rfl rfl rfl; apply s_fieldAddr; exact rfl; dsimp only [Nat.reduceAdd, Nat.reduceMul, List.nil_append]
   apply Trc.stp rfl rfl rfl; apply s_load; exact rfl; exact rfl; exact rfl; dsimp only [Nat.reduceAdd, Nat.reduceMul, List.nil_append]
   apply Trc.stp rfl rfl rfl; apply s_ltn; exact rfl; exact rfl; dsimp only [Nat.reduceAdd, Nat.reduceMul, List.nil_append]
   apply Trc.stp rfl rfl rfl; apply s_move; exact rfl; dsimp only [Nat.reduceAdd, Nat.reduceMul, List.nil_append]
   apply Trc.step rfl rfl; apply wnt_g; exact rfl; exact rfl; exact rfl; rfl; apply s_fieldAddr; exact rfl; dsimp only [Nat.reduceAdd, Nat.reduceMul, List.nil_append]
   apply Trc.step rfl rfl; apply wnt_g; exact rfl; exact rfl; exact rfl; rfl; apply s_load; exact rfl; exact rfl; exact rfl; dsimp only [Nat.reduceAdd, Nat.reduceMul, List.nil_append]
   apply Trc.step rfl rfl; apply wnt_g; exact rfl; exact rfl; exact rfl; rfl; apply s_gtn; exact rfl; exact rfl; dsimp only [Nat.reduceAdd, Nat.reduceMul, List.nil_append]
   apply Trc.stp rfl rfl rfl; apply s_pick_f; exact rfl; rfl; exact rfl; dsimp only [Nat.reduceAdd, Nat.reduceMul, List.nil_append]
   apply Trc.stp rfl rfl rfl; apply s_move; exact rfl; dsimp only [Nat.reduceAdd, Nat.reduceMul, List.nil_append]
   apply Trc.step rfl rfl; apply wnt_g; exact rfl; exact rfl; exact rfl; rfl; apply s_move; exact rfl; dsimp only [Nat.reduceAdd, Nat.reduceMul, List.nil_append]
   apply Trc.step rfl rfl; apply wnt_g; exact rfl; exact rfl; exact rfl; rfl; apply s_ltn; exact rfl; exact rfl; dsimp only [Nat.reduceAdd, Nat.reduceMul, List.nil_append]
   apply Trc.stp rfl rfl rfl; apply s_pick_f; exact rfl; rfl; exact rfl; dsimp only [Nat.reduceAdd, Nat.reduceMul, List.nil_append]
   apply Trc.stp rfl rfl rfl; apply s_move; exact rfl; dsimp only [Nat.reduceAdd, Nat.reduceMul, List.nil_append]
   apply Trc.step rfl rfl; apply wnt_g; exact rfl; exact rfl; exact rfl; rfl; apply s_move; exact rfl; dsimp only [Nat.reduceAdd, Nat.reduceMul, List.nil_append]
   apply Trc.step rfl rfl; apply wnt_g; exact rfl; exact rfl; exact rfl; rfl; apply s_gtn; exact rfl; exact rfl; dsimp only [Nat.reduceAdd, Nat.reduceMul, List.nil_append]
   apply Trc.stp rfl rfl rfl; apply s_pick_f; exact rfl; rfl; exact rfl; dsimp only [Nat.reduceAdd, Nat.reduceMul, List.nil_append]
   apply Trc.stp rfl rfl rfl; apply s_move; exact rfl; dsimp only [Nat.reduceAdd, Nat.reduceMul, List.nil_append]
   apply Trc.step rfl rfl; apply wnt_g; exact rfl; exact rfl; exact rfl; rfl; apply s_move; exact rfl; dsimp only [Nat.reduceAdd, Nat.reduceMul, List.nil_append]
   apply Trc.step rfl rfl; apply wnt_g; exact rfl; exact rfl; exact rfl; rfl; apply s_fieldAddr; exact rfl; dsimp only [Nat.reduceAdd, Nat.reduceMul, List.nil_append]
   apply Trc.step rfl rfl; apply wnt_g; exact rfl; exact rfl; exact rfl; rfl; apply s_load; exact rfl; exact rfl; exact rfl; dsimp only [Nat.reduceAdd, Nat.reduceMul, List.nil_append]
   apply Trc.step rfl rfl; apply wnt_g; exact rfl; exact rfl; exact rfl; rfl; apply s_ltn; exact rfl; exact rfl; dsimp only [Nat.reduceAdd, Nat.reduceMul, List.nil_append]
   apply Trc.stp rfl rfl rfl; apply s_pick_f; exact rfl; rfl; exact rfl; dsimp only [Nat.reduceAdd, Nat.reduceMul, List.nil_append]
   apply Trc.stp rfl rfl rfl; apply s_move; exact rfl; dsimp only [Nat.reduceAdd, Nat.reduceMul, List.nil_append]
   apply Trc.step rfl rfl; apply wnt_g; exact rfl; exact rfl; exact rfl; rfl; apply s_move; exact rfl; dsimp only [Nat.reduceAdd, Nat.reduceMul, List.nil_append]
   apply Trc.step rfl rfl; apply wnt_g; exact rfl; exact rfl; exact rfl; rfl; apply s_ltn; exact rfl; exact rfl; dsimp only [Nat.reduceAdd, Nat.reduceMul, List.nil_append]
   apply Trc.stp rfl rfl rfl; apply s_pick_f; exact rfl; rfl; exact rfl; dsimp only [Nat.reduceAdd, Nat.reduceMul, List.nil_append]
   apply Trc.stp rfl rfl rfl; apply s_move; exact rfl; dsimp only [Nat.reduceAdd, Nat.reduceMul, List.nil_append]
   apply Trc.step rfl rfl; apply wnt_g; exact rfl; exact rfl; exact rfl; rfl; apply s_move; exact rfl; dsimp only [Nat.reduceAdd, Nat.reduceMul, List.nil_append]
   apply Trc.step rfl rfl; apply wnt_g; exact rfl; exact rfl; exact rfl; rfl; apply s_gtn; exact rfl; exact rfl; dsimp only [Nat.reduceAdd, Nat.reduceMul, List.nil_append]
   apply Trc.stp rfl rfl rfl; apply s_pick_f; exact rfl; rfl; exact rfl; dsimp only [Nat.reduceAdd, Nat.reduceMul, List.nil_append]
   apply Trc.stp rfl rfl rfl; apply s_move; exact rfl; dsimp only [Nat.reduceAdd, Nat.reduceMul, List.nil_append]
   apply Trc.step rfl rfl; apply wnt_g; exact rfl; exact rfl; exact rfl; rfl; apply s_fieldAddr; exact rfl; dsimp only [Nat.reduceAdd, Nat.reduceMul, List.nil_append]
   apply Trc.step rfl rfl; apply wnt_g; exact rfl; exact rfl; exact rfl; rfl; apply s_load; exact rfl; exact rfl; exact rfl; dsimp only [Nat.reduceAdd, Nat.reduceMul, List.nil_append]
   apply Trc.step rfl rfl; apply wnt_g; exact rfl; exact rfl; exact rfl; rfl; apply s_len; exact rfl; exact ln_ex; dsimp only [Nat.reduceAdd, Nat.reduceMul, List.nil_append]
   apply Trc.step rfl rfl; apply wnt_g; exact rfl; exact rfl; exact rfl; rfl; apply s_move; exact rfl; dsimp only [Nat.reduceAdd, Nat.reduceMul, List.nil_append]
   apply Trc.step rfl rfl; apply wnt_g; exact rfl; exact rfl; exact rfl; rfl; apply s_nen; exact rfl; exact rfl; dsimp only [Nat.reduceAdd, Nat.reduceMul, List.nil_append]
   apply Trc.stp rfl rfl rfl; apply s_pick_f; exact rfl; rfl; exact rfl; dsimp only [Nat.reduceAdd, Nat.reduceMul, List.nil_append]
   apply Trc.stp rfl rfl rfl; apply s_move; exact rfl; dsimp only [Nat.reduceAdd, Nat.reduceMul, List.nil_append]
   apply Trc.step rfl rfl; apply wnt_g; exact rfl; exact rfl; exact rfl; rfl; apply s_fieldAddr; exact rfl; dsimp only [Nat.reduceAdd, Nat.reduceMul, List.nil_append]
   apply Trc.step rfl rfl; apply wnt_g; exact rfl; exact rfl; exact rfl; rfl; apply s_load; exact rfl; exact rfl; exact rfl; dsimp only [Nat.reduceAdd, Nat.reduceMul, List.nil_append]
   apply Trc.step rfl rfl; apply wnt_g; exact rfl; exact rfl; exact rfl; rfl; apply s_call (f := 96) rfl; apply evs.cons rfl; exact evs.nil
   apply ArgL.cons; exact arg_clo; exact ArgL.nil; exact amount_ok 3 (by decide); exact Nat.le_of_ble_eq_true rfl; dsimp only [Nat.reduceAdd, Nat.reduceMul, Nat.reduceSub, List.nil_append, List.cons_append, nbk, List.map_cons, List.map_nil]
   apply Trc.step rfl rfl; apply wnt_g; exact rfl; exact rfl; exact rfl; rfl; apply s_not; exact rfl; dsimp only [Nat.reduceAdd, Nat.reduceMul, List.nil_append]
   apply Trc.stp rfl rfl rfl; apply s_pick_f; exact rfl; rfl; exact rfl; dsimp only [Nat.reduceAdd, Nat.reduceMul, List.nil_append]
   exact Trc.done _ _ _; exact rfl; refine thn_n ?_)
  refine Gol.cond_f rfl (by decide) ?_
  (refine Gol.skip ?_; refine thn_n ?_; refine Gol.seq ?_; refine Gol.seq ?_; apply Gol.region
   apply Trc.stp rfl rfl rfl; apply s_fieldAddr; exact rfl; dsimp only [Nat.reduceAdd, Nat.reduceMul, List.nil_append]
   apply Trc.stp rfl rfl rfl; apply s_load; exact rfl; exact rfl; exact rfl; dsimp only [Nat.reduceAdd, Nat.reduceMul, List.nil_append]
   apply Trc.stp rfl rfl rfl; apply s_len; exact rfl; exact ln_ex; dsimp only [Nat.reduceAdd, Nat.reduceMul, List.nil_append]
   apply Trc.stp rfl rfl rfl; apply s_move; exact rfl; dsimp only [Nat.reduceAdd, Nat.reduceMul, List.nil_append]
   exact Trc.done _ _ _; exact rfl; refine thn_n ?_; refine Gol.block ?_)
  refine Gol.loop (ι := Nat) (fun j => j ≤ 1) (fun j => 1 - j) 600 (fun _ => []) (fun j => [(59, .v (.int .i64 (j : Int))), (58, .v (.int .i64 ((1 : Nat) : Int))), (57, .ex 1 false (inA [7]))]) 0 (Nat.zero_le _) ?_ ?_
  · (apply Le.mk' []; apply RnT.c; exact rfl; exact Rn.v rfl; apply RnT.c; exact rfl; exact Rn.v rfl; apply RnT.c; exact rfl; exact Rn.clo inferInstance rfl
     exact RnT.n; exact RnH.n; exact rfl)
  intro j hj
  (refine Gol.seq ?_; apply Gol.region; apply Trc.stp rfl rfl rfl; apply s_ltn; exact rfl
   exact rfl; dsimp only [Nat.reduceAdd, Nat.reduceMul, List.nil_append]; exact Trc.done _ _ _
   exact rfl; refine thn_n ?_; refine Gol.seq ?_)
  refine Gol.cond rfl (fun h => ?_) (fun h => ?_)
  · have hlt : j < 1 := of_decide_eq_true h
    have hne : inA [7] ≠ [] := by simp [inA]
    have hj1 : j < [(7 : Int)].length := hlt
    obtain rfl : j = 0 := by omega
    (refine Gol.skip ?_; refine thn_n ?_; refine Gol.seq ?_; refine Gol.block ?_; refine Gol.seq ?_
     apply Gol.region; apply Trc.stp rfl rfl rfl; apply s_ixe; exact rfl; exact rfl; omega; assumption; dsimp only [Nat.reduceAdd, Nat.reduceMul, List.nil_append]
     apply Trc.stp rfl rfl rfl; apply s_loadE; exact rfl; exact rfl; dsimp only [Nat.reduceAdd, Nat.reduceMul, List.nil_append]
     apply Trc.stp rfl rfl rfl; apply s_assign; exact rfl; dsimp only [Nat.reduceAdd, Nat.reduceMul, List.nil_append]
     exact Trc.done _ _ _; exact rfl; refine thn_n ?_; refine Gol.seq ?_; apply Gol.region; apply Trc.stp rfl rfl rfl; apply s_move; exact rfl; dsimp only [Nat.reduceAdd, Nat.reduceMul, List.nil_append]
     apply Trc.stp rfl rfl rfl; apply s_call (f := 96) rfl; apply evs.cons rfl; exact evs.nil; apply ArgL.cons; exact arg_clo
     exact ArgL.nil; exact amount_ok 7 (by decide); exact Nat.le_of_ble_eq_true rfl; dsimp only [Nat.reduceAdd, Nat.reduceMul, Nat.reduceSub, List.nil_append, List.cons_append, nbk, List.map_cons, List.map_nil]
     apply Trc.stp rfl rfl rfl; apply s_not; exact rfl; dsimp only [Nat.reduceAdd, Nat.reduceMul, List.nil_append]
     exact Trc.done _ _ _; exact rfl; refine thn_n ?_)
    refine Gol.cond_f rfl rfl ?_
    (refine Gol.skip ?_; refine inBlk_n ?_; refine thn_n ?_; apply Gol.region; apply Trc.stp rfl rfl rfl; apply s_addn; exact rfl; exact rfl; decide; dsimp only [Nat.reduceAdd, Nat.reduceMul, List.nil_append]
     apply Trc.stp rfl rfl rfl; apply s_move; exact rfl; dsimp only [Nat.reduceAdd, Nat.reduceMul, List.nil_append]
     exact Trc.done _ _ _; exact rfl)
    refine rnd_n 1 (by omega) (by omega) ?_
    (apply Le.mk' []; apply RnT.c; exact rfl; exact Rn.v rfl; apply RnT.c; exact rfl; exact Rn.v rfl; apply RnT.c; exact rfl; exact Rn.clo inferInstance rfl
     exact RnT.n; exact RnH.n; exact rfl)
  · (refine Gol.exit ?_; refine thn_x ?_; refine rnd_x ?_; refine inBlk_hit ?_; refine thn_n ?_
     refine Gol.seq ?_; apply Gol.region; apply Trc.stp rfl rfl rfl; apply s_assign; exact rfl
     dsimp only [Nat.reduceAdd, Nat.reduceMul, List.nil_append]; exact Trc.done _ _ _; exact rfl
     refine thn_n ?_; refine Gol.ret ?_)
    (apply RetQ.mk (by first | exact .inr rfl | exact .inl rfl); apply res_1 rfl; exact res_tmp rfl; exact out_val)
theorem valGen_no : Fresh Tryz.prog 54 [.v (.agg #[.int .i64 0, .int .i64 0, .slice none 0 0, .slice none 0 0, .slice none 0 0])] (fun _ => .v (.int .i64 1)) [] := by
  refine Fresh.of (fn := Tryz.f54) Tryz.func54 rfl (Nat.le_of_ble_eq_true rfl) fun w => ?_
  (refine Gol.seq ?_; apply Gol.region; apply Trc.stp rfl rfl rfl; apply s_box; exact rfl
   exact rfl; dsimp only [Nat.reduceAdd, Nat.reduceMul, Nat.reduceSub, List.nil_append, List.cons_append, nbk, List.map_cons, List.map_nil]; apply Trc.stp rfl rfl rfl; apply s_assign; exact rfl; dsimp only [Nat.reduceAdd, Nat.reduceMul, List.nil_append]
   exact Trc.done _ _ _; exact rfl; refine thn_n ?_; refine Gol.seq ?_; apply Gol.any; kernel_rfl; apply Trc.stp rfl rfl rfl; apply s_fieldAddr; exact rfl; dsimp only [Nat.reduceAdd, Nat.reduceMul, List.nil_append]
   apply Trc.stp rfl rfl rfl; apply s_load; exact rfl; exact rfl; exact rfl; dsimp only [Nat.reduceAdd, Nat.reduceMul, List.nil_append]
   apply Trc.stp rfl rfl rfl; apply s_len; exact rfl; exact ln_nil; dsimp only [Nat.reduceAdd, Nat.reduceMul, List.nil_append]
   apply Trc.stp rfl rfl rfl; apply s_fieldAddr; exact rfl; dsimp only [Nat.reduceAdd, Nat.reduceMul, List.nil_append]
   apply Trc.stp rfl rfl rfl; apply s_load; exact rfl; exact rfl; exact rfl; dsimp only [Nat.reduceAdd, Nat.reduceMul, List.nil_append]
   apply Trc.stp rfl rfl rfl; apply s_len; exact rfl; exact ln_nil; dsimp only [Nat.reduceAdd, Nat.reduceMul, List.nil_append]
   apply Trc.stp rfl rfl rfl; apply s_assign; exact rfl; dsimp only [Nat.reduceAdd, Nat.reduceMul, List.nil_append]
   apply Trc.stp rfl rfl rfl; apply s_assign; exact rfl; dsimp only [Nat.reduceAdd, Nat.reduceMul, List.nil_append]
   exact Trc.done _ _ _; kernel_rfl; exact rfl; refine thn_n ?_; refine Gol.seq ?_; refine Gol.seq ?_
   apply Gol.region; apply Trc.stp rfl rfl rfl; apply s_fieldAddr; exact rfl; dsimp only [Nat.reduceAdd, Nat.reduceMul, List.nil_append]
   apply Trc.stp rfl rfl rfl; apply s_load; exact rfl; exact rfl; exact rfl; dsimp only [Nat.reduceAdd, Nat.reduceMul, List.nil_append]
   apply Trc.stp rfl rfl rfl; apply s_ltn; exact rfl; exact rfl; dsimp only [Nat.reduceAdd, Nat.reduceMul, List.nil_append]
   apply Trc.stp rfl rfl rfl; apply s_move; exact rfl; dsimp only [Nat.reduceAdd, Nat.reduceMul, List.nil_append]
   apply Trc.skip rfl rfl; apply wnt_g; exact rfl; exact rfl; exact rfl; rfl; dsimp only [Nat.reduceAdd, Nat.reduceMul, List.nil_append]
   apply Trc.skip rfl rfl; apply wnt_g; exact rfl; exact rfl; exact rfl; rfl; dsimp only [Nat.reduceAdd, Nat.reduceMul, List.nil_append]
   apply Trc.skip rfl rfl; apply wnt_g; exact rfl; exact rfl; exact rfl; rfl; dsimp only [Nat.reduceAdd, Nat.reduceMul, List.nil_append]
   apply Trc.stp rfl rfl rfl; apply s_pick_t; exact rfl; rfl; exact rfl; dsimp only [Nat.reduceAdd, Nat.reduceMul, List.nil_append]
   apply Trc.stp rfl rfl rfl; apply s_move; exact rfl; dsimp only [Nat.reduceAdd, Nat.reduceMul, List.nil_append]
   apply Trc.skip rfl rfl; apply wnt_g; exact rfl; exact rfl; exact rfl; rfl; dsimp only [Nat.reduceAdd, Nat.reduceMul, List.nil_append]
   apply Trc.skip rfl rfl; apply wnt_g; exact rfl; exact rfl; exact rfl; rfl; dsimp only [Nat.reduceAdd, Nat.reduceMul, List.nil_append]
   apply Trc.stp rfl rfl rfl; apply s_pick_t; exact rfl; rfl; exact rfl; dsimp only [Nat.reduceAdd, Nat.reduceMul, List.nil_append]
   apply Trc.stp rfl rfl rfl; apply s_move; exact rfl; dsimp only [Nat.reduceAdd, Nat.reduceMul, List.nil_append]
   apply Trc.skip rfl rfl; apply wnt_g; exact rfl; exact rfl; exact rfl; rfl; dsimp only [Nat.reduceAdd, Nat.reduceMul, List.nil_append]
   apply Trc.skip rfl rfl; apply wnt_g; exact rfl; exact rfl; exact rfl; rfl; dsimp only [Nat.reduceAdd, Nat.reduceMul, List.nil_append]
   apply Trc.stp rfl rfl rfl; apply s_pick_t; exact rfl; rfl; exact rfl; dsimp only [Nat.reduceAdd, Nat.reduceMul, List.nil_append]
   apply Trc.stp rfl rfl rfl; apply s_move; exact rfl; dsimp only [Nat.reduceAdd, Nat.reduceMul, List.nil_append]
   apply Trc.skip rfl rfl; apply wnt_g; exact rfl; exact rfl; exact rfl; rfl; dsimp only [Nat.reduceAdd, Nat.reduceMul, List.nil_append]
   apply Trc.skip rfl rfl; apply wnt_g; exact rfl; exact rfl; exact rfl; rfl; dsimp only [Nat.reduceAdd, Nat.reduceMul, List.nil_append]
   apply Trc.skip rfl rfl; apply wnt_g; exact rfl; exact rfl; exact rfl; rfl; dsimp only [Nat.reduceAdd, Nat.reduceMul, List.nil_append]
   apply Trc.skip rfl rfl; apply wnt_g; exact rfl; exact rfl; exact rfl; rfl; dsimp only [Nat.reduceAdd, Nat.reduceMul, List.nil_append]
   apply Trc.stp rfl rfl rfl; apply s_pick_t; exact rfl; rfl; exact rfl; dsimp only [Nat.reduceAdd, Nat.reduceMul, List.nil_append]
   apply Trc.stp rfl rfl rfl; apply s_move; exact rfl; dsimp only [Nat.reduceAdd, Nat.reduceMul, List.nil_append]
   apply Trc.skip rfl rfl; apply wnt_g; exact rfl; exact rfl; exact rfl; rfl; dsimp only [Nat.reduceAdd, Nat.reduceMul, List.nil_append]
   apply Trc.skip rfl rfl; apply wnt_g; exact rfl; exact rfl; exact rfl; rfl; dsimp only [Nat.reduceAdd, Nat.reduceMul, List.nil_append]
   apply Trc.stp rfl rfl rfl; apply s_pick_t; exact rfl; rfl; exact rfl; dsimp only [Nat.reduceAdd, Nat.reduceMul, List.nil_append]
   apply Trc.stp rfl rfl rfl; apply s_move; exact rfl; dsimp only [Nat.reduceAdd, Nat.reduceMul, List.nil_append]
   apply Trc.skip rfl rfl; apply wnt_g; exact rfl; exact rfl; exact rfl; rfl; dsimp only [Nat.reduceAdd, Nat.reduceMul, List.nil_append]
   apply Trc.skip rfl rfl; apply wnt_g; exact rfl; exact rfl; exact rfl; rfl; dsimp only [Nat.reduceAdd, Nat.reduceMul, List.nil_append]
   apply Trc.stp rfl rfl rfl; apply s_pick_t; exact rfl; rfl; exact rfl; dsimp only [Nat.reduceAdd, Nat.reduceMul, List.nil_append]
   apply Trc.stp rfl rfl rfl; apply s_move; exact rfl; dsimp only [Nat.reduceAdd, Nat.reduceMul, List.nil_append]
   apply Trc.skip rfl rfl; apply wnt_g; exact rfl; exact rfl; exact rfl; rfl; dsimp only [Nat.reduceAdd, Nat.reduceMul, List.nil_append]
   apply Trc.skip rfl rfl; apply wnt_g; exact rfl; exact rfl; exact rfl; rfl; dsimp only [Nat.reduceAdd, Nat.reduceMul, List.nil_append]
   apply Trc.skip rfl rfl; apply wnt_g; exact rfl; exact rfl; exact rfl; rfl; dsimp only [Nat.reduceAdd, Nat.reduceMul, List.nil_append]
   apply Trc.skip rfl rfl; apply wnt_g; exact rfl; exact rfl; exact rfl; rfl; dsimp only [Nat.reduceAdd, Nat.reduceMul, List.nil_append]
   apply Trc.skip rfl rfl; apply wnt_g; exact rfl; exact rfl; exact rfl; rfl; dsimp only [Nat.reduceAdd, Nat.reduceMul, List.nil_append]
   apply Trc.stp rfl rfl rfl; apply s_pick_t; exact rfl; rfl; exact rfl; dsimp only [Nat.reduceAdd, Nat.reduceMul, List.nil_append]
   apply Trc.stp rfl rfl rfl; apply s_move; exact rfl; dsimp only [Nat.reduceAdd, Nat.reduceMul, List.nil_append]
   apply Trc.skip rfl rfl; apply wnt_g; exact rfl; exact rfl; exact rfl; rfl; dsimp only [Nat.reduceAdd, Nat.reduceMul, List.nil_append]
   apply Trc.skip rfl rfl; apply wnt_g; exact rfl; exact rfl; exact rfl; rfl; dsimp only [Nat.reduceAdd, Nat.reduceMul, List.nil_append]
   apply Trc.skip rfl rfl; apply wnt_g; exact rfl; exact rfl; exact rfl; rfl; dsimp only [Nat.reduceAdd, Nat.reduceMul, List.nil_append]
   apply Trc.skip rfl rfl; apply wnt_g; exact rfl; exact rfl; exact rfl; rfl; dsimp only [Nat.reduceAdd, Nat.reduceMul, List.nil_append]
   apply Trc.stp rfl rfl rfl; apply s_pick_t; exact rfl; rfl; exact rfl; dsimp only [Nat.reduceAdd, Nat.reduceMul, List.nil_append]
   exact Trc.done _ _ _; exact rfl; refine thn_n ?_)
  refine Gol.cond_t rfl (by decide) ?_
  (refine Gol.seq ?_; apply Gol.region; apply Trc.stp rfl rfl rfl; apply s_assign; exact rfl
   dsimp only [Nat.reduceAdd, Nat.reduceMul, List.nil_append]; exact Trc.done _ _ _; exact rfl
   refine thn_n ?_; refine Gol.ret ?_; refine thn_r ?_)
  (apply RetQ.mk (by first | exact .inr rfl | exact .inl rfl); apply res_1 rfl; exact res_tmp rfl; exact out_val)
theorem genesis_no : Fresh Tryz.prog 23 [.v (.agg #[.int .i64 0, .int .i64 0, .slice none 0 0, .slice none 0 0, .slice none 0 0])] (fun _ => .tp [.v (.agg #[.slice none 0 0, .slice none 0 0, .slice none 0 0, .slice none 0 0, .int .i64 0]), .v (.int .i64 1)]) [] := by
  refine Fresh.of (fn := Tryz.f23) Tryz.func23 rfl (Nat.le_of_ble_eq_true rfl) fun w => ?_
  (refine Gol.seq ?_; apply Gol.region; apply Trc.stp rfl rfl rfl; apply s_box; exact rfl
   exact rfl; dsimp only [Nat.reduceAdd, Nat.reduceMul, Nat.reduceSub, List.nil_append, List.cons_append, nbk, List.map_cons, List.map_nil]; apply Trc.stp rfl rfl rfl; apply s_alloc; dsimp only [Nat.reduceAdd, Nat.reduceMul, Nat.reduceSub, List.nil_append, List.cons_append, nbk, List.map_cons, List.map_nil]
   apply Trc.stp rfl rfl rfl; apply s_assign; exact rfl; dsimp only [Nat.reduceAdd, Nat.reduceMul, List.nil_append]
   exact Trc.done _ _ _; exact rfl; refine thn_n ?_; refine Gol.seq ?_; refine Gol.seq ?_; apply Gol.region
   apply Trc.stp rfl rfl rfl; apply s_loadW; exact rfl; exact rfl; exact rfl; exact agu_cuv _; dsimp only [Nat.reduceAdd, Nat.reduceMul, List.nil_append]
   apply Trc.stp rfl rfl rfl; apply s_call (f := 54) rfl; apply evs.cons rfl; exact evs.nil; apply ArgL.cons
   exact arg_clo; exact ArgL.nil; exact valGen_no; exact Nat.le_of_ble_eq_true rfl; dsimp only [Nat.reduceAdd, Nat.reduceMul, Nat.reduceSub, List.nil_append, List.cons_append, nbk, List.map_cons, List.map_nil]
   apply Trc.stp rfl rfl rfl; apply s_nen; exact rfl; exact rfl; dsimp only [Nat.reduceAdd, Nat.reduceMul, List.nil_append]
   exact Trc.done _ _ _; exact rfl; refine thn_n ?_)
  refine Gol.cond_t rfl (by decide) ?_
  (refine Gol.seq ?_; apply Gol.region; apply Trc.stp rfl rfl rfl; apply s_zero; dsimp only [Nat.reduceAdd, Nat.reduceMul, Nat.reduceSub, List.nil_append, List.cons_append, nbk, List.map_cons, List.map_nil]
   apply Trc.stepN rfl rfl; exact wnt_n rfl; apply s_storeW; exact rfl; exact rfl; exact rfl; exact rfl; rfl; exact rfl; dsimp only [Nat.reduceAdd, Nat.reduceMul, Nat.reduceSub, List.nil_append, List.cons_append, nbk, List.map_cons, List.map_nil]
   apply Trc.stp rfl rfl rfl; apply s_assign; exact rfl; dsimp only [Nat.reduceAdd, Nat.reduceMul, List.nil_append]
   exact Trc.done _ _ _; exact rfl; refine thn_n ?_; refine Gol.ret ?_; refine thn_r ?_)
  (apply RetQ.mk (by first | exact .inr rfl | exact .inl rfl); apply res_2 rfl; exact res_cell rfl rfl rfl (agu_cuv _); exact res_tmp rfl; exact out_val)
end Go.Proofs.YtkkeeokeihkagaaGreat


/-
  Layer 21: the order of cells, and what adding does to a list in ascending order: plain facts on lists, no program in sight. No condition.
-/
namespace Go.Proofs.YtkkeeokeihkagaaGreat
open Go.RowKit
theorem cmpI_cases (x y : Int) : (cmpI x y = -1 ∧ x < y) ∨ (cmpI x y = 0 ∧ x = y) ∨ (cmpI x y = 1 ∧ y < x) := by
  unfold cmpI
  split
  · exact .inl ⟨rfl, by assumption⟩
  · split
    · exact .inr (.inr ⟨rfl, by assumption⟩)
    · exact .inr (.inl ⟨rfl, by omega⟩)
/-! ### Lists in ascending order -/
theorem Asc.pw {α : Type} {r : α → α → Prop} (ht : ∀ x y z, r x y → r y z → r x z) : ∀ {l : List α}, Asc r l → l.Pairwise r
  | [], _ => .nil
  | a :: l, h => by
    have hl : Asc r l := fun i x y hx hy => h (i + 1) x y (by simpa using hx) (by simpa using hy)
    have ih := Asc.pw ht hl
    refine .cons (fun b hb => ?_) ih
    cases l with
    | nil => cases hb
    | cons c l =>
      have hc : r a c := h 0 a c rfl rfl
      rcases List.mem_cons.1 hb with rfl | hb
      · exact hc
      · exact ht _ _ _ hc ((List.pairwise_cons.1 ih).1 b hb)
/-! inserting what is not there -/
/-! taking out, and changing, what is there -/
/-- entries in order, not zero, valid cells, amounts of at most B -/
structure Gd (B : Int) (l : List Dl) : Prop where
  pw : l.Pairwise ltD
  ok : ∀ d ∈ l, okCell d.k d.i d.n ∧ d.a ≠ 0 ∧ -B ≤ d.a ∧ d.a ≤ B
end Go.Proofs.YtkkeeokeihkagaaGreat


/-
  Go's slices.Insert and Delete at an element type of layer 21. Conditions: lengths below 2^27.
-/
namespace Go.Proofs.YtkkeeokeihkagaaGreat
open Go.RowKit

instance ovL : OvI Tryz.prog 92 24 := ⟨⟨4, fun args w => run_callFunc_extern Tryz.func92 (by kernel_rfl) (by kernel_rfl) (by kernel_rfl) (e := Extern.SlicesOverlaps.overlaps #[24, 24] #[4]) (by kernel_rfl) args w⟩⟩
theorem insL_cells (l : List Lk) (x : Lk) (i : Nat) (hi : i ≤ l.length) : lsA (l.take i ++ x :: l.drop i) = (lsA l).take (i * 19) ++ lA x ++ (lsA l).drop (i * 19) := by
  rw [lsA_append, lsA_cons, lsA_take, lsA_drop, List.append_assoc]
theorem insL_ok (l : List Lk) (x : Lk) (i : Nat) (hi : i ≤ l.length) (hl : l.length ≤ 100000000) : Turns Tryz.prog 46 [⟨lsA l, 50, 19⟩, ⟨lA x, 50, 19⟩] [.sl 0 l.length, .v (.int .i64 (i : Int)), .sl 1 1] (fun k => .sl k (l.length + 1)) [⟨lsA (l.take i ++ x :: l.drop i), 50, 19⟩] := by
  rw [insL_cells l x i hi]
  have hlen : (lsA l).length = l.length * 19 := lsA_length l
  have hones : (lsA l).all AV.one = true := lsA_ones l
  have hV : CloL (lsA l) := inferInstance
  have hW : ValL (lsA l) := inferInstance
  have hWt : ValL ((lsA l).take (i * 19)) := by rw [lsA_take]; infer_instance
  have hWd : ValL ((lsA l).drop (i * 19)) := by rw [lsA_drop]; infer_instance
  generalize lsA l = cs at hlen hones hV hW hWt hWd
  generalize l.length = n at hlen hi hl
  have he : (lA x).length = 19 := lA_length x
  have hd1 : (cs.drop (i * 19)).all AV.one = true := List.all_eq_true.2 fun y hy => List.all_eq_true.1 hones y (List.mem_of_mem_drop hy)
  have hd1l : (cs.drop (i * 19)).length = (n - i) * 19 := by rw [List.length_drop, hlen, ← Nat.sub_mul]
  refine Turns.of (fn := Tryz.f46) Tryz.func46 rfl (Nat.le_of_ble_eq_true rfl) (Nat.le_of_ble_eq_true rfl) fun w M => ?_
  dsimp only [nbk, Nat.reduceAdd]
  (refine Gol.seq ?_; apply Gol.region; apply Trc.stp rfl rfl rfl; apply s_assign; exact rfl
   dsimp only [Nat.reduceAdd, Nat.reduceMul, List.nil_append]; exact Trc.done _ _ _; exact rfl
   refine thn_n ?_; refine Gol.seq ?_; apply Gol.region; apply Trc.stp rfl rfl rfl; apply s_move
   exact rfl; dsimp only [Nat.reduceAdd, Nat.reduceMul, List.nil_append]; apply Trc.stp rfl rfl rfl; apply s_move; exact rfl; dsimp only [Nat.reduceAdd, Nat.reduceMul, List.nil_append]
   apply Trc.stp rfl rfl rfl; apply s_slL; exact rfl; exact ⟨_, rfl⟩; exact rfl; omega; omega; exact rfl; dsimp only [Nat.reduceAdd, Nat.reduceMul, Nat.reduceSub, List.nil_append, List.cons_append, nbk, List.map_cons, List.map_nil]
   exact Trc.done _ _ _; exact rfl; refine thn_n ?_; refine Gol.seq ?_; apply Gol.region; apply Trc.stp rfl rfl rfl; apply s_move; exact rfl; dsimp only [Nat.reduceAdd, Nat.reduceMul, List.nil_append]
   apply Trc.stp rfl rfl rfl; apply s_len; exact rfl; exact ln_sl; dsimp only [Nat.reduceAdd, Nat.reduceMul, List.nil_append]
   apply Trc.stp rfl rfl rfl; apply s_assign; exact rfl; dsimp only [Nat.reduceAdd, Nat.reduceMul, List.nil_append]
   exact Trc.done _ _ _; exact rfl; refine thn_n ?_; refine Gol.seq ?_; refine Gol.seq ?_; apply Gol.region
   apply Trc.stp rfl rfl rfl; apply s_move; exact rfl; dsimp only [Nat.reduceAdd, Nat.reduceMul, List.nil_append]
   apply Trc.stp rfl rfl rfl; apply s_eqn; exact rfl; exact rfl; dsimp only [Nat.reduceAdd, Nat.reduceMul, List.nil_append]
   exact Trc.done _ _ _; exact rfl; refine thn_n ?_)
  refine Gol.cond_f rfl (by decide) ?_
  (refine Gol.skip ?_; refine thn_n ?_; refine Gol.seq ?_; apply Gol.region; apply Trc.stp rfl rfl rfl; apply s_move; exact rfl; dsimp only [Nat.reduceAdd, Nat.reduceMul, List.nil_append]
   apply Trc.stp rfl rfl rfl; apply s_len; exact rfl; exact ln_sl; dsimp only [Nat.reduceAdd, Nat.reduceMul, List.nil_append]
   apply Trc.stp rfl rfl rfl; apply s_assign; exact rfl; dsimp only [Nat.reduceAdd, Nat.reduceMul, List.nil_append]
   exact Trc.done _ _ _; exact rfl; refine thn_n ?_; refine Gol.seq ?_; refine Gol.seq ?_; apply Gol.region
   apply Trc.stp rfl rfl rfl; apply s_move; exact rfl; dsimp only [Nat.reduceAdd, Nat.reduceMul, List.nil_append]
   apply Trc.stp rfl rfl rfl; apply s_move; exact rfl; dsimp only [Nat.reduceAdd, Nat.reduceMul, List.nil_append]
   apply Trc.stp rfl rfl rfl; apply s_eqn; exact rfl; exact rfl; dsimp only [Nat.reduceAdd, Nat.reduceMul, List.nil_append]
   exact Trc.done _ _ _; exact rfl; refine thn_n ?_)
  refine Gol.cond rfl (fun h => ?_) (fun h => ?_)
  · have e : i = n := of_decide_eq_true h
    subst e
    rw [List.take_of_length_le (by omega), List.drop_of_length_le (by omega), List.append_nil]
    (refine Gol.seq ?_; apply Gol.region; apply Trc.stp rfl rfl rfl; apply s_move; exact rfl
     dsimp only [Nat.reduceAdd, Nat.reduceMul, List.nil_append]; apply Trc.stp rfl rfl rfl; apply s_move; exact rfl; dsimp only [Nat.reduceAdd, Nat.reduceMul, List.nil_append]
     apply Trc.stp rfl rfl rfl; apply s_app; exact rfl; exact rfl; exact rfl; apply rd_sl rfl; rfl; assumption; exact rfl; exact rfl
     rfl; omega; dsimp only [Nat.reduceAdd, Nat.reduceMul, Nat.reduceSub, List.nil_append, List.cons_append, nbk, List.map_cons, List.map_nil]; apply Trc.stp rfl rfl rfl; apply s_assign; exact rfl; dsimp only [Nat.reduceAdd, Nat.reduceMul, List.nil_append]
     exact Trc.done _ _ _; exact rfl; refine thn_n ?_; refine Gol.ret ?_; refine thn_r ?_)
    (apply RetT.mk (by first | exact .inr rfl | exact .inl rfl); apply res_1 rfl; exact res_tmp rfl; apply out_ids [144] rfl; apply OBs.cons; exact rfl; exact inferInstance
     exact OBs.nil; intro k; exact Ot.sl (j := 0) rfl)
  have hin : ¬ i = n := of_decide_eq_false h
  have hlt : i < n := by omega
  refine Gol.cap (i := 0) rfl fun cc hcc => ?_
  (refine Gol.skip ?_; refine thn_n ?_; refine Gol.seq ?_; refine Gol.seq ?_; apply Gol.region
   apply Trc.stp rfl rfl rfl; apply s_move; exact rfl; dsimp only [Nat.reduceAdd, Nat.reduceMul, List.nil_append]
   apply Trc.stp rfl rfl rfl; apply s_move; exact rfl; dsimp only [Nat.reduceAdd, Nat.reduceMul, List.nil_append]
   apply Trc.stp rfl rfl rfl; apply s_addn; exact rfl; exact rfl; omega; dsimp only [Nat.reduceAdd, Nat.reduceMul, List.nil_append]
   apply Trc.stp rfl rfl rfl; apply s_move; exact rfl; dsimp only [Nat.reduceAdd, Nat.reduceMul, List.nil_append]
   apply Trc.stp rfl rfl rfl; apply s_cap; exact rfl; dsimp only [Nat.reduceAdd, Nat.reduceMul, Nat.reduceSub, List.nil_append, List.cons_append, nbk, List.map_cons, List.map_nil]
   apply Trc.stp rfl rfl rfl; apply s_gtn; exact rfl; exact rfl; dsimp only [Nat.reduceAdd, Nat.reduceMul, List.nil_append]
   exact Trc.done _ _ _; exact rfl; refine thn_n ?_)
  refine Gol.cond rfl (fun h => ?_) (fun h => ?_)
  · have hroom : cc < n + 1 := of_decide_eq_true h
    (refine Gol.seq ?_; apply Gol.region; apply Trc.stp rfl rfl rfl; apply s_move; exact rfl
     dsimp only [Nat.reduceAdd, Nat.reduceMul, List.nil_append]; apply Trc.stp rfl rfl rfl; apply s_move; exact rfl; dsimp only [Nat.reduceAdd, Nat.reduceMul, List.nil_append]
     apply Trc.stp rfl rfl rfl; apply s_slC; exact rfl; exact ⟨_, rfl⟩; omega; exact rfl; dsimp only [Nat.reduceAdd, Nat.reduceMul, Nat.reduceSub, List.nil_append, List.cons_append, nbk, List.map_cons, List.map_nil]
     apply Trc.stp rfl rfl rfl; apply s_move; exact rfl; dsimp only [Nat.reduceAdd, Nat.reduceMul, List.nil_append]
     apply Trc.stp rfl rfl rfl; apply s_move; exact rfl; dsimp only [Nat.reduceAdd, Nat.reduceMul, List.nil_append]
     apply Trc.stp rfl rfl rfl; apply s_addn; exact rfl; exact rfl; omega; dsimp only [Nat.reduceAdd, Nat.reduceMul, List.nil_append]
     apply Trc.stp rfl rfl rfl; apply s_move; exact rfl; dsimp only [Nat.reduceAdd, Nat.reduceMul, List.nil_append]
     apply Trc.stp rfl rfl rfl; apply s_subn; exact rfl; exact rfl; omega; omega; dsimp only [Nat.reduceAdd, Nat.reduceMul, Nat.reduceSub, List.nil_append, List.cons_append, nbk, List.map_cons, List.map_nil]
     apply Trc.stp rfl rfl rfl; apply s_appZ; exact rfl; exact rfl; exact rfl; omega; dsimp only; omega; omega; omega; dsimp only [Nat.reduceAdd, Nat.reduceMul, Nat.reduceSub, List.nil_append, List.cons_append, nbk, List.map_cons, List.map_nil]
     apply Trc.stp rfl rfl rfl; apply s_assign; exact rfl; dsimp only [Nat.reduceAdd, Nat.reduceMul, List.nil_append]
     exact Trc.done _ _ _; exact rfl; refine thn_n ?_; refine Gol.seq ?_)
    have hz := zeroA_len (n := n + 1 - i) (s := 19) (z := (.agg #[.int .u8 0, .int .u8 0, .int .u8 0, .int .u8 0, .int .u8 0, .int .u8 0, .int .u8 0, .int .u8 0, .int .u8 0, .int .u8 0, .int .u8 0, .int .u8 0, .int .u8 0, .int .u8 0, .int .u8 0, .int .u8 0, .int .i64 0, .int .i64 0, .int .i64 0])) rfl
    generalize zeroA (.agg #[.int .u8 0, .int .u8 0, .int .u8 0, .int .u8 0, .int .u8 0, .int .u8 0, .int .u8 0, .int .u8 0, .int .u8 0, .int .u8 0, .int .u8 0, .int .u8 0, .int .u8 0, .int .u8 0, .int .u8 0, .int .u8 0, .int .i64 0, .int .i64 0, .int .i64 0]) (n + 1 - i) = Z at hz
    have hA : (cs.take (i * 19)).length = i * 19 := by rw [List.length_take]; omega
    (apply Gol.region; apply Trc.stp rfl rfl rfl; apply s_move; exact rfl; dsimp only [Nat.reduceAdd, Nat.reduceMul, List.nil_append]
     apply Trc.stp rfl rfl rfl; apply s_move; exact rfl; dsimp only [Nat.reduceAdd, Nat.reduceMul, List.nil_append]
     apply Trc.stp rfl rfl rfl; apply s_slL; exact rfl; exact ⟨_, rfl⟩; exact rfl; omega; omega; exact rfl; dsimp only [Nat.reduceAdd, Nat.reduceMul, Nat.reduceSub, List.nil_append, List.cons_append, nbk, List.map_cons, List.map_nil]
     apply Trc.stp rfl rfl rfl; apply s_move; exact rfl; dsimp only [Nat.reduceAdd, Nat.reduceMul, List.nil_append]
     apply Trc.stp rfl rfl rfl; apply s_copyN (ds := lA x); exact rfl; exact rfl; exact rfl; apply rd_sl rfl; exact he.trans rfl; omega; exact List.take_of_length_le (by dsimp only; rw [he]; omega)
     dsimp only; rw [List.length_append, hA, he, hz]; omega; exact lA_ones x; dsimp only [Nat.reduceAdd, Nat.reduceMul, Nat.reduceSub, List.nil_append, List.cons_append, nbk, List.map_cons, List.map_nil]
     exact Trc.done _ _ _; exact rfl; refine thn_n ?_; refine Gol.seq ?_)
    rw [spl_mid hA he]
    (apply Gol.any; kernel_rfl; apply Trc.stp rfl rfl rfl; apply s_move; exact rfl; dsimp only [Nat.reduceAdd, Nat.reduceMul, List.nil_append]
     apply Trc.stp rfl rfl rfl; apply s_move; exact rfl; dsimp only [Nat.reduceAdd, Nat.reduceMul, List.nil_append]
     apply Trc.stp rfl rfl rfl; apply s_move; exact rfl; dsimp only [Nat.reduceAdd, Nat.reduceMul, List.nil_append]
     apply Trc.stp rfl rfl rfl; apply s_addn; exact rfl; exact rfl; omega; dsimp only [Nat.reduceAdd, Nat.reduceMul, List.nil_append]
     apply Trc.stp rfl rfl rfl; apply s_slL; exact rfl; exact ⟨_, rfl⟩; exact rfl; omega; omega; exact rfl; dsimp only [Nat.reduceAdd, Nat.reduceMul, Nat.reduceSub, List.nil_append, List.cons_append, nbk, List.map_cons, List.map_nil]
     apply Trc.stp rfl rfl rfl; apply s_move; exact rfl; dsimp only [Nat.reduceAdd, Nat.reduceMul, List.nil_append]
     apply Trc.stp rfl rfl rfl; apply s_move; exact rfl; dsimp only [Nat.reduceAdd, Nat.reduceMul, List.nil_append]
     apply Trc.stp rfl rfl rfl; apply s_slS; exact rfl; exact ⟨_, rfl⟩; exact rfl; omega; omega; exact rfl; dsimp only [Nat.reduceAdd, Nat.reduceMul, Nat.reduceSub, List.nil_append, List.cons_append, nbk, List.map_cons, List.map_nil]
     apply Trc.stp rfl rfl rfl; apply s_copyN (ds := cs.drop (i * 19)); exact rfl; exact rfl; exact rfl; apply rd_sb rfl; dsimp only; omega; omega
     exact take_all (by rw [hd1l]; omega) (by rw [hd1l]; omega); dsimp only; rw [List.length_append, List.length_append, hA, he, hd1l, List.length_drop, hz]
     omega; exact hd1; dsimp only [Nat.reduceAdd, Nat.reduceMul, Nat.reduceSub, List.nil_append, List.cons_append, nbk, List.map_cons, List.map_nil]; exact Trc.done _ _ _
     kernel_rfl; exact rfl; refine thn_n ?_; refine Gol.seq ?_; apply Gol.region; apply Trc.stp rfl rfl rfl; apply s_move; exact rfl; dsimp only [Nat.reduceAdd, Nat.reduceMul, List.nil_append]
     apply Trc.stp rfl rfl rfl; apply s_assign; exact rfl; dsimp only [Nat.reduceAdd, Nat.reduceMul, List.nil_append]
     exact Trc.done _ _ _; exact rfl; refine thn_n ?_; refine Gol.ret ?_; refine thn_r ?_)
    rw [spl_end (by rw [List.length_append, hA, he]; omega) (by rw [List.length_drop, hz, hd1l]; omega), show i + (n + 1 - i) = n + 1 by omega]
    (apply RetT.mk (by first | exact .inr rfl | exact .inl rfl); apply res_1 rfl; exact res_tmp rfl; apply out_ids [240] rfl; apply OBs.cons; exact rfl; exact inferInstance
     exact OBs.nil; intro k; exact Ot.sl (j := 0) rfl)
  · have hroom : ¬ cc < n + 1 := of_decide_eq_false h
    (refine Gol.skip ?_; refine thn_n ?_; refine Gol.seq ?_; apply Gol.region; apply Trc.stp rfl rfl rfl; apply s_move; exact rfl; dsimp only [Nat.reduceAdd, Nat.reduceMul, List.nil_append]
     apply Trc.stp rfl rfl rfl; apply s_move; exact rfl; dsimp only [Nat.reduceAdd, Nat.reduceMul, List.nil_append]
     apply Trc.stp rfl rfl rfl; apply s_move; exact rfl; dsimp only [Nat.reduceAdd, Nat.reduceMul, List.nil_append]
     apply Trc.stp rfl rfl rfl; apply s_addn; exact rfl; exact rfl; omega; dsimp only [Nat.reduceAdd, Nat.reduceMul, List.nil_append]
     apply Trc.stp rfl rfl rfl; apply s_slC; exact rfl; exact ⟨_, rfl⟩; omega; exact rfl; dsimp only [Nat.reduceAdd, Nat.reduceMul, Nat.reduceSub, List.nil_append, List.cons_append, nbk, List.map_cons, List.map_nil]
     apply Trc.stp rfl rfl rfl; apply s_assign; exact rfl; dsimp only [Nat.reduceAdd, Nat.reduceMul, List.nil_append]
     exact Trc.done _ _ _; exact rfl; refine thn_n ?_; refine Gol.seq ?_; refine Gol.seq ?_)
    refine Gol.tail (i := 0) rfl rfl 19 (by dsimp only; omega) fun tail htl => ?_
    dsimp only
    have hZ : (tail.map AV.v).length = 19 := by rw [List.length_map]; exact htl
    have hZc : CloL (tail.map AV.v) := inferInstance
    have hZv : ValL (tail.map AV.v) := inferInstance
    generalize tail.map AV.v = Z at hZ hZc hZv
    (apply Gol.region; apply Trc.stp rfl rfl rfl; apply s_move; exact rfl; dsimp only [Nat.reduceAdd, Nat.reduceMul, List.nil_append]
     apply Trc.stp rfl rfl rfl; apply s_move; exact rfl; dsimp only [Nat.reduceAdd, Nat.reduceMul, List.nil_append]
     apply Trc.stp rfl rfl rfl; apply s_move; exact rfl; dsimp only [Nat.reduceAdd, Nat.reduceMul, List.nil_append]
     apply Trc.stp rfl rfl rfl; apply s_move; exact rfl; dsimp only [Nat.reduceAdd, Nat.reduceMul, List.nil_append]
     apply Trc.stp rfl rfl rfl; apply s_addn; exact rfl; exact rfl; omega; dsimp only [Nat.reduceAdd, Nat.reduceMul, List.nil_append]
     apply Trc.stp rfl rfl rfl; apply s_slS; exact rfl; exact ⟨_, rfl⟩; exact rfl; omega; omega; exact rfl; dsimp only [Nat.reduceAdd, Nat.reduceMul, Nat.reduceSub, List.nil_append, List.cons_append, nbk, List.map_cons, List.map_nil]
     apply Trc.stp rfl rfl rfl; apply s_ovl (f := 92); exact rfl; exact rfl; exact rfl; exact rfl; exact rfl
     exact rfl; dsimp only; omega; dsimp only; rw [List.length_append]; omega; omega; dsimp only [Nat.reduceAdd, Nat.reduceMul, Nat.reduceSub, List.nil_append, List.cons_append, nbk, List.map_cons, List.map_nil]
     apply Trc.stp rfl rfl rfl; apply s_not; exact rfl; dsimp only [Nat.reduceAdd, Nat.reduceMul, List.nil_append]
     exact Trc.done _ _ _; exact rfl; refine thn_n ?_)
    refine Gol.cond_t rfl rfl ?_
    (refine Gol.seq ?_; apply Gol.any; kernel_rfl; apply Trc.stp rfl rfl rfl; apply s_move
     exact rfl; dsimp only [Nat.reduceAdd, Nat.reduceMul, List.nil_append]; apply Trc.stp rfl rfl rfl; apply s_move; exact rfl; dsimp only [Nat.reduceAdd, Nat.reduceMul, List.nil_append]
     apply Trc.stp rfl rfl rfl; apply s_move; exact rfl; dsimp only [Nat.reduceAdd, Nat.reduceMul, List.nil_append]
     apply Trc.stp rfl rfl rfl; apply s_addn; exact rfl; exact rfl; omega; dsimp only [Nat.reduceAdd, Nat.reduceMul, List.nil_append]
     apply Trc.stp rfl rfl rfl; apply s_slS; exact rfl; exact ⟨_, rfl⟩; exact rfl; omega; omega; exact rfl; dsimp only [Nat.reduceAdd, Nat.reduceMul, Nat.reduceSub, List.nil_append, List.cons_append, nbk, List.map_cons, List.map_nil]
     apply Trc.stp rfl rfl rfl; apply s_move; exact rfl; dsimp only [Nat.reduceAdd, Nat.reduceMul, List.nil_append]
     apply Trc.stp rfl rfl rfl; apply s_move; exact rfl; dsimp only [Nat.reduceAdd, Nat.reduceMul, List.nil_append]
     apply Trc.stp rfl rfl rfl; apply s_slS; exact rfl; exact ⟨_, rfl⟩; exact rfl; omega; omega; exact rfl; dsimp only [Nat.reduceAdd, Nat.reduceMul, Nat.reduceSub, List.nil_append, List.cons_append, nbk, List.map_cons, List.map_nil]
     apply Trc.stp rfl rfl rfl; apply s_copyN (ds := cs.drop (i * 19)); exact rfl; exact rfl; exact rfl; apply rd_sb rfl; dsimp only; rw [List.length_append]
     omega; omega; exact take_mid (by omega) (by omega) (by omega); dsimp only; rw [List.length_append, hd1l]; omega; exact hd1; dsimp only [Nat.reduceAdd, Nat.reduceMul, Nat.reduceSub, List.nil_append, List.cons_append, nbk, List.map_cons, List.map_nil]
     exact Trc.done _ _ _; kernel_rfl; exact rfl; refine thn_n ?_; refine Gol.seq ?_)
    (apply Gol.region; apply Trc.stp rfl rfl rfl; apply s_move; exact rfl; dsimp only [Nat.reduceAdd, Nat.reduceMul, List.nil_append]
     apply Trc.stp rfl rfl rfl; apply s_move; exact rfl; dsimp only [Nat.reduceAdd, Nat.reduceMul, List.nil_append]
     apply Trc.stp rfl rfl rfl; apply s_slS; exact rfl; exact ⟨_, rfl⟩; exact rfl; omega; omega; exact rfl; dsimp only [Nat.reduceAdd, Nat.reduceMul, Nat.reduceSub, List.nil_append, List.cons_append, nbk, List.map_cons, List.map_nil]
     apply Trc.stp rfl rfl rfl; apply s_move; exact rfl; dsimp only [Nat.reduceAdd, Nat.reduceMul, List.nil_append]
     apply Trc.stp rfl rfl rfl; apply s_copyN (ds := lA x); exact rfl; exact rfl; exact rfl; apply rd_sl rfl; exact he.trans rfl; omega; exact List.take_of_length_le (by dsimp only; rw [he]; omega)
     dsimp only; rw [spl_length _ _ _ (by rw [List.length_append, hd1l]; omega), List.length_append, he]; omega; exact lA_ones x; dsimp only [Nat.reduceAdd, Nat.reduceMul, Nat.reduceSub, List.nil_append, List.cons_append, nbk, List.map_cons, List.map_nil]
     exact Trc.done _ _ _; exact rfl; refine thn_n ?_; refine Gol.seq ?_; apply Gol.region; apply Trc.stp rfl rfl rfl; apply s_move; exact rfl; dsimp only [Nat.reduceAdd, Nat.reduceMul, List.nil_append]
     apply Trc.stp rfl rfl rfl; apply s_assign; exact rfl; dsimp only [Nat.reduceAdd, Nat.reduceMul, List.nil_append]
     exact Trc.done _ _ _; exact rfl; refine thn_n ?_; refine Gol.ret ?_; refine thn_r ?_)
    rw [spl_room he hZ (by omega) (by omega)]
    (apply RetT.mk (by first | exact .inr rfl | exact .inl rfl); apply res_1 rfl; exact res_tmp rfl; apply out_ids [0] rfl; apply OBs.cons; exact rfl; exact inferInstance
     exact OBs.nil; intro k; exact Ot.sc (j := 0) rfl)
theorem delL_ok (l : List Lk) (i : Nat) (hi : i < l.length) (hl : l.length ≤ 100000000) : Turns Tryz.prog 49 [⟨lsA l, 50, 19⟩] [.sl 0 l.length, .v (.int .i64 (i : Int)), .v (.int .i64 ((i + 1 : Nat) : Int))] (fun k => .sl k (l.length - 1)) [⟨lsA (l.take i ++ l.drop (i + 1)), 50, 19⟩] := by
  rw [lsA_append, ← lsA_take, ← lsA_drop]
  have hlen : (lsA l).length = l.length * 19 := lsA_length l
  have hones : (lsA l).all AV.one = true := lsA_ones l
  have hWt : ValL ((lsA l).take (i * 19)) := by rw [lsA_take]; infer_instance
  have hWd : ValL ((lsA l).drop ((i + 1) * 19)) := by rw [lsA_drop]; infer_instance
  generalize lsA l = cs at hlen hones hWt hWd
  generalize l.length = n at hlen hi hl
  have hdl : (cs.drop ((i + 1) * 19)).length = (n - (i + 1)) * 19 := by rw [List.length_drop, hlen, ← Nat.sub_mul]
  have hd1 : (cs.drop ((i + 1) * 19)).all AV.one = true := List.all_eq_true.2 fun y hy => List.all_eq_true.1 hones y (List.mem_of_mem_drop hy)
  have hde : List.take ((n - (i + 1)) * 19) (cs.drop ((i + 1) * 19)) = cs.drop ((i + 1) * 19) := List.take_of_length_le (by omega)
  refine Turns.of (fn := Tryz.f49) Tryz.func49 rfl (Nat.le_of_ble_eq_true rfl) (Nat.le_of_ble_eq_true rfl) fun w M => ?_
  dsimp only [nbk, Nat.reduceAdd]
  (refine Gol.seq ?_; apply Gol.region; apply Trc.stp rfl rfl rfl; apply s_assign; exact rfl
   dsimp only [Nat.reduceAdd, Nat.reduceMul, List.nil_append]; exact Trc.done _ _ _; exact rfl
   refine thn_n ?_; refine Gol.seq ?_; apply Gol.region; apply Trc.stp rfl rfl rfl; apply s_move
   exact rfl; dsimp only [Nat.reduceAdd, Nat.reduceMul, List.nil_append]; apply Trc.stp rfl rfl rfl; apply s_move; exact rfl; dsimp only [Nat.reduceAdd, Nat.reduceMul, List.nil_append]
   apply Trc.stp rfl rfl rfl; apply s_move; exact rfl; dsimp only [Nat.reduceAdd, Nat.reduceMul, List.nil_append]
   apply Trc.stp rfl rfl rfl; apply s_move; exact rfl; dsimp only [Nat.reduceAdd, Nat.reduceMul, List.nil_append]
   apply Trc.stp rfl rfl rfl; apply s_len; exact rfl; exact ln_sl; dsimp only [Nat.reduceAdd, Nat.reduceMul, List.nil_append]
   apply Trc.stp rfl rfl rfl; apply s_slLM; exact rfl; exact ⟨_, rfl⟩; exact ⟨_, rfl⟩; exact ⟨_, rfl⟩; exact rfl; omega; omega
   omega; exact rfl; dsimp only [Nat.reduceAdd, Nat.reduceMul, Nat.reduceSub, List.nil_append, List.cons_append, nbk, List.map_cons, List.map_nil]; exact Trc.done _ _ _
   exact rfl; refine thn_n ?_; refine Gol.seq ?_; refine Gol.seq ?_; apply Gol.region
   apply Trc.stp rfl rfl rfl; apply s_move; exact rfl; dsimp only [Nat.reduceAdd, Nat.reduceMul, List.nil_append]
   apply Trc.stp rfl rfl rfl; apply s_move; exact rfl; dsimp only [Nat.reduceAdd, Nat.reduceMul, List.nil_append]
   apply Trc.stp rfl rfl rfl; apply s_eqn; exact rfl; exact rfl; dsimp only [Nat.reduceAdd, Nat.reduceMul, List.nil_append]
   exact Trc.done _ _ _; exact rfl; refine thn_n ?_)
  refine Gol.cond_f rfl (by simp) ?_
  (refine Gol.skip ?_; refine thn_n ?_; refine Gol.seq ?_; apply Gol.region; apply Trc.stp rfl rfl rfl; apply s_move; exact rfl; dsimp only [Nat.reduceAdd, Nat.reduceMul, List.nil_append]
   apply Trc.stp rfl rfl rfl; apply s_len; exact rfl; exact ln_sl; dsimp only [Nat.reduceAdd, Nat.reduceMul, List.nil_append]
   apply Trc.stp rfl rfl rfl; apply s_assign; exact rfl; dsimp only [Nat.reduceAdd, Nat.reduceMul, List.nil_append]
   exact Trc.done _ _ _; exact rfl; refine thn_n ?_; refine Gol.seq ?_)
  refine Gol.cap (i := 0) rfl fun cc hcc => ?_
  (apply Gol.any; kernel_rfl; apply Trc.stp rfl rfl rfl; apply s_move; exact rfl; dsimp only [Nat.reduceAdd, Nat.reduceMul, List.nil_append]
   apply Trc.stp rfl rfl rfl; apply s_move; exact rfl; dsimp only [Nat.reduceAdd, Nat.reduceMul, List.nil_append]
   apply Trc.stp rfl rfl rfl; apply s_slC; exact rfl; exact ⟨_, rfl⟩; omega; exact rfl; dsimp only [Nat.reduceAdd, Nat.reduceMul, Nat.reduceSub, List.nil_append, List.cons_append, nbk, List.map_cons, List.map_nil]
   apply Trc.stp rfl rfl rfl; apply s_move; exact rfl; dsimp only [Nat.reduceAdd, Nat.reduceMul, List.nil_append]
   apply Trc.stp rfl rfl rfl; apply s_move; exact rfl; dsimp only [Nat.reduceAdd, Nat.reduceMul, List.nil_append]
   apply Trc.stp rfl rfl rfl; apply s_slS; exact rfl; exact ⟨_, rfl⟩; exact rfl; omega; omega; exact rfl; dsimp only [Nat.reduceAdd, Nat.reduceMul, Nat.reduceSub, List.nil_append, List.cons_append, nbk, List.map_cons, List.map_nil]
   apply Trc.stp rfl rfl rfl; apply s_appIn; exact rfl; exact rfl; exact rfl; apply rd_sb rfl; dsimp only; omega; dsimp only; rw [hde, hdl]
   dsimp only; omega; dsimp only; rw [hde]; exact hd1; omega; omega; dsimp only [Nat.reduceAdd, Nat.reduceMul, Nat.reduceSub, List.nil_append, List.cons_append, nbk, List.map_cons, List.map_nil]
   apply Trc.stp rfl rfl rfl; apply s_assign; exact rfl; dsimp only [Nat.reduceAdd, Nat.reduceMul, List.nil_append]
   exact Trc.done _ _ _; kernel_rfl; exact rfl; refine thn_n ?_; refine Gol.seq ?_)
  rw [hde, show i + (n - (i + 1)) = n - 1 by omega]
  (apply Gol.region; apply Trc.stp rfl rfl rfl; apply s_move; exact rfl; dsimp only [Nat.reduceAdd, Nat.reduceMul, List.nil_append]
   apply Trc.stp rfl rfl rfl; apply s_move; exact rfl; dsimp only [Nat.reduceAdd, Nat.reduceMul, List.nil_append]
   apply Trc.stp rfl rfl rfl; apply s_len; exact rfl; exact ln_sc; dsimp only [Nat.reduceAdd, Nat.reduceMul, List.nil_append]
   apply Trc.stp rfl rfl rfl; apply s_move; exact rfl; dsimp only [Nat.reduceAdd, Nat.reduceMul, List.nil_append]
   apply Trc.stp rfl rfl rfl; apply s_slS; exact rfl; exact ⟨_, rfl⟩; exact ⟨_, rfl⟩; omega; omega; exact rfl; dsimp only [Nat.reduceAdd, Nat.reduceMul, Nat.reduceSub, List.nil_append, List.cons_append, nbk, List.map_cons, List.map_nil]
   apply Trc.stepN rfl rfl; exact wnt_n rfl; apply s_clear; exact rfl; exact rfl; omega; dsimp only; rw [spl_length _ _ _ (by omega)]; omega; exact zeroA_ones rfl
   dsimp only [Nat.reduceAdd, Nat.reduceMul, Nat.reduceSub, List.nil_append, List.cons_append, nbk, List.map_cons, List.map_nil]; exact Trc.done _ _ _; exact rfl
   refine thn_n ?_; refine Gol.seq ?_; apply Gol.region; apply Trc.stp rfl rfl rfl; apply s_move
   exact rfl; dsimp only [Nat.reduceAdd, Nat.reduceMul, List.nil_append]; apply Trc.stp rfl rfl rfl; apply s_assign; exact rfl; dsimp only [Nat.reduceAdd, Nat.reduceMul, List.nil_append]
   exact Trc.done _ _ _; exact rfl; refine thn_n ?_; refine Gol.ret ?_)
  refine RetT.mk (.inr rfl) (res_1 rfl (res_tmp rfl)) (out_ids [0] rfl (.cut rfl rfl rfl ?_ inferInstance .nil) fun k => Ot.sc (j := 0) rfl)
  dsimp only
  refine del_cells (by omega) (by omega) (by omega) ?_
  rw [List.length_append, List.length_take, hdl]
  omega
end Go.Proofs.YtkkeeokeihkagaaGreat


/-
  Layer 21: locks, of the program and of the reference. Conditions: lengths below 2^17.
-/
namespace Go.Proofs.YtkkeeokeihkagaaGreat
open Go.RowKit

theorem idxL_ok (l : List Lk) (fl : Bool) (g : FuncId) (ds : List AV) [hc : CloL ds] [hF : FnI Tryz.prog g] (p : Lk → Bool) (hl : l.length ≤ 100000000) (h0 : ∀ d ∈ l, Fresh Tryz.prog g (.v (.agg (lockC d.n d.h d.o d.t d.u)) :: ds) (fun _ => .v (.bool (p d))) []) :
    Fresh Tryz.prog 90 [.ex l.length fl (lsA l), .fn g ds] (fun _ => .v (.int .i64 (fIx p l 0))) [] := by
  refine Fresh.of (fn := Tryz.f90) Tryz.func90 rfl (Nat.le_of_ble_eq_true rfl) fun w => ?_
  (refine Gol.seq ?_; apply Gol.region; apply Trc.stp rfl rfl rfl; apply s_assign; exact rfl
   dsimp only [Nat.reduceAdd, Nat.reduceMul, List.nil_append]; exact Trc.done _ _ _; exact rfl
   refine thn_n ?_; refine Gol.seq ?_; refine Gol.seq ?_; apply Gol.region; apply Trc.stp rfl rfl rfl; apply s_move; exact rfl; dsimp only [Nat.reduceAdd, Nat.reduceMul, List.nil_append]
   apply Trc.stp rfl rfl rfl; apply s_len; exact rfl; exact ln_ex; dsimp only [Nat.reduceAdd, Nat.reduceMul, List.nil_append]
   apply Trc.stp rfl rfl rfl; apply s_move; exact rfl; dsimp only [Nat.reduceAdd, Nat.reduceMul, List.nil_append]
   exact Trc.done _ _ _; exact rfl; refine thn_n ?_; refine Gol.block ?_)
  refine Gol.loop (ι := Nat) (fun i => i ≤ l.length ∧ fIx p (l.drop i) i = fIx p l 0) (fun i => l.length - i) 32 (fun i => []) (fun i => [(8, .v (.int .i64 (i : Int))), (7, .v (.int .i64 (l.length : Int))), (0, .ex l.length fl (lsA l)), (1, .fn g ds)]) 0 ⟨Nat.zero_le _, rfl⟩ ?_ ?_
  · (apply Le.mk' []; apply RnT.c; exact rfl; exact Rn.v rfl; apply RnT.c; exact rfl; exact Rn.v rfl; apply RnT.c; exact rfl; exact Rn.clo inferInstance rfl
     apply RnT.c; exact rfl; exact Rn.clo inferInstance rfl; exact RnT.n; exact RnH.n; exact rfl)
  rintro i ⟨h1, h2⟩
  (refine Gol.seq ?_; apply Gol.region; apply Trc.stp rfl rfl rfl; apply s_ltn; exact rfl
   exact rfl; dsimp only [Nat.reduceAdd, Nat.reduceMul, List.nil_append]; exact Trc.done _ _ _
   exact rfl; refine thn_n ?_; refine Gol.seq ?_)
  refine Gol.cond rfl (fun h => ?_) (fun h => ?_)
  · have hlt : i < l.length := of_decide_eq_true h
    obtain ⟨d, hd⟩ : ∃ d, l[i]? = some d := ⟨l[i], List.getElem?_eq_getElem hlt⟩
    have hf := h0 d (List.mem_of_getElem? hd)
    (refine Gol.skip ?_; refine thn_n ?_; refine Gol.seq ?_; refine Gol.block ?_; refine Gol.seq ?_
     apply Gol.region; apply Trc.stp rfl rfl rfl; apply s_move; exact rfl; dsimp only [Nat.reduceAdd, Nat.reduceMul, List.nil_append]
     apply Trc.stp rfl rfl rfl; apply s_assign; exact rfl; dsimp only [Nat.reduceAdd, Nat.reduceMul, List.nil_append]
     exact Trc.done _ _ _; exact rfl; refine thn_n ?_; refine Gol.seq ?_; apply Gol.region; apply Trc.stp rfl rfl rfl; apply s_move; exact rfl; dsimp only [Nat.reduceAdd, Nat.reduceMul, List.nil_append]
     apply Trc.stp rfl rfl rfl; apply s_move; exact rfl; dsimp only [Nat.reduceAdd, Nat.reduceMul, List.nil_append]
     apply Trc.stp rfl rfl rfl; apply s_move; exact rfl; dsimp only [Nat.reduceAdd, Nat.reduceMul, List.nil_append]
     apply Trc.stp rfl rfl rfl; apply s_ixe; exact rfl; exact rfl; omega; exact ls_ne (by omega); dsimp only [Nat.reduceAdd, Nat.reduceMul, List.nil_append]
     apply Trc.stp rfl rfl rfl; apply s_loadEN; exact rfl; simp only [byA_length, List.length_append, List.length_cons, List.length_nil, List.length_take, List.length_drop, List.length_replicate, List.length_map, Nat.mul_one, nameB_length, flat_length, List.length_set, inA_length, dsA_length, lsA_length, dA_length, lA_length] <;> omega
     exact agu_l (by assumption); dsimp only [Nat.reduceAdd, Nat.reduceMul, List.nil_append]
     apply Trc.stp rfl rfl rfl; apply s_callC rfl; assumption; apply evs.cons rfl; exact evs.nil; dsimp only [List.cons_append, List.nil_append]
     apply ArgL.cons; exact arg_clo; exact ArgL.clos; exact hf; exact Nat.le_of_ble_eq_true rfl; dsimp only [Nat.reduceAdd, Nat.reduceMul, Nat.reduceSub, List.nil_append, List.cons_append, nbk, List.map_cons, List.map_nil]
     exact Trc.done _ _ _; exact rfl; refine thn_n ?_)
    refine Gol.cond rfl (fun h => ?_) (fun h => ?_)
    · rw [← h2, fIx_hit hd h]
      (refine Gol.seq ?_; apply Gol.region; apply Trc.stp rfl rfl rfl; apply s_move; exact rfl
       dsimp only [Nat.reduceAdd, Nat.reduceMul, List.nil_append]; apply Trc.stp rfl rfl rfl; apply s_assign; exact rfl; dsimp only [Nat.reduceAdd, Nat.reduceMul, List.nil_append]
       exact Trc.done _ _ _; exact rfl; refine thn_n ?_; refine Gol.ret ?_; refine inBlk_r ?_; refine thn_r ?_
       refine rnd_r ?_; refine inBlk_r ?_; refine thn_r ?_)
      (apply RetQ.mk (by first | exact .inr rfl | exact .inl rfl); apply res_1 rfl; exact res_tmp rfl; exact out_val)
    · (refine Gol.skip ?_; refine inBlk_n ?_; refine thn_n ?_; apply Gol.region; apply Trc.stp rfl rfl rfl; apply s_addn; exact rfl; exact rfl; simp <;> omega; dsimp only [Nat.reduceAdd, Nat.reduceMul, List.nil_append]
       apply Trc.stp rfl rfl rfl; apply s_move; exact rfl; dsimp only [Nat.reduceAdd, Nat.reduceMul, List.nil_append]
       exact Trc.done _ _ _; exact rfl)
      refine rnd_n (i + 1) ⟨by omega, by rw [← h2, fIx_miss hd h]⟩ (by omega) ?_
      (apply Le.mk' []; apply RnT.c; exact rfl; exact Rn.v rfl; apply RnT.c; exact rfl; exact Rn.v rfl; apply RnT.c; exact rfl; exact Rn.clo inferInstance rfl
       apply RnT.c; exact rfl; exact Rn.clo inferInstance rfl; exact RnT.n; exact RnH.n; exact rfl)
  · have hge : ¬ i < l.length := of_decide_eq_false h
    rw [List.drop_of_length_le (by omega)] at h2
    rw [← h2]
    (refine Gol.exit ?_; refine thn_x ?_; refine rnd_x ?_; refine inBlk_hit ?_; refine thn_n ?_
     refine Gol.seq ?_; apply Gol.region; apply Trc.stp rfl rfl rfl; apply s_assign; exact rfl
     dsimp only [Nat.reduceAdd, Nat.reduceMul, List.nil_append]; exact Trc.done _ _ _; exact rfl
     refine thn_n ?_; refine Gol.ret ?_)
    (apply RetQ.mk (by first | exact .inr rfl | exact .inl rfl); apply res_1 rfl; exact res_tmp rfl; exact out_val)
def eqK (n : UInt64) (d : Lk) : Bool := d.n == n
theorem findLock1_ok (d : Lk) (n : UInt64) : Fresh Tryz.prog 91 [.v (.agg (lockC d.n d.h d.o d.t d.u)), .ep (cu (.v (.agg (nameC n))))] (fun _ => .v (.bool (eqK n d))) [] := by
  refine Fresh.of (fn := Tryz.f91) Tryz.func91 rfl (Nat.le_of_ble_eq_true rfl) fun w => ?_
  (refine Gol.seq ?_; apply Gol.region; apply Trc.stp rfl rfl rfl; apply s_box; exact rfl
   exact rfl; dsimp only [Nat.reduceAdd, Nat.reduceMul, Nat.reduceSub, List.nil_append, List.cons_append, nbk, List.map_cons, List.map_nil]; apply Trc.stp rfl rfl rfl; apply s_assign; exact rfl; dsimp only [Nat.reduceAdd, Nat.reduceMul, List.nil_append]
   exact Trc.done _ _ _; exact rfl; refine thn_n ?_; refine Gol.seq ?_; apply Gol.region; apply Trc.stp rfl rfl rfl; apply s_fieldAddr; exact rfl; dsimp only [Nat.reduceAdd, Nat.reduceMul, List.nil_append]
   apply Trc.stp rfl rfl rfl; apply s_loadN; exact rfl; exact rfl; exact Nat.le_of_ble_eq_true rfl; exact agu_nm8 rfl; dsimp only [Nat.reduceAdd, Nat.reduceMul, List.nil_append]
   apply Trc.stp rfl rfl rfl; apply s_loadEN; exact rfl; exact Nat.le_of_ble_eq_true rfl; exact agu_nm8 rfl; dsimp only [Nat.reduceAdd, Nat.reduceMul, List.nil_append]
   apply Trc.stp rfl rfl rfl; apply s_eqN; exact rfl; exact rfl; dsimp only [Nat.reduceAdd, Nat.reduceMul, List.nil_append]
   apply Trc.stp rfl rfl rfl; apply s_assign; exact rfl; dsimp only [Nat.reduceAdd, Nat.reduceMul, List.nil_append]
   exact Trc.done _ _ _; exact rfl; refine thn_n ?_; refine Gol.ret ?_)
  (apply RetQ.mk (by first | exact .inr rfl | exact .inl rfl); apply res_1 rfl; exact res_tmp rfl; exact out_val)
theorem findLock_ok (s : Stt) (n : UInt64) (hl : s.locks.length ≤ 100000000) : Fresh Tryz.prog 45 [stA s, .v (.agg (nameC n))] (fun _ => .v (.int .i64 (fIx (eqK n) s.locks 0))) [] := by
  unfold stA
  refine Fresh.of (fn := Tryz.f45) Tryz.func45 rfl (Nat.le_of_ble_eq_true rfl) fun w => ?_
  (refine Gol.seq ?_; apply Gol.region; apply Trc.stp rfl rfl rfl; apply s_box; exact rfl
   exact rfl; dsimp only [Nat.reduceAdd, Nat.reduceMul, Nat.reduceSub, List.nil_append, List.cons_append, nbk, List.map_cons, List.map_nil]; apply Trc.stp rfl rfl rfl; apply s_box; exact rfl; exact rfl; dsimp only [Nat.reduceAdd, Nat.reduceMul, Nat.reduceSub, List.nil_append, List.cons_append, nbk, List.map_cons, List.map_nil]
   apply Trc.stp rfl rfl rfl; apply s_assign; exact rfl; dsimp only [Nat.reduceAdd, Nat.reduceMul, List.nil_append]
   exact Trc.done _ _ _; exact rfl; refine thn_n ?_; refine Gol.seq ?_; apply Gol.region; apply Trc.stp rfl rfl rfl; apply s_fieldAddr; exact rfl; dsimp only [Nat.reduceAdd, Nat.reduceMul, List.nil_append]
   apply Trc.stp rfl rfl rfl; apply s_load; exact rfl; exact rfl; exact rfl; dsimp only [Nat.reduceAdd, Nat.reduceMul, List.nil_append]
   apply Trc.stp rfl rfl rfl; apply s_mkf; apply evs.cons rfl; exact evs.nil; dsimp only [Nat.reduceAdd, Nat.reduceMul, List.nil_append]
   apply Trc.stp rfl rfl rfl; apply s_call (f := 90) rfl; apply evs.cons rfl
   apply evs.cons rfl; exact evs.nil; apply ArgL.cons; exact arg_clo; apply ArgL.cons; apply arg_fn; apply ArgL.cons; exact arg_pt0 rfl; exact ArgL.nil; exact ArgL.nil
   exact idxL_ok s.locks _ _ _ (eqK n) hl (fun d _ => findLock1_ok d n); exact Nat.le_of_ble_eq_true rfl; dsimp only [Nat.reduceAdd, Nat.reduceMul, Nat.reduceSub, List.nil_append, List.cons_append, nbk, List.map_cons, List.map_nil]
   apply Trc.stp rfl rfl rfl; apply s_assign; exact rfl; dsimp only [Nat.reduceAdd, Nat.reduceMul, List.nil_append]
   exact Trc.done _ _ _; exact rfl; refine thn_n ?_; refine Gol.ret ?_)
  (apply RetQ.mk (by first | exact .inr rfl | exact .inl rfl); apply res_1 rfl; exact res_tmp rfl; exact out_val)
theorem lockS_yes (s : Stt) (n : UInt64) (d : Lk) (hl : s.locks.length ≤ 100000000) (h : s.locks.find? (eqK n) = some d) : Fresh Tryz.prog 18 [stA s, .v (.agg (nameC n))] (fun _ => .tp [.v (.agg (lockC d.n d.h d.o d.t d.u)), .v (.bool true)]) [] := by
  have hf := findLock_ok s n hl
  unfold stA at hf ⊢
  rcases fIx_cases (eqK n) s.locks with ⟨h1, h2, _, _⟩ | ⟨j, e, h1, h2, h3, h4, h5, h6⟩
  · rw [h2] at h; cases h
  · rw [h3] at h
    cases h
    rw [h4] at hf
    refine Fresh.of (fn := Tryz.f18) Tryz.func18 rfl (Nat.le_of_ble_eq_true rfl) fun w => ?_
    (refine Gol.seq ?_; apply Gol.region; apply Trc.stp rfl rfl rfl; apply s_box; exact rfl
     exact rfl; dsimp only [Nat.reduceAdd, Nat.reduceMul, Nat.reduceSub, List.nil_append, List.cons_append, nbk, List.map_cons, List.map_nil]; apply Trc.stp rfl rfl rfl; apply s_box; exact rfl; exact rfl; dsimp only [Nat.reduceAdd, Nat.reduceMul, Nat.reduceSub, List.nil_append, List.cons_append, nbk, List.map_cons, List.map_nil]
     apply Trc.stp rfl rfl rfl; apply s_alloc; dsimp only [Nat.reduceAdd, Nat.reduceMul, Nat.reduceSub, List.nil_append, List.cons_append, nbk, List.map_cons, List.map_nil]
     apply Trc.stp rfl rfl rfl; apply s_assign; exact rfl; dsimp only [Nat.reduceAdd, Nat.reduceMul, List.nil_append]
     exact Trc.done _ _ _; exact rfl; refine thn_n ?_; refine Gol.seq ?_; refine Gol.seq ?_; apply Gol.region
     apply Trc.stp rfl rfl rfl; apply s_loadW; exact rfl; exact rfl; exact rfl; exact agu_cua _; dsimp only [Nat.reduceAdd, Nat.reduceMul, List.nil_append]
     apply Trc.stp rfl rfl rfl; apply s_loadW; exact rfl; exact rfl; exact rfl; exact agu_cuv _; dsimp only [Nat.reduceAdd, Nat.reduceMul, List.nil_append]
     apply Trc.stp rfl rfl rfl; apply s_call (f := 45) rfl; apply evs.cons rfl; apply evs.cons rfl; exact evs.nil
     apply ArgL.cons; exact arg_clo; apply ArgL.cons; exact arg_clo; exact ArgL.nil; exact hf; exact Nat.le_of_ble_eq_true rfl; dsimp only [Nat.reduceAdd, Nat.reduceMul, Nat.reduceSub, List.nil_append, List.cons_append, nbk, List.map_cons, List.map_nil]
     apply Trc.stp rfl rfl rfl; apply s_assign; exact rfl; dsimp only [Nat.reduceAdd, Nat.reduceMul, List.nil_append]
     exact Trc.done _ _ _; exact rfl; refine thn_n ?_; refine Gol.seq ?_; apply Gol.region; apply Trc.stp rfl rfl rfl; apply s_move; exact rfl; dsimp only [Nat.reduceAdd, Nat.reduceMul, List.nil_append]
     apply Trc.stp rfl rfl rfl; apply s_gen; exact rfl; exact rfl; dsimp only [Nat.reduceAdd, Nat.reduceMul, List.nil_append]
     exact Trc.done _ _ _; exact rfl; refine thn_n ?_)
    refine Gol.cond_t rfl (by simp) ?_
    (refine Gol.seq ?_; apply Gol.region; apply Trc.stp rfl rfl rfl; apply s_fieldAddr; exact rfl
     dsimp only [Nat.reduceAdd, Nat.reduceMul, List.nil_append]; apply Trc.stp rfl rfl rfl; apply s_load; exact rfl; exact rfl; exact rfl; dsimp only [Nat.reduceAdd, Nat.reduceMul, List.nil_append]
     apply Trc.stp rfl rfl rfl; apply s_move; exact rfl; dsimp only [Nat.reduceAdd, Nat.reduceMul, List.nil_append]
     apply Trc.stp rfl rfl rfl; apply s_ixe; exact rfl; exact rfl; omega; exact ls_ne (by omega); dsimp only [Nat.reduceAdd, Nat.reduceMul, List.nil_append]
     apply Trc.stp rfl rfl rfl; apply s_loadEN; exact rfl; simp only [byA_length, List.length_append, List.length_cons, List.length_nil, List.length_take, List.length_drop, List.length_replicate, List.length_map, Nat.mul_one, nameB_length, flat_length, List.length_set, inA_length, dsA_length, lsA_length, dA_length, lA_length] <;> omega
     exact agu_l (by assumption); dsimp only [Nat.reduceAdd, Nat.reduceMul, List.nil_append]
     apply Trc.stepN rfl rfl; exact wnt_n rfl; apply s_storeW; exact rfl; exact rfl; exact rfl; exact rfl; rfl; exact rfl; dsimp only [Nat.reduceAdd, Nat.reduceMul, Nat.reduceSub, List.nil_append, List.cons_append, nbk, List.map_cons, List.map_nil]
     apply Trc.stp rfl rfl rfl; apply s_assign; exact rfl; dsimp only [Nat.reduceAdd, Nat.reduceMul, List.nil_append]
     exact Trc.done _ _ _; exact rfl; refine thn_n ?_; refine Gol.ret ?_; refine thn_r ?_)
    (apply RetQ.mk (by first | exact .inr rfl | exact .inl rfl); apply res_2 rfl; exact res_cell rfl rfl rfl (agu_cuv _); exact res_tmp rfl; exact out_val)
theorem lockS_no (s : Stt) (n : UInt64) (hl : s.locks.length ≤ 100000000) (h : s.locks.find? (eqK n) = none) : Fresh Tryz.prog 18 [stA s, .v (.agg (nameC n))] (fun _ => .tp [.v (.agg (lockC 0 0 0 0 0)), .v (.bool false)]) [] := by
  have hf := findLock_ok s n hl
  unfold stA at hf ⊢
  rcases fIx_cases (eqK n) s.locks with ⟨h1, h2, _, _⟩ | ⟨j, e, h1, h2, h3, h4, h5, h6⟩
  · rw [h1] at hf
    refine Fresh.of (fn := Tryz.f18) Tryz.func18 rfl (Nat.le_of_ble_eq_true rfl) fun w => ?_
    (refine Gol.seq ?_; apply Gol.region; apply Trc.stp rfl rfl rfl; apply s_box; exact rfl
     exact rfl; dsimp only [Nat.reduceAdd, Nat.reduceMul, Nat.reduceSub, List.nil_append, List.cons_append, nbk, List.map_cons, List.map_nil]; apply Trc.stp rfl rfl rfl; apply s_box; exact rfl; exact rfl; dsimp only [Nat.reduceAdd, Nat.reduceMul, Nat.reduceSub, List.nil_append, List.cons_append, nbk, List.map_cons, List.map_nil]
     apply Trc.stp rfl rfl rfl; apply s_alloc; dsimp only [Nat.reduceAdd, Nat.reduceMul, Nat.reduceSub, List.nil_append, List.cons_append, nbk, List.map_cons, List.map_nil]
     apply Trc.stp rfl rfl rfl; apply s_assign; exact rfl; dsimp only [Nat.reduceAdd, Nat.reduceMul, List.nil_append]
     exact Trc.done _ _ _; exact rfl; refine thn_n ?_; refine Gol.seq ?_; refine Gol.seq ?_; apply Gol.region
     apply Trc.stp rfl rfl rfl; apply s_loadW; exact rfl; exact rfl; exact rfl; exact agu_cua _; dsimp only [Nat.reduceAdd, Nat.reduceMul, List.nil_append]
     apply Trc.stp rfl rfl rfl; apply s_loadW; exact rfl; exact rfl; exact rfl; exact agu_cuv _; dsimp only [Nat.reduceAdd, Nat.reduceMul, List.nil_append]
     apply Trc.stp rfl rfl rfl; apply s_call (f := 45) rfl; apply evs.cons rfl; apply evs.cons rfl; exact evs.nil
     apply ArgL.cons; exact arg_clo; apply ArgL.cons; exact arg_clo; exact ArgL.nil; exact hf; exact Nat.le_of_ble_eq_true rfl; dsimp only [Nat.reduceAdd, Nat.reduceMul, Nat.reduceSub, List.nil_append, List.cons_append, nbk, List.map_cons, List.map_nil]
     apply Trc.stp rfl rfl rfl; apply s_assign; exact rfl; dsimp only [Nat.reduceAdd, Nat.reduceMul, List.nil_append]
     exact Trc.done _ _ _; exact rfl; refine thn_n ?_; refine Gol.seq ?_; apply Gol.region; apply Trc.stp rfl rfl rfl; apply s_move; exact rfl; dsimp only [Nat.reduceAdd, Nat.reduceMul, List.nil_append]
     apply Trc.stp rfl rfl rfl; apply s_ge; exact rfl; exact rfl; dsimp only [Nat.reduceAdd, Nat.reduceMul, List.nil_append]
     exact Trc.done _ _ _; exact rfl; refine thn_n ?_)
    refine Gol.cond_f rfl (by decide) ?_
    (refine Gol.skip ?_; refine thn_n ?_; refine Gol.seq ?_; apply Gol.region; apply Trc.stp rfl rfl rfl; apply s_zero; dsimp only [Nat.reduceAdd, Nat.reduceMul, Nat.reduceSub, List.nil_append, List.cons_append, nbk, List.map_cons, List.map_nil]
     apply Trc.stepN rfl rfl; exact wnt_n rfl; apply s_storeW; exact rfl; exact rfl; exact rfl; exact rfl; rfl; exact rfl; dsimp only [Nat.reduceAdd, Nat.reduceMul, Nat.reduceSub, List.nil_append, List.cons_append, nbk, List.map_cons, List.map_nil]
     apply Trc.stp rfl rfl rfl; apply s_assign; exact rfl; dsimp only [Nat.reduceAdd, Nat.reduceMul, List.nil_append]
     exact Trc.done _ _ _; exact rfl; refine thn_n ?_; refine Gol.ret ?_)
    (apply RetQ.mk (by first | exact .inr rfl | exact .inl rfl); apply res_2 rfl; exact res_cell rfl rfl rfl (agu_cuv _); exact res_tmp rfl; exact out_val)
  · rw [h3] at h; cases h
theorem before1L_ok (y x : Lk) (c : FuncId) [hF : FnI Tryz.prog c] (q : Int) (hc : Fresh Tryz.prog c [.v (.agg (lockC y.n y.h y.o y.t y.u)), .v (.agg (lockC x.n x.h x.o x.t x.u))] (fun _ => .v (.int .i64 q)) []) :
    Fresh Tryz.prog 94 [.v (.agg (lockC y.n y.h y.o y.t y.u)), .ep (cu (.fn c [])), .ep (cu (.v (.agg (lockC x.n x.h x.o x.t x.u))))] (fun _ => .v (.bool (decide (0 < q)))) [] := by
  refine Fresh.of (fn := Tryz.f94) Tryz.func94 rfl (Nat.le_of_ble_eq_true rfl) fun w => ?_
  (refine Gol.seq ?_; apply Gol.region; apply Trc.stp rfl rfl rfl; apply s_box; exact rfl
   exact rfl; dsimp only [Nat.reduceAdd, Nat.reduceMul, Nat.reduceSub, List.nil_append, List.cons_append, nbk, List.map_cons, List.map_nil]; apply Trc.stp rfl rfl rfl; apply s_assign; exact rfl; dsimp only [Nat.reduceAdd, Nat.reduceMul, List.nil_append]
   exact Trc.done _ _ _; exact rfl; refine thn_n ?_; refine Gol.seq ?_; apply Gol.region; apply Trc.stp rfl rfl rfl; apply s_loadE; exact rfl; exact rfl; dsimp only [Nat.reduceAdd, Nat.reduceMul, List.nil_append]
   apply Trc.stp rfl rfl rfl; apply s_loadW; exact rfl; exact rfl; exact rfl; exact agu_cuv _; dsimp only [Nat.reduceAdd, Nat.reduceMul, List.nil_append]
   apply Trc.stp rfl rfl rfl; apply s_loadEN; exact rfl; exact Nat.le_of_ble_eq_true rfl; exact agu_lock rfl; dsimp only [Nat.reduceAdd, Nat.reduceMul, List.nil_append]
   apply Trc.stp rfl rfl rfl; apply s_callC rfl; assumption; apply evs.cons rfl; apply evs.cons rfl; exact evs.nil; dsimp only [List.cons_append, List.nil_append]
   apply ArgL.cons; exact arg_clo; apply ArgL.cons; exact arg_clo; exact ArgL.nil; exact hc; exact Nat.le_of_ble_eq_true rfl; dsimp only [Nat.reduceAdd, Nat.reduceMul, Nat.reduceSub, List.nil_append, List.cons_append, nbk, List.map_cons, List.map_nil]
   apply Trc.stp rfl rfl rfl; apply s_gt; exact rfl; exact rfl; dsimp only [Nat.reduceAdd, Nat.reduceMul, List.nil_append]
   apply Trc.stp rfl rfl rfl; apply s_assign; exact rfl; dsimp only [Nat.reduceAdd, Nat.reduceMul, List.nil_append]
   exact Trc.done _ _ _; exact rfl; refine thn_n ?_; refine Gol.ret ?_)
  (apply RetQ.mk (by first | exact .inr rfl | exact .inl rfl); apply res_1 rfl; exact res_tmp rfl; exact out_val)
theorem beforeL_ok (l : List Lk) (fl : Bool) (x : Lk) (c : FuncId) [hF : FnI Tryz.prog c] (q : Lk → Int) (hl : l.length ≤ 100000000) (hc : ∀ y ∈ l, Fresh Tryz.prog c [.v (.agg (lockC y.n y.h y.o y.t y.u)), .v (.agg (lockC x.n x.h x.o x.t x.u))] (fun _ => .v (.int .i64 (q y))) []) :
    Fresh Tryz.prog 47 [.ex l.length fl (lsA l), .v (.agg (lockC x.n x.h x.o x.t x.u)), .fn c []] (fun _ => .v (.int .i64 (bef (fun y => decide (0 < q y)) l : Int))) [] := by
  have hi := fun ff => idxL_ok l ff 94 [.ep (cu (.fn c [])), .ep (cu (.v (.agg (lockC x.n x.h x.o x.t x.u))))] (fun y => decide (0 < q y)) (by omega) (fun y hy => before1L_ok y x c (q y) (hc y hy))
  rcases fIx_cases (fun y => decide (0 < q y)) l with ⟨h1, h2, h3, _⟩ | ⟨j, d, h1, h2, h3, h4, h5, h6⟩
  · rw [h1] at hi
    rw [h3]
    refine Fresh.of (fn := Tryz.f47) Tryz.func47 rfl (Nat.le_of_ble_eq_true rfl) fun w => ?_
    (refine Gol.seq ?_; apply Gol.region; apply Trc.stp rfl rfl rfl; apply s_box; exact rfl
     exact rfl; dsimp only [Nat.reduceAdd, Nat.reduceMul, Nat.reduceSub, List.nil_append, List.cons_append, nbk, List.map_cons, List.map_nil]; apply Trc.stp rfl rfl rfl; apply s_box; exact rfl; exact rfl; dsimp only [Nat.reduceAdd, Nat.reduceMul, Nat.reduceSub, List.nil_append, List.cons_append, nbk, List.map_cons, List.map_nil]
     apply Trc.stp rfl rfl rfl; apply s_assign; exact rfl; dsimp only [Nat.reduceAdd, Nat.reduceMul, List.nil_append]
     exact Trc.done _ _ _; exact rfl; refine thn_n ?_; refine Gol.seq ?_; refine Gol.seq ?_; apply Gol.region
     apply Trc.stp rfl rfl rfl; apply s_move; exact rfl; dsimp only [Nat.reduceAdd, Nat.reduceMul, List.nil_append]
     apply Trc.stp rfl rfl rfl; apply s_mkf; apply evs.cons rfl; apply evs.cons rfl; exact evs.nil; dsimp only [Nat.reduceAdd, Nat.reduceMul, List.nil_append]
     apply Trc.stp rfl rfl rfl; apply s_call (f := 90) rfl; apply evs.cons rfl
     apply evs.cons rfl; exact evs.nil; apply ArgL.cons; exact arg_clo; apply ArgL.cons; apply arg_fn; apply ArgL.cons; exact arg_pt0 rfl; apply ArgL.cons
     exact arg_pt0 rfl; exact ArgL.nil; exact ArgL.nil; exact hi _; exact Nat.le_of_ble_eq_true rfl; dsimp only [Nat.reduceAdd, Nat.reduceMul, Nat.reduceSub, List.nil_append, List.cons_append, nbk, List.map_cons, List.map_nil]
     apply Trc.stp rfl rfl rfl; apply s_assign; exact rfl; dsimp only [Nat.reduceAdd, Nat.reduceMul, List.nil_append]
     exact Trc.done _ _ _; exact rfl; refine thn_n ?_; refine Gol.seq ?_; apply Gol.region; apply Trc.stp rfl rfl rfl; apply s_move; exact rfl; dsimp only [Nat.reduceAdd, Nat.reduceMul, List.nil_append]
     apply Trc.stp rfl rfl rfl; apply s_ge; exact rfl; exact rfl; dsimp only [Nat.reduceAdd, Nat.reduceMul, List.nil_append]
     exact Trc.done _ _ _; exact rfl; refine thn_n ?_)
    refine Gol.cond_f rfl (by decide) ?_
    (refine Gol.skip ?_; refine thn_n ?_; refine Gol.seq ?_; apply Gol.region; apply Trc.stp rfl rfl rfl; apply s_move; exact rfl; dsimp only [Nat.reduceAdd, Nat.reduceMul, List.nil_append]
     apply Trc.stp rfl rfl rfl; apply s_len; exact rfl; exact ln_ex; dsimp only [Nat.reduceAdd, Nat.reduceMul, List.nil_append]
     apply Trc.stp rfl rfl rfl; apply s_assign; exact rfl; dsimp only [Nat.reduceAdd, Nat.reduceMul, List.nil_append]
     exact Trc.done _ _ _; exact rfl; refine thn_n ?_; refine Gol.ret ?_)
    (apply RetQ.mk (by first | exact .inr rfl | exact .inl rfl); apply res_1 rfl; exact res_tmp rfl; exact out_val)
  · rw [h4] at hi
    rw [h5]
    refine Fresh.of (fn := Tryz.f47) Tryz.func47 rfl (Nat.le_of_ble_eq_true rfl) fun w => ?_
    (refine Gol.seq ?_; apply Gol.region; apply Trc.stp rfl rfl rfl; apply s_box; exact rfl
     exact rfl; dsimp only [Nat.reduceAdd, Nat.reduceMul, Nat.reduceSub, List.nil_append, List.cons_append, nbk, List.map_cons, List.map_nil]; apply Trc.stp rfl rfl rfl; apply s_box; exact rfl; exact rfl; dsimp only [Nat.reduceAdd, Nat.reduceMul, Nat.reduceSub, List.nil_append, List.cons_append, nbk, List.map_cons, List.map_nil]
     apply Trc.stp rfl rfl rfl; apply s_assign; exact rfl; dsimp only [Nat.reduceAdd, Nat.reduceMul, List.nil_append]
     exact Trc.done _ _ _; exact rfl; refine thn_n ?_; refine Gol.seq ?_; refine Gol.seq ?_; apply Gol.region
     apply Trc.stp rfl rfl rfl; apply s_move; exact rfl; dsimp only [Nat.reduceAdd, Nat.reduceMul, List.nil_append]
     apply Trc.stp rfl rfl rfl; apply s_mkf; apply evs.cons rfl; apply evs.cons rfl; exact evs.nil; dsimp only [Nat.reduceAdd, Nat.reduceMul, List.nil_append]
     apply Trc.stp rfl rfl rfl; apply s_call (f := 90) rfl; apply evs.cons rfl
     apply evs.cons rfl; exact evs.nil; apply ArgL.cons; exact arg_clo; apply ArgL.cons; apply arg_fn; apply ArgL.cons; exact arg_pt0 rfl; apply ArgL.cons
     exact arg_pt0 rfl; exact ArgL.nil; exact ArgL.nil; exact hi _; exact Nat.le_of_ble_eq_true rfl; dsimp only [Nat.reduceAdd, Nat.reduceMul, Nat.reduceSub, List.nil_append, List.cons_append, nbk, List.map_cons, List.map_nil]
     apply Trc.stp rfl rfl rfl; apply s_assign; exact rfl; dsimp only [Nat.reduceAdd, Nat.reduceMul, List.nil_append]
     exact Trc.done _ _ _; exact rfl; refine thn_n ?_; refine Gol.seq ?_; apply Gol.region; apply Trc.stp rfl rfl rfl; apply s_move; exact rfl; dsimp only [Nat.reduceAdd, Nat.reduceMul, List.nil_append]
     apply Trc.stp rfl rfl rfl; apply s_gen; exact rfl; exact rfl; dsimp only [Nat.reduceAdd, Nat.reduceMul, List.nil_append]
     exact Trc.done _ _ _; exact rfl; refine thn_n ?_)
    refine Gol.cond_t rfl (by simp) ?_
    (refine Gol.seq ?_; apply Gol.region; apply Trc.stp rfl rfl rfl; apply s_move; exact rfl
     dsimp only [Nat.reduceAdd, Nat.reduceMul, List.nil_append]; apply Trc.stp rfl rfl rfl; apply s_assign; exact rfl; dsimp only [Nat.reduceAdd, Nat.reduceMul, List.nil_append]
     exact Trc.done _ _ _; exact rfl; refine thn_n ?_; refine Gol.ret ?_; refine thn_r ?_)
    (apply RetQ.mk (by first | exact .inr rfl | exact .inl rfl); apply res_1 rfl; exact res_tmp rfl; exact out_val)
def gtK (k y : Lk) : Bool := decide (0 < cmpN y.n k.n)
def insK (l : List Lk) (k : Lk) : List Lk := l.take (bef (gtK k) l) ++ k :: l.drop (bef (gtK k) l)
def openL (l : List Lk) (k : Lk) : List Lk := match l.find? (eqK k.n) with
  | some _ => l
  | none => insK l k
def closeL (l : List Lk) (n : UInt64) : List Lk := match l.find? (eqK n) with
  | some _ => l.take (bef (eqK n) l) ++ l.drop (bef (eqK n) l + 1)
  | none => l
theorem insK_len (l : List Lk) (k : Lk) : (insK l k).length = l.length + 1 := by
  have := bef_le (gtK k) l
  simp [insK]; omega
theorem openL_len (l : List Lk) (k : Lk) : (openL l k).length ≤ l.length + 1 := by
  unfold openL
  split
  · omega
  · rw [insK_len]; exact Nat.le_refl _
theorem closeL_len (l : List Lk) (n : UInt64) : (closeL l n).length ≤ l.length := by
  unfold closeL
  split
  · simp; omega
  · exact Nat.le_refl _
theorem openL_find_yes {l : List Lk} {k z : Lk} (h : l.find? (eqK k.n) = some z) : (openL l k).find? (eqK k.n) = some z := by
  unfold openL
  rw [h]
  exact h
theorem openL_find_no {l : List Lk} {k : Lk} (h : l.find? (eqK k.n) = none) : (openL l k).find? (eqK k.n) = some k := by
  unfold openL
  rw [h]
  dsimp only
  unfold insK
  rw [List.find?_append]
  have h1 : (l.take (bef (gtK k) l)).find? (eqK k.n) = none := List.find?_eq_none.2 fun x hx => List.find?_eq_none.1 h x (List.mem_of_mem_take hx)
  rw [h1, List.find?_cons, show eqK k.n k = true by simp [eqK]]
  rfl
def stL (s : Stt) (l : List Lk) : Stt := ⟨s.cells, s.seqs, l, s.applied, s.guilty⟩
theorem open_ok (s : Stt) (k : Lk) (hs : Sm s) : Fresh Tryz.prog 16 [stA s, .v (.agg (lockC k.n k.h k.o k.t k.u))] (stO (stL s (openL s.locks k))) (stB (stL s (openL s.locks k))) := by
  have hcl := cloneS_ok s hs
  have hf := findLock_ok s k.n (by have := hs.l; omega)
  obtain ⟨h1, h2, h3, h4⟩ := hs
  unfold stA stO stB at hcl
  unfold stA at hf
  unfold stA stO stB stL
  dsimp only
  rcases fIx_cases (eqK k.n) s.locks with ⟨f1, f2, _, _⟩ | ⟨j, e, f1, f2, f3, f4, f5, f6⟩
  · rw [f1] at hf
    rw [show openL s.locks k = insK s.locks k by unfold openL; rw [f2]]
    have hb : ∀ ff, Fresh Tryz.prog 47 [.ex s.locks.length ff (lsA s.locks), .v (.agg (lockC k.n k.h k.o k.t k.u)), .fn 48 []] (fun _ => .v (.int .i64 (bef (gtK k) s.locks : Int))) [] := fun ff => beforeL_ok s.locks ff k 48 (fun y => cmpN y.n k.n) (by omega) (fun y _ => compareLocks_ok y k)
    have hbl := bef_le (gtK k) s.locks
    have hil := insK_len s.locks k
    refine Fresh.of (fn := Tryz.f16) Tryz.func16 rfl (Nat.le_of_ble_eq_true rfl) fun w => ?_
    (refine Gol.seq ?_; apply Gol.region; apply Trc.stp rfl rfl rfl; apply s_box; exact rfl
     exact rfl; dsimp only [Nat.reduceAdd, Nat.reduceMul, Nat.reduceSub, List.nil_append, List.cons_append, nbk, List.map_cons, List.map_nil]; apply Trc.stp rfl rfl rfl; apply s_box; exact rfl; exact rfl; dsimp only [Nat.reduceAdd, Nat.reduceMul, Nat.reduceSub, List.nil_append, List.cons_append, nbk, List.map_cons, List.map_nil]
     apply Trc.stp rfl rfl rfl; apply s_alloc; dsimp only [Nat.reduceAdd, Nat.reduceMul, Nat.reduceSub, List.nil_append, List.cons_append, nbk, List.map_cons, List.map_nil]
     exact Trc.done _ _ _; exact rfl; refine thn_n ?_; refine Gol.seq ?_; apply Gol.region; apply Trc.stp rfl rfl rfl; apply s_loadW; exact rfl; exact rfl; exact rfl; exact agu_cua _; dsimp only [Nat.reduceAdd, Nat.reduceMul, List.nil_append]
     apply Trc.stp rfl rfl rfl; apply s_call (f := 44) rfl; apply evs.cons rfl; exact evs.nil; apply ArgL.cons; exact arg_clo
     exact ArgL.nil; exact hcl; exact Nat.le_of_ble_eq_true rfl; dsimp only [Nat.reduceAdd, Nat.reduceMul, Nat.reduceSub, List.nil_append, List.cons_append, nbk, List.map_cons, List.map_nil]
     apply Trc.stepN rfl rfl; exact wnt_n rfl; apply s_storeW; exact rfl; exact rfl; exact rfl; exact rfl; rfl; exact rfl; dsimp only [Nat.reduceAdd, Nat.reduceMul, Nat.reduceSub, List.nil_append, List.cons_append, nbk, List.map_cons, List.map_nil]
     exact Trc.done _ _ _; exact rfl; refine thn_n ?_; refine Gol.seq ?_; refine Gol.seq ?_; apply Gol.region
     apply Trc.stp rfl rfl rfl; apply s_loadW; exact rfl; exact rfl; exact rfl; exact agu_cua _; dsimp only [Nat.reduceAdd, Nat.reduceMul, List.nil_append]
     apply Trc.stp rfl rfl rfl; apply s_fieldAddr; exact rfl; dsimp only [Nat.reduceAdd, Nat.reduceMul, List.nil_append]
     apply Trc.stp rfl rfl rfl; apply s_loadN; exact rfl; exact rfl; exact Nat.le_of_ble_eq_true rfl; exact agu_nm8 rfl; dsimp only [Nat.reduceAdd, Nat.reduceMul, List.nil_append]
     apply Trc.stp rfl rfl rfl; apply s_call (f := 45) rfl; apply evs.cons rfl; apply evs.cons rfl; exact evs.nil
     apply ArgL.cons; apply arg_ag; apply ArgL.cons; exact arg_sl rfl; apply ArgL.cons; exact arg_sl rfl; apply ArgL.cons; exact arg_sl rfl; apply ArgL.cons
     exact arg_sl rfl; apply ArgL.cons; exact arg_clo; exact ArgL.nil; apply ArgL.cons; exact arg_clo; exact ArgL.nil; exact hf; exact Nat.le_of_ble_eq_true rfl
     dsimp only [Nat.reduceAdd, Nat.reduceMul, Nat.reduceSub, List.nil_append, List.cons_append, nbk, List.map_cons, List.map_nil]; apply Trc.stp rfl rfl rfl; apply s_lt; exact rfl; exact rfl; dsimp only [Nat.reduceAdd, Nat.reduceMul, List.nil_append]
     exact Trc.done _ _ _; exact rfl; refine thn_n ?_)
    refine Gol.cond_t rfl (by decide) ?_
    (apply Gol.any; kernel_rfl; apply Trc.stp rfl rfl rfl; apply s_fieldAddr; exact rfl; dsimp only [Nat.reduceAdd, Nat.reduceMul, List.nil_append]
     apply Trc.stp rfl rfl rfl; apply s_load; exact rfl; exact rfl; exact rfl; dsimp only [Nat.reduceAdd, Nat.reduceMul, List.nil_append]
     apply Trc.stp rfl rfl rfl; apply s_fieldAddr; exact rfl; dsimp only [Nat.reduceAdd, Nat.reduceMul, List.nil_append]
     apply Trc.stp rfl rfl rfl; apply s_load; exact rfl; exact rfl; exact rfl; dsimp only [Nat.reduceAdd, Nat.reduceMul, List.nil_append]
     apply Trc.stp rfl rfl rfl; apply s_loadW; exact rfl; exact rfl; exact rfl; exact agu_cuv _; dsimp only [Nat.reduceAdd, Nat.reduceMul, List.nil_append]
     apply Trc.stp rfl rfl rfl; apply s_call (f := 47) rfl; apply evs.cons rfl; apply evs.cons rfl
     apply evs.cons rfl; exact evs.nil; apply ArgL.cons; exact arg_sl rfl; apply ArgL.cons; exact arg_clo; apply ArgL.cons; exact arg_clo; exact ArgL.nil; exact hb _
     exact Nat.le_of_ble_eq_true rfl; dsimp only [Nat.reduceAdd, Nat.reduceMul, Nat.reduceSub, List.nil_append, List.cons_append, nbk, List.map_cons, List.map_nil]
     apply Trc.stp rfl rfl rfl; apply s_loadW; exact rfl; exact rfl; exact rfl; exact agu_cuv _; dsimp only [Nat.reduceAdd, Nat.reduceMul, List.nil_append]
     apply Trc.stp rfl rfl rfl; apply s_lit; apply PA.cons; exact rfl; exact rfl; exact rfl; exact PA.nil; exact rfl; omega
     dsimp only [Nat.reduceAdd, Nat.reduceMul, Nat.reduceSub, List.nil_append, List.cons_append, nbk, List.map_cons, List.map_nil]; apply Trc.stp rfl rfl rfl; apply s_turn (f := 46) [34, 144] rfl; apply evs.cons rfl; apply evs.cons rfl
     apply evs.cons rfl; exact evs.nil; exact rfl; apply TBs.cons; exact rfl; exact inferInstance; apply TBs.cons; exact rfl; exact inferInstance; exact TBs.nil
     apply ArgTL.cons; exact ArgT.sl (j := 0) rfl; apply ArgTL.cons; exact ArgT.clo inferInstance; apply ArgTL.cons; exact ArgT.sl (j := 1) rfl; exact ArgTL.nil
     exact insL_ok s.locks k (bef (gtK k) s.locks) hbl (by omega); exact Nat.le_of_ble_eq_true rfl; dsimp only [Nat.reduceAdd, Nat.reduceMul, Nat.reduceSub, List.nil_append, List.cons_append, nbk, nones, List.map_cons, List.map_nil]
     apply Trc.stp rfl rfl rfl; apply s_fieldAddr; exact rfl; dsimp only [Nat.reduceAdd, Nat.reduceMul, List.nil_append]
     apply Trc.stepN rfl rfl; exact wnt_n rfl; apply s_store; exact rfl; exact rfl; exact rfl; exact rfl; rfl; exact Nat.le_of_ble_eq_true rfl
     dsimp only [Nat.reduceAdd, Nat.reduceMul, Nat.reduceSub, List.nil_append, List.cons_append, nbk, List.map_cons, List.map_nil]; exact Trc.done _ _ _; kernel_rfl
     exact rfl; refine thn_n ?_; refine Gol.seq ?_; apply Gol.region; apply Trc.stp rfl rfl rfl
     apply s_loadW; exact rfl; exact rfl; exact rfl; exact agu_cua _; dsimp only [Nat.reduceAdd, Nat.reduceMul, List.nil_append]
     apply Trc.stepN rfl rfl; exact wnt_n rfl; apply s_storeW; exact rfl; exact rfl; exact rfl; exact rfl; rfl; exact rfl; dsimp only [Nat.reduceAdd, Nat.reduceMul, Nat.reduceSub, List.nil_append, List.cons_append, nbk, List.map_cons, List.map_nil]
     exact Trc.done _ _ _; exact rfl; refine thn_n ?_; refine Gol.ret ?_)
    rw [hil]
    (apply RetQ.mkM (by first | exact .inr rfl | exact .inl rfl); apply res_1 rfl; exact res_cell rfl rfl rfl (agu_cua _); apply out_ids [32, 33, 152, 35] rfl
     apply OBs.cons; exact rfl; exact inferInstance; apply OBs.cons; exact rfl; exact inferInstance; apply OBs.cons; exact rfl; exact inferInstance; apply OBs.cons
     exact rfl; exact inferInstance; exact OBs.nil; intro k; apply Ot.agL; apply OtL.cons; exact Ot.sl (j := 0) rfl; apply OtL.cons; exact Ot.sl (j := 1) rfl
     apply OtL.cons; exact Ot.sl (j := 2) rfl; apply OtL.cons; exact Ot.sl (j := 3) rfl; apply OtL.cons; exact Ot.v inferInstance; exact OtL.nil)
  · rw [f4] at hf
    rw [show openL s.locks k = s.locks by unfold openL; rw [f3]]
    refine Fresh.of (fn := Tryz.f16) Tryz.func16 rfl (Nat.le_of_ble_eq_true rfl) fun w => ?_
    (refine Gol.seq ?_; apply Gol.region; apply Trc.stp rfl rfl rfl; apply s_box; exact rfl
     exact rfl; dsimp only [Nat.reduceAdd, Nat.reduceMul, Nat.reduceSub, List.nil_append, List.cons_append, nbk, List.map_cons, List.map_nil]; apply Trc.stp rfl rfl rfl; apply s_box; exact rfl; exact rfl; dsimp only [Nat.reduceAdd, Nat.reduceMul, Nat.reduceSub, List.nil_append, List.cons_append, nbk, List.map_cons, List.map_nil]
     apply Trc.stp rfl rfl rfl; apply s_alloc; dsimp only [Nat.reduceAdd, Nat.reduceMul, Nat.reduceSub, List.nil_append, List.cons_append, nbk, List.map_cons, List.map_nil]
     exact Trc.done _ _ _; exact rfl; refine thn_n ?_; refine Gol.seq ?_; apply Gol.region; apply Trc.stp rfl rfl rfl; apply s_loadW; exact rfl; exact rfl; exact rfl; exact agu_cua _; dsimp only [Nat.reduceAdd, Nat.reduceMul, List.nil_append]
     apply Trc.stp rfl rfl rfl; apply s_call (f := 44) rfl; apply evs.cons rfl; exact evs.nil; apply ArgL.cons; exact arg_clo
     exact ArgL.nil; exact hcl; exact Nat.le_of_ble_eq_true rfl; dsimp only [Nat.reduceAdd, Nat.reduceMul, Nat.reduceSub, List.nil_append, List.cons_append, nbk, List.map_cons, List.map_nil]
     apply Trc.stepN rfl rfl; exact wnt_n rfl; apply s_storeW; exact rfl; exact rfl; exact rfl; exact rfl; rfl; exact rfl; dsimp only [Nat.reduceAdd, Nat.reduceMul, Nat.reduceSub, List.nil_append, List.cons_append, nbk, List.map_cons, List.map_nil]
     exact Trc.done _ _ _; exact rfl; refine thn_n ?_; refine Gol.seq ?_; refine Gol.seq ?_; apply Gol.region
     apply Trc.stp rfl rfl rfl; apply s_loadW; exact rfl; exact rfl; exact rfl; exact agu_cua _; dsimp only [Nat.reduceAdd, Nat.reduceMul, List.nil_append]
     apply Trc.stp rfl rfl rfl; apply s_fieldAddr; exact rfl; dsimp only [Nat.reduceAdd, Nat.reduceMul, List.nil_append]
     apply Trc.stp rfl rfl rfl; apply s_loadN; exact rfl; exact rfl; exact Nat.le_of_ble_eq_true rfl; exact agu_nm8 rfl; dsimp only [Nat.reduceAdd, Nat.reduceMul, List.nil_append]
     apply Trc.stp rfl rfl rfl; apply s_call (f := 45) rfl; apply evs.cons rfl; apply evs.cons rfl; exact evs.nil
     apply ArgL.cons; apply arg_ag; apply ArgL.cons; exact arg_sl rfl; apply ArgL.cons; exact arg_sl rfl; apply ArgL.cons; exact arg_sl rfl; apply ArgL.cons
     exact arg_sl rfl; apply ArgL.cons; exact arg_clo; exact ArgL.nil; apply ArgL.cons; exact arg_clo; exact ArgL.nil; exact hf; exact Nat.le_of_ble_eq_true rfl
     dsimp only [Nat.reduceAdd, Nat.reduceMul, Nat.reduceSub, List.nil_append, List.cons_append, nbk, List.map_cons, List.map_nil]; apply Trc.stp rfl rfl rfl; apply s_ltn; exact rfl; exact rfl; dsimp only [Nat.reduceAdd, Nat.reduceMul, List.nil_append]
     exact Trc.done _ _ _; exact rfl; refine thn_n ?_)
    refine Gol.cond_f rfl (by simp) ?_
    (refine Gol.skip ?_; refine thn_n ?_; refine Gol.seq ?_; apply Gol.region; apply Trc.stp rfl rfl rfl; apply s_loadW; exact rfl; exact rfl; exact rfl; exact agu_cua _; dsimp only [Nat.reduceAdd, Nat.reduceMul, List.nil_append]
     apply Trc.stepN rfl rfl; exact wnt_n rfl; apply s_storeW; exact rfl; exact rfl; exact rfl; exact rfl; rfl; exact rfl; dsimp only [Nat.reduceAdd, Nat.reduceMul, Nat.reduceSub, List.nil_append, List.cons_append, nbk, List.map_cons, List.map_nil]
     exact Trc.done _ _ _; exact rfl; refine thn_n ?_; refine Gol.ret ?_)
    (apply RetQ.mkM (by first | exact .inr rfl | exact .inl rfl); apply res_1 rfl; exact res_cell rfl rfl rfl (agu_cua _); apply out_ids [32, 33, 34, 35] rfl
     apply OBs.cons; exact rfl; exact inferInstance; apply OBs.cons; exact rfl; exact inferInstance; apply OBs.cons; exact rfl; exact inferInstance; apply OBs.cons
     exact rfl; exact inferInstance; exact OBs.nil; intro k; apply Ot.agL; apply OtL.cons; exact Ot.sl (j := 0) rfl; apply OtL.cons; exact Ot.sl (j := 1) rfl
     apply OtL.cons; exact Ot.sl (j := 2) rfl; apply OtL.cons; exact Ot.sl (j := 3) rfl; apply OtL.cons; exact Ot.v inferInstance; exact OtL.nil)
theorem close_ok (s : Stt) (n : UInt64) (hs : Sm s) : Fresh Tryz.prog 17 [stA s, .v (.agg (nameC n))] (stO (stL s (closeL s.locks n))) (stB (stL s (closeL s.locks n))) := by
  have hcl := cloneS_ok s hs
  have hf := findLock_ok s n (by have := hs.l; omega)
  obtain ⟨h1, h2, h3, h4⟩ := hs
  unfold stA stO stB at hcl
  unfold stA at hf
  unfold stA stO stB stL
  dsimp only
  rcases fIx_cases (eqK n) s.locks with ⟨f1, f2, _, _⟩ | ⟨j, e, f1, f2, f3, f4, f5, f6⟩
  · rw [f1] at hf
    rw [show closeL s.locks n = s.locks by unfold closeL; rw [f2]]
    refine Fresh.of (fn := Tryz.f17) Tryz.func17 rfl (Nat.le_of_ble_eq_true rfl) fun w => ?_
    (refine Gol.seq ?_; apply Gol.region; apply Trc.stp rfl rfl rfl; apply s_box; exact rfl
     exact rfl; dsimp only [Nat.reduceAdd, Nat.reduceMul, Nat.reduceSub, List.nil_append, List.cons_append, nbk, List.map_cons, List.map_nil]; apply Trc.stp rfl rfl rfl; apply s_box; exact rfl; exact rfl; dsimp only [Nat.reduceAdd, Nat.reduceMul, Nat.reduceSub, List.nil_append, List.cons_append, nbk, List.map_cons, List.map_nil]
     apply Trc.stp rfl rfl rfl; apply s_alloc; dsimp only [Nat.reduceAdd, Nat.reduceMul, Nat.reduceSub, List.nil_append, List.cons_append, nbk, List.map_cons, List.map_nil]
     exact Trc.done _ _ _; exact rfl; refine thn_n ?_; refine Gol.seq ?_; apply Gol.region; apply Trc.stp rfl rfl rfl; apply s_loadW; exact rfl; exact rfl; exact rfl; exact agu_cua _; dsimp only [Nat.reduceAdd, Nat.reduceMul, List.nil_append]
     apply Trc.stp rfl rfl rfl; apply s_call (f := 44) rfl; apply evs.cons rfl; exact evs.nil; apply ArgL.cons; exact arg_clo
     exact ArgL.nil; exact hcl; exact Nat.le_of_ble_eq_true rfl; dsimp only [Nat.reduceAdd, Nat.reduceMul, Nat.reduceSub, List.nil_append, List.cons_append, nbk, List.map_cons, List.map_nil]
     apply Trc.stepN rfl rfl; exact wnt_n rfl; apply s_storeW; exact rfl; exact rfl; exact rfl; exact rfl; rfl; exact rfl; dsimp only [Nat.reduceAdd, Nat.reduceMul, Nat.reduceSub, List.nil_append, List.cons_append, nbk, List.map_cons, List.map_nil]
     exact Trc.done _ _ _; exact rfl; refine thn_n ?_; refine Gol.seq ?_; refine Gol.seq ?_; apply Gol.region
     apply Trc.stp rfl rfl rfl; apply s_loadW; exact rfl; exact rfl; exact rfl; exact agu_cua _; dsimp only [Nat.reduceAdd, Nat.reduceMul, List.nil_append]
     apply Trc.stp rfl rfl rfl; apply s_loadW; exact rfl; exact rfl; exact rfl; exact agu_cuv _; dsimp only [Nat.reduceAdd, Nat.reduceMul, List.nil_append]
     apply Trc.stp rfl rfl rfl; apply s_call (f := 45) rfl; apply evs.cons rfl; apply evs.cons rfl; exact evs.nil
     apply ArgL.cons; apply arg_ag; apply ArgL.cons; exact arg_sl rfl; apply ArgL.cons; exact arg_sl rfl; apply ArgL.cons; exact arg_sl rfl; apply ArgL.cons
     exact arg_sl rfl; apply ArgL.cons; exact arg_clo; exact ArgL.nil; apply ArgL.cons; exact arg_clo; exact ArgL.nil; exact hf; exact Nat.le_of_ble_eq_true rfl
     dsimp only [Nat.reduceAdd, Nat.reduceMul, Nat.reduceSub, List.nil_append, List.cons_append, nbk, List.map_cons, List.map_nil]; apply Trc.stp rfl rfl rfl; apply s_assign; exact rfl; dsimp only [Nat.reduceAdd, Nat.reduceMul, List.nil_append]
     exact Trc.done _ _ _; exact rfl; refine thn_n ?_; refine Gol.seq ?_; apply Gol.region; apply Trc.stp rfl rfl rfl; apply s_move; exact rfl; dsimp only [Nat.reduceAdd, Nat.reduceMul, List.nil_append]
     apply Trc.stp rfl rfl rfl; apply s_ge; exact rfl; exact rfl; dsimp only [Nat.reduceAdd, Nat.reduceMul, List.nil_append]
     exact Trc.done _ _ _; exact rfl; refine thn_n ?_)
    refine Gol.cond_f rfl (by decide) ?_
    (refine Gol.skip ?_; refine thn_n ?_; refine Gol.seq ?_; apply Gol.region; apply Trc.stp rfl rfl rfl; apply s_loadW; exact rfl; exact rfl; exact rfl; exact agu_cua _; dsimp only [Nat.reduceAdd, Nat.reduceMul, List.nil_append]
     apply Trc.stepN rfl rfl; exact wnt_n rfl; apply s_storeW; exact rfl; exact rfl; exact rfl; exact rfl; rfl; exact rfl; dsimp only [Nat.reduceAdd, Nat.reduceMul, Nat.reduceSub, List.nil_append, List.cons_append, nbk, List.map_cons, List.map_nil]
     exact Trc.done _ _ _; exact rfl; refine thn_n ?_; refine Gol.ret ?_)
    (apply RetQ.mkM (by first | exact .inr rfl | exact .inl rfl); apply res_1 rfl; exact res_cell rfl rfl rfl (agu_cua _); apply out_ids [32, 33, 34, 35] rfl
     apply OBs.cons; exact rfl; exact inferInstance; apply OBs.cons; exact rfl; exact inferInstance; apply OBs.cons; exact rfl; exact inferInstance; apply OBs.cons
     exact rfl; exact inferInstance; exact OBs.nil; intro k; apply Ot.agL; apply OtL.cons; exact Ot.sl (j := 0) rfl; apply OtL.cons; exact Ot.sl (j := 1) rfl
     apply OtL.cons; exact Ot.sl (j := 2) rfl; apply OtL.cons; exact Ot.sl (j := 3) rfl; apply OtL.cons; exact Ot.v inferInstance; exact OtL.nil)
  · rw [f4] at hf
    rw [show closeL s.locks n = s.locks.take j ++ s.locks.drop (j + 1) by unfold closeL; rw [f3]; dsimp only; rw [f5], show (s.locks.take j ++ s.locks.drop (j + 1)).length = s.locks.length - 1 by simp; omega]
    refine Fresh.of (fn := Tryz.f17) Tryz.func17 rfl (Nat.le_of_ble_eq_true rfl) fun w => ?_
    (refine Gol.seq ?_; apply Gol.region; apply Trc.stp rfl rfl rfl; apply s_box; exact rfl
     exact rfl; dsimp only [Nat.reduceAdd, Nat.reduceMul, Nat.reduceSub, List.nil_append, List.cons_append, nbk, List.map_cons, List.map_nil]; apply Trc.stp rfl rfl rfl; apply s_box; exact rfl; exact rfl; dsimp only [Nat.reduceAdd, Nat.reduceMul, Nat.reduceSub, List.nil_append, List.cons_append, nbk, List.map_cons, List.map_nil]
     apply Trc.stp rfl rfl rfl; apply s_alloc; dsimp only [Nat.reduceAdd, Nat.reduceMul, Nat.reduceSub, List.nil_append, List.cons_append, nbk, List.map_cons, List.map_nil]
     exact Trc.done _ _ _; exact rfl; refine thn_n ?_; refine Gol.seq ?_; apply Gol.region; apply Trc.stp rfl rfl rfl; apply s_loadW; exact rfl; exact rfl; exact rfl; exact agu_cua _; dsimp only [Nat.reduceAdd, Nat.reduceMul, List.nil_append]
     apply Trc.stp rfl rfl rfl; apply s_call (f := 44) rfl; apply evs.cons rfl; exact evs.nil; apply ArgL.cons; exact arg_clo
     exact ArgL.nil; exact hcl; exact Nat.le_of_ble_eq_true rfl; dsimp only [Nat.reduceAdd, Nat.reduceMul, Nat.reduceSub, List.nil_append, List.cons_append, nbk, List.map_cons, List.map_nil]
     apply Trc.stepN rfl rfl; exact wnt_n rfl; apply s_storeW; exact rfl; exact rfl; exact rfl; exact rfl; rfl; exact rfl; dsimp only [Nat.reduceAdd, Nat.reduceMul, Nat.reduceSub, List.nil_append, List.cons_append, nbk, List.map_cons, List.map_nil]
     exact Trc.done _ _ _; exact rfl; refine thn_n ?_; refine Gol.seq ?_; refine Gol.seq ?_; apply Gol.region
     apply Trc.stp rfl rfl rfl; apply s_loadW; exact rfl; exact rfl; exact rfl; exact agu_cua _; dsimp only [Nat.reduceAdd, Nat.reduceMul, List.nil_append]
     apply Trc.stp rfl rfl rfl; apply s_loadW; exact rfl; exact rfl; exact rfl; exact agu_cuv _; dsimp only [Nat.reduceAdd, Nat.reduceMul, List.nil_append]
     apply Trc.stp rfl rfl rfl; apply s_call (f := 45) rfl; apply evs.cons rfl; apply evs.cons rfl; exact evs.nil
     apply ArgL.cons; apply arg_ag; apply ArgL.cons; exact arg_sl rfl; apply ArgL.cons; exact arg_sl rfl; apply ArgL.cons; exact arg_sl rfl; apply ArgL.cons
     exact arg_sl rfl; apply ArgL.cons; exact arg_clo; exact ArgL.nil; apply ArgL.cons; exact arg_clo; exact ArgL.nil; exact hf; exact Nat.le_of_ble_eq_true rfl
     dsimp only [Nat.reduceAdd, Nat.reduceMul, Nat.reduceSub, List.nil_append, List.cons_append, nbk, List.map_cons, List.map_nil]; apply Trc.stp rfl rfl rfl; apply s_assign; exact rfl; dsimp only [Nat.reduceAdd, Nat.reduceMul, List.nil_append]
     exact Trc.done _ _ _; exact rfl; refine thn_n ?_; refine Gol.seq ?_; apply Gol.region; apply Trc.stp rfl rfl rfl; apply s_move; exact rfl; dsimp only [Nat.reduceAdd, Nat.reduceMul, List.nil_append]
     apply Trc.stp rfl rfl rfl; apply s_gen; exact rfl; exact rfl; dsimp only [Nat.reduceAdd, Nat.reduceMul, List.nil_append]
     exact Trc.done _ _ _; exact rfl; refine thn_n ?_)
    refine Gol.cond_t rfl (by simp) ?_
    (apply Gol.region; apply Trc.stp rfl rfl rfl; apply s_fieldAddr; exact rfl; dsimp only [Nat.reduceAdd, Nat.reduceMul, List.nil_append]
     apply Trc.stp rfl rfl rfl; apply s_load; exact rfl; exact rfl; exact rfl; dsimp only [Nat.reduceAdd, Nat.reduceMul, List.nil_append]
     apply Trc.stp rfl rfl rfl; apply s_move; exact rfl; dsimp only [Nat.reduceAdd, Nat.reduceMul, List.nil_append]
     apply Trc.stp rfl rfl rfl; apply s_move; exact rfl; dsimp only [Nat.reduceAdd, Nat.reduceMul, List.nil_append]
     apply Trc.stp rfl rfl rfl; apply s_addn; exact rfl; exact rfl; simp <;> omega; dsimp only [Nat.reduceAdd, Nat.reduceMul, List.nil_append]
     apply Trc.stp rfl rfl rfl; apply s_turn (f := 49) [34] rfl; apply evs.cons rfl
     apply evs.cons rfl; apply evs.cons rfl; exact evs.nil; exact rfl; apply TBs.cons; exact rfl; exact inferInstance; exact TBs.nil; apply ArgTL.cons; exact ArgT.sl (j := 0) rfl
     apply ArgTL.cons; exact ArgT.clo inferInstance; apply ArgTL.cons; exact ArgT.clo inferInstance; exact ArgTL.nil; exact delL_ok s.locks j f6 (by omega)
     exact Nat.le_of_ble_eq_true rfl; dsimp only [Nat.reduceAdd, Nat.reduceMul, Nat.reduceSub, List.nil_append, List.cons_append, nbk, nones, List.map_cons, List.map_nil]
     apply Trc.stp rfl rfl rfl; apply s_fieldAddr; exact rfl; dsimp only [Nat.reduceAdd, Nat.reduceMul, List.nil_append]
     apply Trc.stepN rfl rfl; exact wnt_n rfl; apply s_store; exact rfl; exact rfl; exact rfl; exact rfl; rfl; exact Nat.le_of_ble_eq_true rfl
     dsimp only [Nat.reduceAdd, Nat.reduceMul, Nat.reduceSub, List.nil_append, List.cons_append, nbk, List.map_cons, List.map_nil]; exact Trc.done _ _ _; exact rfl
     refine thn_n ?_; refine Gol.seq ?_; apply Gol.region; apply Trc.stp rfl rfl rfl; apply s_loadW
     exact rfl; exact rfl; exact rfl; exact agu_cua _; dsimp only [Nat.reduceAdd, Nat.reduceMul, List.nil_append]
     apply Trc.stepN rfl rfl; exact wnt_n rfl; apply s_storeW; exact rfl; exact rfl; exact rfl; exact rfl; rfl; exact rfl; dsimp only [Nat.reduceAdd, Nat.reduceMul, Nat.reduceSub, List.nil_append, List.cons_append, nbk, List.map_cons, List.map_nil]
     exact Trc.done _ _ _; exact rfl; refine thn_n ?_; refine Gol.ret ?_)
    (apply RetQ.mkM (by first | exact .inr rfl | exact .inl rfl); apply res_1 rfl; exact res_cell rfl rfl rfl (agu_cua _); apply out_ids [32, 33, 136, 35] rfl
     apply OBs.cons; exact rfl; exact inferInstance; apply OBs.cons; exact rfl; exact inferInstance; apply OBs.cons; exact rfl; exact inferInstance; apply OBs.cons
     exact rfl; exact inferInstance; exact OBs.nil; intro k; apply Ot.agL; apply OtL.cons; exact Ot.sl (j := 0) rfl; apply OtL.cons; exact Ot.sl (j := 1) rfl
     apply OtL.cons; exact Ot.sl (j := 2) rfl; apply OtL.cons; exact Ot.sl (j := 3) rfl; apply OtL.cons; exact Ot.v inferInstance; exact OtL.nil)
end Go.Proofs.YtkkeeokeihkagaaGreat


/-
  Layer 21: locks of the reference. Conditions: lengths below 2^17.
-/
namespace Go.Proofs.YtkkeeokeihkagaaGreat
open Go.RowKit

theorem less_iff2 (a b : UInt64) : (a.toNat < b.toNat) ↔ 0 < cmpN b a := by
  have := cmpI_cases (b.toNat : Int) (a.toNat : Int)
  unfold cmpN
  omega
theorem refFind_yes (s : Stt) (n : UInt64) (d : Lk) (hl : s.locks.length ≤ 10000000) (h : s.locks.find? (eqK n) = some d) : Fresh Tryz.prog 19 [stA s, .v (.agg (nameC n))] (fun _ => .tp [.v (.agg (lockC d.n d.h d.o d.t d.u)), .v (.bool true)]) [] := by
  unfold stA
  generalize s.locks = L at h hl
  rcases fIx_cases (eqK n) L with ⟨h1, h2, _, _⟩ | ⟨j, e, h1, h2, h3, h4, h5, h6⟩
  · rw [h2] at h; cases h
  rw [h3] at h
  cases h
  refine Fresh.of (fn := Tryz.f19) Tryz.func19 rfl (Nat.le_of_ble_eq_true rfl) fun w => ?_
  (refine Gol.seq ?_; apply Gol.region; apply Trc.stp rfl rfl rfl; apply s_box; exact rfl
   exact rfl; dsimp only [Nat.reduceAdd, Nat.reduceMul, Nat.reduceSub, List.nil_append, List.cons_append, nbk, List.map_cons, List.map_nil]; apply Trc.stp rfl rfl rfl; apply s_box; exact rfl; exact rfl; dsimp only [Nat.reduceAdd, Nat.reduceMul, Nat.reduceSub, List.nil_append, List.cons_append, nbk, List.map_cons, List.map_nil]
   apply Trc.stp rfl rfl rfl; apply s_alloc; dsimp only [Nat.reduceAdd, Nat.reduceMul, Nat.reduceSub, List.nil_append, List.cons_append, nbk, List.map_cons, List.map_nil]
   apply Trc.stp rfl rfl rfl; apply s_assign; exact rfl; dsimp only [Nat.reduceAdd, Nat.reduceMul, List.nil_append]
   exact Trc.done _ _ _; exact rfl; refine thn_n ?_; refine Gol.seq ?_; refine Gol.seq ?_; apply Gol.region
   apply Trc.stp rfl rfl rfl; apply s_assign; exact rfl; dsimp only [Nat.reduceAdd, Nat.reduceMul, List.nil_append]
   exact Trc.done _ _ _; exact rfl; refine thn_n ?_; refine Gol.block ?_)
  refine Gol.loop (ι := Nat) (fun i => i ≤ L.length ∧ fIx (eqK n) (L.drop i) i = fIx (eqK n) L 0) (fun i => L.length - i) 40 (fun _ => [(0, some ⟨[.ex s.cells.length false (dsA s.cells), .ex s.seqs.length false (inA s.seqs), .ex L.length false (lsA L), .ex s.applied.length false (byA (flat s.applied)), .v (.int .i64 s.guilty)], 28, 5⟩), (8, some ⟨cu (.v (.agg (nameC n))), 30, 8⟩), (16, some ⟨cu (.v (.agg (lockC 0 0 0 0 0))), 50, 19⟩)]) (fun i => [(6, .v (.int .i64 (i : Int))), (2, .pt 0 0), (3, .pt 8 0), (4, .pt 16 0)]) 0 ⟨Nat.zero_le _, rfl⟩ ?_ ?_
  · (apply Le.mk3' []; apply RnT3.c; exact rfl; apply Rn3.r; exact Rn.v rfl; apply RnT3.c; exact rfl; apply Rn3.r; exact Rn.pt rfl rfl; apply RnT3.c; exact rfl
     apply Rn3.r; exact Rn.pt rfl rfl; apply RnT3.c; exact rfl; apply Rn3.r; exact Rn.pt rfl rfl; exact RnT3.n; apply RnH3.c; exact rfl; exact rfl; apply RnC.cl
     rfl; exact inferInstance; exact rfl; exact rfl; apply RnH3.c; exact rfl; exact rfl; apply RnC.cl; rfl; exact inferInstance; exact rfl; exact rfl; apply RnH3.c
     exact rfl; exact rfl; apply RnC.cl; rfl; exact inferInstance; exact rfl; exact rfl; exact RnH3.n; exact rfl)
  rintro i ⟨g1, g2⟩
  rw [h4] at g2
  (refine Gol.seq ?_; refine Gol.seq ?_; apply Gol.region; apply Trc.stp rfl rfl rfl; apply s_move
   exact rfl; dsimp only [Nat.reduceAdd, Nat.reduceMul, List.nil_append]; apply Trc.stp rfl rfl rfl; apply s_fieldAddr; exact rfl; dsimp only [Nat.reduceAdd, Nat.reduceMul, List.nil_append]
   apply Trc.stp rfl rfl rfl; apply s_load; exact rfl; exact rfl; exact rfl; dsimp only [Nat.reduceAdd, Nat.reduceMul, List.nil_append]
   apply Trc.stp rfl rfl rfl; apply s_len; exact rfl; exact ln_ex; dsimp only [Nat.reduceAdd, Nat.reduceMul, List.nil_append]
   apply Trc.stp rfl rfl rfl; apply s_ltn; exact rfl; exact rfl; dsimp only [Nat.reduceAdd, Nat.reduceMul, List.nil_append]
   exact Trc.done _ _ _; exact rfl; refine thn_n ?_)
  refine Gol.cond rfl (fun h => ?_) (fun h => ?_)
  · have hlt : i < L.length := of_decide_eq_true h
    obtain ⟨e, he⟩ : ∃ e, L[i]? = some e := ⟨L[i], List.getElem?_eq_getElem hlt⟩
    (refine Gol.skip ?_; refine thn_n ?_; refine Gol.seq ?_; refine Gol.block ?_; refine Gol.seq ?_
     apply Gol.any; kernel_rfl; apply Trc.stp rfl rfl rfl; apply s_fieldAddr; exact rfl; dsimp only [Nat.reduceAdd, Nat.reduceMul, List.nil_append]
     apply Trc.stp rfl rfl rfl; apply s_load; exact rfl; exact rfl; exact rfl; dsimp only [Nat.reduceAdd, Nat.reduceMul, List.nil_append]
     apply Trc.stp rfl rfl rfl; apply s_move; exact rfl; dsimp only [Nat.reduceAdd, Nat.reduceMul, List.nil_append]
     apply Trc.stp rfl rfl rfl; apply s_ixe; exact rfl; exact rfl; omega; exact ls_ne (by omega); dsimp only [Nat.reduceAdd, Nat.reduceMul, List.nil_append]
     apply Trc.stp rfl rfl rfl; apply s_fieldAddrE; exact rfl; dsimp only [Nat.reduceAdd, Nat.reduceMul, List.nil_append]
     apply Trc.stp rfl rfl rfl; apply s_loadEN; exact rfl; simp only [byA_length, List.length_append, List.length_cons, List.length_nil, List.length_take, List.length_drop, List.length_replicate, List.length_map, Nat.mul_one, nameB_length, flat_length, List.length_set, inA_length, dsA_length, lsA_length, dA_length, lA_length] <;> omega
     exact agu_ln (by assumption); dsimp only [Nat.reduceAdd, Nat.reduceMul, List.nil_append]
     apply Trc.stp rfl rfl rfl; apply s_loadW; exact rfl; exact rfl; exact rfl; exact agu_cuv _; dsimp only [Nat.reduceAdd, Nat.reduceMul, List.nil_append]
     apply Trc.stp rfl rfl rfl; apply s_eqN; exact rfl; exact rfl; dsimp only [Nat.reduceAdd, Nat.reduceMul, List.nil_append]
     exact Trc.done _ _ _; kernel_rfl; exact rfl; refine thn_n ?_)
    refine Gol.cond rfl (fun h => ?_) (fun h => ?_)
    · have hp : eqK n e = true := h
      rw [fIx_hit he hp] at g2
      have hij : i = j := by omega
      subst hij
      rw [h1] at he
      cases he
      (refine Gol.seq ?_; apply Gol.region; apply Trc.stp rfl rfl rfl; apply s_fieldAddr; exact rfl
       dsimp only [Nat.reduceAdd, Nat.reduceMul, List.nil_append]; apply Trc.stp rfl rfl rfl; apply s_load; exact rfl; exact rfl; exact rfl; dsimp only [Nat.reduceAdd, Nat.reduceMul, List.nil_append]
       apply Trc.stp rfl rfl rfl; apply s_move; exact rfl; dsimp only [Nat.reduceAdd, Nat.reduceMul, List.nil_append]
       apply Trc.stp rfl rfl rfl; apply s_ixe; exact rfl; exact rfl; omega; exact ls_ne (by omega); dsimp only [Nat.reduceAdd, Nat.reduceMul, List.nil_append]
       apply Trc.stp rfl rfl rfl; apply s_loadEN; exact rfl; simp only [byA_length, List.length_append, List.length_cons, List.length_nil, List.length_take, List.length_drop, List.length_replicate, List.length_map, Nat.mul_one, nameB_length, flat_length, List.length_set, inA_length, dsA_length, lsA_length, dA_length, lA_length] <;> omega
       exact agu_l (by assumption); dsimp only [Nat.reduceAdd, Nat.reduceMul, List.nil_append]
       apply Trc.stepN rfl rfl; exact wnt_n rfl; apply s_storeW; exact rfl; exact rfl; exact rfl; exact rfl; rfl; exact rfl; dsimp only [Nat.reduceAdd, Nat.reduceMul, Nat.reduceSub, List.nil_append, List.cons_append, nbk, List.map_cons, List.map_nil]
       apply Trc.stp rfl rfl rfl; apply s_assign; exact rfl; dsimp only [Nat.reduceAdd, Nat.reduceMul, List.nil_append]
       exact Trc.done _ _ _; exact rfl; refine thn_n ?_; refine Gol.ret ?_; refine inBlk_r ?_; refine thn_r ?_
       refine rnd_r ?_; refine inBlk_r ?_; refine thn_r ?_)
      (apply RetQ.mk (by first | exact .inr rfl | exact .inl rfl); apply res_2 rfl; exact res_cell rfl rfl rfl (agu_cuv _); exact res_tmp rfl; exact out_val)
    · have hp : eqK n e = false := h
      (refine Gol.skip ?_; refine inBlk_n ?_; refine thn_n ?_; apply Gol.region; apply Trc.stp rfl rfl rfl; apply s_move; exact rfl; dsimp only [Nat.reduceAdd, Nat.reduceMul, List.nil_append]
       apply Trc.stp rfl rfl rfl; apply s_addn; exact rfl; exact rfl; simp <;> omega; dsimp only [Nat.reduceAdd, Nat.reduceMul, List.nil_append]
       apply Trc.stp rfl rfl rfl; apply s_assign; exact rfl; dsimp only [Nat.reduceAdd, Nat.reduceMul, List.nil_append]
       exact Trc.done _ _ _; exact rfl)
      refine rnd_n (i + 1) ⟨by omega, by rw [h4, ← g2, fIx_miss he hp]⟩ (by omega) ?_
      (apply Le.mk3' []; apply RnT3.c; exact rfl; apply Rn3.r; exact Rn.v rfl; apply RnT3.c; exact rfl; apply Rn3.r; exact Rn.pt rfl rfl; apply RnT3.c; exact rfl
       apply Rn3.r; exact Rn.pt rfl rfl; apply RnT3.c; exact rfl; apply Rn3.r; exact Rn.pt rfl rfl; exact RnT3.n; apply RnH3.c; exact rfl; exact rfl; apply RnC.cl
       rfl; exact inferInstance; exact rfl; exact rfl; apply RnH3.c; exact rfl; exact rfl; apply RnC.cl; rfl; exact inferInstance; exact rfl; exact rfl; apply RnH3.c
       exact rfl; exact rfl; apply RnC.cl; rfl; exact inferInstance; exact rfl; exact rfl; exact RnH3.n; exact rfl)
  · have hge : ¬ i < L.length := of_decide_eq_false h
    rw [List.drop_of_length_le (by omega)] at g2
    simp only [fIx] at g2
    omega
theorem refFind_no (s : Stt) (n : UInt64) (hl : s.locks.length ≤ 10000000) (h : s.locks.find? (eqK n) = none) : Fresh Tryz.prog 19 [stA s, .v (.agg (nameC n))] (fun _ => .tp [.v (.agg (lockC 0 0 0 0 0)), .v (.bool false)]) [] := by
  unfold stA
  generalize s.locks = L at h hl
  have h0 : ∀ e ∈ L, eqK n e = false := fun e he => by simpa using List.find?_eq_none.1 h e he
  refine Fresh.of (fn := Tryz.f19) Tryz.func19 rfl (Nat.le_of_ble_eq_true rfl) fun w => ?_
  (refine Gol.seq ?_; apply Gol.region; apply Trc.stp rfl rfl rfl; apply s_box; exact rfl
   exact rfl; dsimp only [Nat.reduceAdd, Nat.reduceMul, Nat.reduceSub, List.nil_append, List.cons_append, nbk, List.map_cons, List.map_nil]; apply Trc.stp rfl rfl rfl; apply s_box; exact rfl; exact rfl; dsimp only [Nat.reduceAdd, Nat.reduceMul, Nat.reduceSub, List.nil_append, List.cons_append, nbk, List.map_cons, List.map_nil]
   apply Trc.stp rfl rfl rfl; apply s_alloc; dsimp only [Nat.reduceAdd, Nat.reduceMul, Nat.reduceSub, List.nil_append, List.cons_append, nbk, List.map_cons, List.map_nil]
   apply Trc.stp rfl rfl rfl; apply s_assign; exact rfl; dsimp only [Nat.reduceAdd, Nat.reduceMul, List.nil_append]
   exact Trc.done _ _ _; exact rfl; refine thn_n ?_; refine Gol.seq ?_; refine Gol.seq ?_; apply Gol.region
   apply Trc.stp rfl rfl rfl; apply s_assign; exact rfl; dsimp only [Nat.reduceAdd, Nat.reduceMul, List.nil_append]
   exact Trc.done _ _ _; exact rfl; refine thn_n ?_; refine Gol.block ?_)
  refine Gol.loop (ι := Nat) (fun i => i ≤ L.length ∧ fIx (eqK n) (L.drop i) i = fIx (eqK n) L 0) (fun i => L.length - i) 40 (fun _ => [(0, some ⟨[.ex s.cells.length false (dsA s.cells), .ex s.seqs.length false (inA s.seqs), .ex L.length false (lsA L), .ex s.applied.length false (byA (flat s.applied)), .v (.int .i64 s.guilty)], 28, 5⟩), (8, some ⟨cu (.v (.agg (nameC n))), 30, 8⟩), (16, some ⟨cu (.v (.agg (lockC 0 0 0 0 0))), 50, 19⟩)]) (fun i => [(6, .v (.int .i64 (i : Int))), (2, .pt 0 0), (3, .pt 8 0), (4, .pt 16 0)]) 0 ⟨Nat.zero_le _, rfl⟩ ?_ ?_
  · (apply Le.mk3' []; apply RnT3.c; exact rfl; apply Rn3.r; exact Rn.v rfl; apply RnT3.c; exact rfl; apply Rn3.r; exact Rn.pt rfl rfl; apply RnT3.c; exact rfl
     apply Rn3.r; exact Rn.pt rfl rfl; apply RnT3.c; exact rfl; apply Rn3.r; exact Rn.pt rfl rfl; exact RnT3.n; apply RnH3.c; exact rfl; exact rfl; apply RnC.cl
     rfl; exact inferInstance; exact rfl; exact rfl; apply RnH3.c; exact rfl; exact rfl; apply RnC.cl; rfl; exact inferInstance; exact rfl; exact rfl; apply RnH3.c
     exact rfl; exact rfl; apply RnC.cl; rfl; exact inferInstance; exact rfl; exact rfl; exact RnH3.n; exact rfl)
  rintro i ⟨g1, g2⟩
  (refine Gol.seq ?_; refine Gol.seq ?_; apply Gol.region; apply Trc.stp rfl rfl rfl; apply s_move
   exact rfl; dsimp only [Nat.reduceAdd, Nat.reduceMul, List.nil_append]; apply Trc.stp rfl rfl rfl; apply s_fieldAddr; exact rfl; dsimp only [Nat.reduceAdd, Nat.reduceMul, List.nil_append]
   apply Trc.stp rfl rfl rfl; apply s_load; exact rfl; exact rfl; exact rfl; dsimp only [Nat.reduceAdd, Nat.reduceMul, List.nil_append]
   apply Trc.stp rfl rfl rfl; apply s_len; exact rfl; exact ln_ex; dsimp only [Nat.reduceAdd, Nat.reduceMul, List.nil_append]
   apply Trc.stp rfl rfl rfl; apply s_ltn; exact rfl; exact rfl; dsimp only [Nat.reduceAdd, Nat.reduceMul, List.nil_append]
   exact Trc.done _ _ _; exact rfl; refine thn_n ?_)
  refine Gol.cond rfl (fun h => ?_) (fun h => ?_)
  · have hlt : i < L.length := of_decide_eq_true h
    obtain ⟨e, he⟩ : ∃ e, L[i]? = some e := ⟨L[i], List.getElem?_eq_getElem hlt⟩
    have hp : eqK n e = false := h0 e (List.mem_of_getElem? he)
    (refine Gol.skip ?_; refine thn_n ?_; refine Gol.seq ?_; refine Gol.block ?_; refine Gol.seq ?_
     apply Gol.any; kernel_rfl; apply Trc.stp rfl rfl rfl; apply s_fieldAddr; exact rfl; dsimp only [Nat.reduceAdd, Nat.reduceMul, List.nil_append]
     apply Trc.stp rfl rfl rfl; apply s_load; exact rfl; exact rfl; exact rfl; dsimp only [Nat.reduceAdd, Nat.reduceMul, List.nil_append]
     apply Trc.stp rfl rfl rfl; apply s_move; exact rfl; dsimp only [Nat.reduceAdd, Nat.reduceMul, List.nil_append]
     apply Trc.stp rfl rfl rfl; apply s_ixe; exact rfl; exact rfl; omega; exact ls_ne (by omega); dsimp only [Nat.reduceAdd, Nat.reduceMul, List.nil_append]
     apply Trc.stp rfl rfl rfl; apply s_fieldAddrE; exact rfl; dsimp only [Nat.reduceAdd, Nat.reduceMul, List.nil_append]
     apply Trc.stp rfl rfl rfl; apply s_loadEN; exact rfl; simp only [byA_length, List.length_append, List.length_cons, List.length_nil, List.length_take, List.length_drop, List.length_replicate, List.length_map, Nat.mul_one, nameB_length, flat_length, List.length_set, inA_length, dsA_length, lsA_length, dA_length, lA_length] <;> omega
     exact agu_ln (by assumption); dsimp only [Nat.reduceAdd, Nat.reduceMul, List.nil_append]
     apply Trc.stp rfl rfl rfl; apply s_loadW; exact rfl; exact rfl; exact rfl; exact agu_cuv _; dsimp only [Nat.reduceAdd, Nat.reduceMul, List.nil_append]
     apply Trc.stp rfl rfl rfl; apply s_eqN; exact rfl; exact rfl; dsimp only [Nat.reduceAdd, Nat.reduceMul, List.nil_append]
     exact Trc.done _ _ _; kernel_rfl; exact rfl; refine thn_n ?_)
    refine Gol.cond_f rfl hp ?_
    (refine Gol.skip ?_; refine inBlk_n ?_; refine thn_n ?_; apply Gol.region; apply Trc.stp rfl rfl rfl; apply s_move; exact rfl; dsimp only [Nat.reduceAdd, Nat.reduceMul, List.nil_append]
     apply Trc.stp rfl rfl rfl; apply s_addn; exact rfl; exact rfl; simp <;> omega; dsimp only [Nat.reduceAdd, Nat.reduceMul, List.nil_append]
     apply Trc.stp rfl rfl rfl; apply s_assign; exact rfl; dsimp only [Nat.reduceAdd, Nat.reduceMul, List.nil_append]
     exact Trc.done _ _ _; exact rfl)
    refine rnd_n (i + 1) ⟨by omega, by rw [← g2, fIx_miss he hp]⟩ (by omega) ?_
    (apply Le.mk3' []; apply RnT3.c; exact rfl; apply Rn3.r; exact Rn.v rfl; apply RnT3.c; exact rfl; apply Rn3.r; exact Rn.pt rfl rfl; apply RnT3.c; exact rfl
     apply Rn3.r; exact Rn.pt rfl rfl; apply RnT3.c; exact rfl; apply Rn3.r; exact Rn.pt rfl rfl; exact RnT3.n; apply RnH3.c; exact rfl; exact rfl; apply RnC.cl
     rfl; exact inferInstance; exact rfl; exact rfl; apply RnH3.c; exact rfl; exact rfl; apply RnC.cl; rfl; exact inferInstance; exact rfl; exact rfl; apply RnH3.c
     exact rfl; exact rfl; apply RnC.cl; rfl; exact inferInstance; exact rfl; exact rfl; exact RnH3.n; exact rfl)
  · (refine Gol.exit ?_; refine thn_x ?_; refine rnd_x ?_; refine inBlk_hit ?_; refine thn_n ?_
     refine Gol.seq ?_; apply Gol.region; apply Trc.stp rfl rfl rfl; apply s_zero; dsimp only [Nat.reduceAdd, Nat.reduceMul, Nat.reduceSub, List.nil_append, List.cons_append, nbk, List.map_cons, List.map_nil]
     apply Trc.stepN rfl rfl; exact wnt_n rfl; apply s_storeW; exact rfl; exact rfl; exact rfl; exact rfl; rfl; exact rfl; dsimp only [Nat.reduceAdd, Nat.reduceMul, Nat.reduceSub, List.nil_append, List.cons_append, nbk, List.map_cons, List.map_nil]
     apply Trc.stp rfl rfl rfl; apply s_assign; exact rfl; dsimp only [Nat.reduceAdd, Nat.reduceMul, List.nil_append]
     exact Trc.done _ _ _; exact rfl; refine thn_n ?_; refine Gol.ret ?_)
    (apply RetQ.mk (by first | exact .inr rfl | exact .inl rfl); apply res_2 rfl; exact res_cell rfl rfl rfl (agu_cuv _); exact res_tmp rfl; exact out_val)
theorem insK_cells2 {L : List Lk} {x : Lk} {q : Nat} (hq : q ≤ L.length) : List.take (q * 19) (lsA L) ++ lA x ++ List.take ((L.length - q) * 19) (List.drop (q * 19) (lsA L)) = lsA (L.take q ++ x :: L.drop q) := by
  have e : List.take ((L.length - q) * 19) (lsA (L.drop q)) = lsA (L.drop q) := List.take_of_length_le (by rw [lsA_length, List.length_drop]; exact Nat.le_refl _)
  rw [lsA_take, lsA_drop, e, lsA_append, lsA_cons, List.append_assoc]
set_option maxHeartbeats 1600000 in
theorem refOpen_ok (s : Stt) (k : Lk) (hs : s.cells.length ≤ 10000000 ∧ s.seqs.length ≤ 10000000 ∧ s.locks.length ≤ 1000000 ∧ s.applied.length ≤ 10000000) :
    Fresh Tryz.prog 21 [stA s, .v (.agg (lockC k.n k.h k.o k.t k.u))] (stO (stL s (openL s.locks k))) (stB (stL s (openL s.locks k))) := by
  obtain ⟨h1, h2, h3, h4⟩ := hs
  have hcp := refCopy_ok s ⟨h1, h2, by omega, h4⟩
  have hfy := fun d => refFind_yes s k.n d (by omega)
  have hfn := refFind_no s k.n (by omega)
  unfold stA stO stB at hcp
  unfold stA at hfy hfn
  unfold stA stO stB stL
  dsimp only
  generalize s.locks = L at h3 hcp hfy hfn
  cases hh : L.find? (eqK k.n) with
  | some d =>
    have hf := hfy d hh
    rw [show openL L k = L by unfold openL; rw [hh]]
    refine Fresh.of (fn := Tryz.f21) Tryz.func21 rfl (Nat.le_of_ble_eq_true rfl) fun w => ?_
    (refine Gol.seq ?_; apply Gol.region; apply Trc.stp rfl rfl rfl; apply s_box; exact rfl
     exact rfl; dsimp only [Nat.reduceAdd, Nat.reduceMul, Nat.reduceSub, List.nil_append, List.cons_append, nbk, List.map_cons, List.map_nil]; apply Trc.stp rfl rfl rfl; apply s_box; exact rfl; exact rfl; dsimp only [Nat.reduceAdd, Nat.reduceMul, Nat.reduceSub, List.nil_append, List.cons_append, nbk, List.map_cons, List.map_nil]
     apply Trc.stp rfl rfl rfl; apply s_alloc; dsimp only [Nat.reduceAdd, Nat.reduceMul, Nat.reduceSub, List.nil_append, List.cons_append, nbk, List.map_cons, List.map_nil]
     exact Trc.done _ _ _; exact rfl; refine thn_n ?_; refine Gol.seq ?_; apply Gol.region; apply Trc.stp rfl rfl rfl; apply s_loadW; exact rfl; exact rfl; exact rfl; exact agu_cua _; dsimp only [Nat.reduceAdd, Nat.reduceMul, List.nil_append]
     apply Trc.stp rfl rfl rfl; apply s_call (f := 52) rfl; apply evs.cons rfl; exact evs.nil; apply ArgL.cons
     exact arg_clo; exact ArgL.nil; exact hcp; exact Nat.le_of_ble_eq_true rfl; dsimp only [Nat.reduceAdd, Nat.reduceMul, Nat.reduceSub, List.nil_append, List.cons_append, nbk, List.map_cons, List.map_nil]
     apply Trc.stepN rfl rfl; exact wnt_n rfl; apply s_storeW; exact rfl; exact rfl; exact rfl; exact rfl; rfl; exact rfl; dsimp only [Nat.reduceAdd, Nat.reduceMul, Nat.reduceSub, List.nil_append, List.cons_append, nbk, List.map_cons, List.map_nil]
     exact Trc.done _ _ _; exact rfl; refine thn_n ?_; refine Gol.seq ?_; refine Gol.seq ?_; apply Gol.region
     apply Trc.stp rfl rfl rfl; apply s_loadW; exact rfl; exact rfl; exact rfl; exact agu_cua _; dsimp only [Nat.reduceAdd, Nat.reduceMul, List.nil_append]
     apply Trc.stp rfl rfl rfl; apply s_fieldAddr; exact rfl; dsimp only [Nat.reduceAdd, Nat.reduceMul, List.nil_append]
     apply Trc.stp rfl rfl rfl; apply s_loadN; exact rfl; exact rfl; exact Nat.le_of_ble_eq_true rfl; exact agu_nm8 rfl; dsimp only [Nat.reduceAdd, Nat.reduceMul, List.nil_append]
     apply Trc.stp rfl rfl rfl; apply s_call (f := 19) rfl; apply evs.cons rfl; apply evs.cons rfl; exact evs.nil
     apply ArgL.cons; apply arg_ag; apply ArgL.cons; exact arg_sl rfl; apply ArgL.cons; exact arg_sl rfl; apply ArgL.cons; exact arg_sl rfl; apply ArgL.cons
     exact arg_sl rfl; apply ArgL.cons; exact arg_clo; exact ArgL.nil; apply ArgL.cons; exact arg_clo; exact ArgL.nil; exact hf; exact Nat.le_of_ble_eq_true rfl
     dsimp only [Nat.reduceAdd, Nat.reduceMul, Nat.reduceSub, List.nil_append, List.cons_append, nbk, List.map_cons, List.map_nil]; apply Trc.stp rfl rfl rfl; apply s_move; exact rfl; dsimp only [Nat.reduceAdd, Nat.reduceMul, List.nil_append]
     apply Trc.stp rfl rfl rfl; apply s_extract; exact rfl; exact rfl; dsimp only [Nat.reduceAdd, Nat.reduceMul, List.nil_append]
     apply Trc.stp rfl rfl rfl; apply s_extract; exact rfl; exact rfl; dsimp only [Nat.reduceAdd, Nat.reduceMul, List.nil_append]
     apply Trc.stp rfl rfl rfl; apply s_alloc; dsimp only [Nat.reduceAdd, Nat.reduceMul, Nat.reduceSub, List.nil_append, List.cons_append, nbk, List.map_cons, List.map_nil]
     apply Trc.stepN rfl rfl; exact wnt_n rfl; apply s_storeW; exact rfl; exact rfl; exact rfl; exact rfl; rfl; exact rfl; dsimp only [Nat.reduceAdd, Nat.reduceMul, Nat.reduceSub, List.nil_append, List.cons_append, nbk, List.map_cons, List.map_nil]
     apply Trc.stp rfl rfl rfl; apply s_assign; exact rfl; dsimp only [Nat.reduceAdd, Nat.reduceMul, List.nil_append]
     exact Trc.done _ _ _; exact rfl; refine thn_n ?_; refine Gol.seq ?_; apply Gol.region; apply Trc.stp rfl rfl rfl; apply s_move; exact rfl; dsimp only [Nat.reduceAdd, Nat.reduceMul, List.nil_append]
     exact Trc.done _ _ _; exact rfl; refine thn_n ?_)
    refine Gol.cond_t rfl rfl ?_
    (refine Gol.seq ?_; apply Gol.region; apply Trc.stp rfl rfl rfl; apply s_loadW; exact rfl
     exact rfl; exact rfl; exact agu_cua _; dsimp only [Nat.reduceAdd, Nat.reduceMul, List.nil_append]
     apply Trc.stepN rfl rfl; exact wnt_n rfl; apply s_storeW; exact rfl; exact rfl; exact rfl; exact rfl; rfl; exact rfl; dsimp only [Nat.reduceAdd, Nat.reduceMul, Nat.reduceSub, List.nil_append, List.cons_append, nbk, List.map_cons, List.map_nil]
     exact Trc.done _ _ _; exact rfl; refine thn_n ?_; refine Gol.ret ?_; refine thn_r ?_)
    (apply RetQ.mkM (by first | exact .inr rfl | exact .inl rfl); apply res_1 rfl; exact res_cell rfl rfl rfl (agu_cua _); apply out_ids [32, 33, 34, 35] rfl
     apply OBs.cons; exact rfl; exact inferInstance; apply OBs.cons; exact rfl; exact inferInstance; apply OBs.cons; exact rfl; exact inferInstance; apply OBs.cons
     exact rfl; exact inferInstance; exact OBs.nil; intro k; apply Ot.agL; apply OtL.cons; exact Ot.sl (j := 0) rfl; apply OtL.cons; exact Ot.sl (j := 1) rfl
     apply OtL.cons; exact Ot.sl (j := 2) rfl; apply OtL.cons; exact Ot.sl (j := 3) rfl; apply OtL.cons; exact Ot.v inferInstance; exact OtL.nil)
  | none =>
    have hf := hfn hh
    rw [show openL L k = insK L k by unfold openL; rw [hh]]
    refine Fresh.of (fn := Tryz.f21) Tryz.func21 rfl (Nat.le_of_ble_eq_true rfl) fun w => ?_
    (refine Gol.seq ?_; apply Gol.region; apply Trc.stp rfl rfl rfl; apply s_box; exact rfl
     exact rfl; dsimp only [Nat.reduceAdd, Nat.reduceMul, Nat.reduceSub, List.nil_append, List.cons_append, nbk, List.map_cons, List.map_nil]; apply Trc.stp rfl rfl rfl; apply s_box; exact rfl; exact rfl; dsimp only [Nat.reduceAdd, Nat.reduceMul, Nat.reduceSub, List.nil_append, List.cons_append, nbk, List.map_cons, List.map_nil]
     apply Trc.stp rfl rfl rfl; apply s_alloc; dsimp only [Nat.reduceAdd, Nat.reduceMul, Nat.reduceSub, List.nil_append, List.cons_append, nbk, List.map_cons, List.map_nil]
     exact Trc.done _ _ _; exact rfl; refine thn_n ?_; refine Gol.seq ?_; apply Gol.region; apply Trc.stp rfl rfl rfl; apply s_loadW; exact rfl; exact rfl; exact rfl; exact agu_cua _; dsimp only [Nat.reduceAdd, Nat.reduceMul, List.nil_append]
     apply Trc.stp rfl rfl rfl; apply s_call (f := 52) rfl; apply evs.cons rfl; exact evs.nil; apply ArgL.cons
     exact arg_clo; exact ArgL.nil; exact hcp; exact Nat.le_of_ble_eq_true rfl; dsimp only [Nat.reduceAdd, Nat.reduceMul, Nat.reduceSub, List.nil_append, List.cons_append, nbk, List.map_cons, List.map_nil]
     apply Trc.stepN rfl rfl; exact wnt_n rfl; apply s_storeW; exact rfl; exact rfl; exact rfl; exact rfl; rfl; exact rfl; dsimp only [Nat.reduceAdd, Nat.reduceMul, Nat.reduceSub, List.nil_append, List.cons_append, nbk, List.map_cons, List.map_nil]
     exact Trc.done _ _ _; exact rfl; refine thn_n ?_; refine Gol.seq ?_; refine Gol.seq ?_; apply Gol.region
     apply Trc.stp rfl rfl rfl; apply s_loadW; exact rfl; exact rfl; exact rfl; exact agu_cua _; dsimp only [Nat.reduceAdd, Nat.reduceMul, List.nil_append]
     apply Trc.stp rfl rfl rfl; apply s_fieldAddr; exact rfl; dsimp only [Nat.reduceAdd, Nat.reduceMul, List.nil_append]
     apply Trc.stp rfl rfl rfl; apply s_loadN; exact rfl; exact rfl; exact Nat.le_of_ble_eq_true rfl; exact agu_nm8 rfl; dsimp only [Nat.reduceAdd, Nat.reduceMul, List.nil_append]
     apply Trc.stp rfl rfl rfl; apply s_call (f := 19) rfl; apply evs.cons rfl; apply evs.cons rfl; exact evs.nil
     apply ArgL.cons; apply arg_ag; apply ArgL.cons; exact arg_sl rfl; apply ArgL.cons; exact arg_sl rfl; apply ArgL.cons; exact arg_sl rfl; apply ArgL.cons
     exact arg_sl rfl; apply ArgL.cons; exact arg_clo; exact ArgL.nil; apply ArgL.cons; exact arg_clo; exact ArgL.nil; exact hf; exact Nat.le_of_ble_eq_true rfl
     dsimp only [Nat.reduceAdd, Nat.reduceMul, Nat.reduceSub, List.nil_append, List.cons_append, nbk, List.map_cons, List.map_nil]; apply Trc.stp rfl rfl rfl; apply s_move; exact rfl; dsimp only [Nat.reduceAdd, Nat.reduceMul, List.nil_append]
     apply Trc.stp rfl rfl rfl; apply s_extract; exact rfl; exact rfl; dsimp only [Nat.reduceAdd, Nat.reduceMul, List.nil_append]
     apply Trc.stp rfl rfl rfl; apply s_extract; exact rfl; exact rfl; dsimp only [Nat.reduceAdd, Nat.reduceMul, List.nil_append]
     apply Trc.stp rfl rfl rfl; apply s_alloc; dsimp only [Nat.reduceAdd, Nat.reduceMul, Nat.reduceSub, List.nil_append, List.cons_append, nbk, List.map_cons, List.map_nil]
     apply Trc.stepN rfl rfl; exact wnt_n rfl; apply s_storeW; exact rfl; exact rfl; exact rfl; exact rfl; rfl; exact rfl; dsimp only [Nat.reduceAdd, Nat.reduceMul, Nat.reduceSub, List.nil_append, List.cons_append, nbk, List.map_cons, List.map_nil]
     apply Trc.stp rfl rfl rfl; apply s_assign; exact rfl; dsimp only [Nat.reduceAdd, Nat.reduceMul, List.nil_append]
     exact Trc.done _ _ _; exact rfl; refine thn_n ?_; refine Gol.seq ?_; apply Gol.region; apply Trc.stp rfl rfl rfl; apply s_move; exact rfl; dsimp only [Nat.reduceAdd, Nat.reduceMul, List.nil_append]
     exact Trc.done _ _ _; exact rfl; refine thn_n ?_)
    refine Gol.cond_f rfl rfl ?_
    (refine Gol.skip ?_; refine thn_n ?_; refine Gol.seq ?_; apply Gol.region; apply Trc.stp rfl rfl rfl; apply s_assign; exact rfl; dsimp only [Nat.reduceAdd, Nat.reduceMul, List.nil_append]
     exact Trc.done _ _ _; exact rfl; refine thn_n ?_; refine Gol.seq ?_; refine Gol.block ?_)
    refine Gol.loop (ι := Nat) (fun q => q ≤ L.length ∧ q + bef (gtK k) (L.drop q) = bef (gtK k) L) (fun q => L.length - q) 1000
      (fun _ => [(0, some ⟨[.sl 32 s.cells.length, .sl 33 s.seqs.length, .sl 34 L.length, .sl 35 s.applied.length, .v (.int .i64 s.guilty)], 28, 5⟩), (32, some ⟨dsA s.cells, 46, 11⟩), (33, some ⟨inA s.seqs, 3, 1⟩), (34, some ⟨lsA L, 50, 19⟩), (35, some ⟨byA (flat s.applied), 30, 8⟩), (16, some ⟨[.v (.slice none 0 0), .v (.slice none 0 0), .v (.slice none 0 0), .v (.slice none 0 0), .v (.int .i64 0)], 28, 5⟩), (8, some ⟨cu (.v (.agg (lockC k.n k.h k.o k.t k.u))), 50, 19⟩)])
      (fun q => [(7, .v (.int .i64 (q : Int))), (2, .pt 0 0), (3, .pt 8 0), (4, .pt 16 0)]) 0 ⟨Nat.zero_le _, by simp⟩ ?_ ?_
    · (apply Le.mk3' []; apply RnT3.c; exact rfl; apply Rn3.r; exact Rn.v rfl; apply RnT3.c; exact rfl; apply Rn3.r; exact Rn.pt rfl rfl; apply RnT3.c; exact rfl
       apply Rn3.r; exact Rn.pt rfl rfl; apply RnT3.c; exact rfl; apply Rn3.r; exact Rn.pt rfl rfl; exact RnT3.n; apply RnH3.c; exact rfl; exact rfl; apply RnC.l
       apply Rn3L.cons; apply Rn3.r; exact Rn.sl rfl rfl; apply Rn3L.cons; apply Rn3.r; exact Rn.sl rfl rfl; apply Rn3L.cons; apply Rn3.r; exact Rn.sl rfl rfl
       apply Rn3L.cons; apply Rn3.r; exact Rn.sl rfl rfl; apply Rn3L.cons; apply Rn3.r; exact Rn.v rfl; exact Rn3L.nil; exact rfl; exact rfl; apply RnH3.c; exact rfl
       exact rfl; apply RnC.cl; rfl; exact inferInstance; exact rfl; exact rfl; apply RnH3.c; exact rfl; exact rfl; apply RnC.cl; rfl; exact inferInstance; exact rfl
       exact rfl; apply RnH3.c; exact rfl; exact rfl; apply RnC.cl; rfl; exact inferInstance; exact rfl; exact rfl; apply RnH3.c; exact rfl; exact rfl; apply RnC.cl
       rfl; exact inferInstance; exact rfl; exact rfl; apply RnH3.c; exact rfl; exact rfl; apply RnC.cl; rfl; exact inferInstance; exact rfl; exact rfl; apply RnH3.c
       exact rfl; exact rfl; apply RnC.cl; rfl; exact inferInstance; exact rfl; exact rfl; exact RnH3.n; exact rfl)
    rintro q ⟨g1, g2⟩
    by_cases hlt : q < L.length
    · obtain ⟨d, hd⟩ : ∃ d, L[q]? = some d := ⟨L[q], List.getElem?_eq_getElem hlt⟩
      have hless := refLess_f k.n d.n
      by_cases hp : gtK k d = true
      · rw [decide_eq_true ((less_iff2 k.n d.n).2 (of_decide_eq_true hp))] at hless
        (refine Gol.seq ?_; refine Gol.seq ?_; apply Gol.any; kernel_rfl; apply Trc.stp rfl rfl rfl
         apply s_move; exact rfl; dsimp only [Nat.reduceAdd, Nat.reduceMul, List.nil_append]
         apply Trc.stp rfl rfl rfl; apply s_fieldAddr; exact rfl; dsimp only [Nat.reduceAdd, Nat.reduceMul, List.nil_append]
         apply Trc.stp rfl rfl rfl; apply s_load; exact rfl; exact rfl; exact rfl; dsimp only [Nat.reduceAdd, Nat.reduceMul, List.nil_append]
         apply Trc.stp rfl rfl rfl; apply s_len; exact rfl; exact ln_sl; dsimp only [Nat.reduceAdd, Nat.reduceMul, List.nil_append]
         apply Trc.stp rfl rfl rfl; apply s_ltn; exact rfl; exact rfl; dsimp only [Nat.reduceAdd, Nat.reduceMul, List.nil_append]
         apply Trc.stp rfl rfl rfl; apply s_move; exact rfl; dsimp only [Nat.reduceAdd, Nat.reduceMul, List.nil_append]
         apply Trc.step rfl rfl; apply wnt_g; exact rfl; exact rfl; exact rfl; (focus (simp only [*]; rfl)); apply s_fieldAddr; exact rfl; dsimp only [Nat.reduceAdd, Nat.reduceMul, List.nil_append]
         apply Trc.step rfl rfl; apply wnt_g; exact rfl; exact rfl; exact rfl; (focus (simp only [*]; rfl)); apply s_loadN; exact rfl; exact rfl
         exact Nat.le_of_ble_eq_true rfl; exact agu_nm8 rfl; dsimp only [Nat.reduceAdd, Nat.reduceMul, List.nil_append]
         apply Trc.step rfl rfl; apply wnt_g; exact rfl; exact rfl; exact rfl; (focus (simp only [*]; rfl)); apply s_fieldAddr; exact rfl; dsimp only [Nat.reduceAdd, Nat.reduceMul, List.nil_append]
         apply Trc.step rfl rfl; apply wnt_g; exact rfl; exact rfl; exact rfl; (focus (simp only [*]; rfl)); apply s_load; exact rfl; exact rfl
         exact rfl; dsimp only [Nat.reduceAdd, Nat.reduceMul, List.nil_append]; apply Trc.step rfl rfl
         apply wnt_g; exact rfl; exact rfl; exact rfl; (focus (simp only [*]; rfl)); apply s_move; exact rfl; dsimp only [Nat.reduceAdd, Nat.reduceMul, List.nil_append]
         apply Trc.step rfl rfl; apply wnt_g; exact rfl; exact rfl; exact rfl; (focus (simp only [*]; rfl)); apply s_ixl; exact rfl; exact rfl
         exact rfl; omega; dsimp only [Nat.reduceAdd, Nat.reduceMul, Nat.reduceSub, List.nil_append, List.cons_append, nbk, List.map_cons, List.map_nil]; apply Trc.step rfl rfl
         apply wnt_g; exact rfl; exact rfl; exact rfl; (focus (simp only [*]; rfl)); apply s_fieldAddr; exact rfl; dsimp only [Nat.reduceAdd, Nat.reduceMul, List.nil_append]
         apply Trc.step rfl rfl; apply wnt_g; exact rfl; exact rfl; exact rfl; (focus (simp only [*]; rfl)); apply s_loadN; exact rfl; exact rfl
         simp only [byA_length, List.length_append, List.length_cons, List.length_nil, List.length_take, List.length_drop, List.length_replicate, List.length_map, Nat.mul_one, nameB_length, flat_length, List.length_set, inA_length, dsA_length, lsA_length, dA_length, lA_length] <;> omega
         exact agu_ln (by assumption); dsimp only [Nat.reduceAdd, Nat.reduceMul, List.nil_append]
         apply Trc.step rfl rfl; apply wnt_g; exact rfl; exact rfl; exact rfl; (focus (simp only [*]; rfl)); apply s_call (f := 53) rfl
         apply evs.cons rfl; apply evs.cons rfl; exact evs.nil; apply ArgL.cons; exact arg_clo; apply ArgL.cons; exact arg_clo; exact ArgL.nil; exact hless; exact Nat.le_of_ble_eq_true rfl
         dsimp only [Nat.reduceAdd, Nat.reduceMul, Nat.reduceSub, List.nil_append, List.cons_append, nbk, List.map_cons, List.map_nil]; apply Trc.step rfl rfl
         apply wnt_g; exact rfl; exact rfl; exact rfl; (focus (simp only [*]; rfl)); apply s_not; exact rfl; dsimp only [Nat.reduceAdd, Nat.reduceMul, List.nil_append]
         apply Trc.stp rfl rfl rfl; apply s_pick_t; exact rfl; (focus (simp only [*]; rfl)); exact rfl; dsimp only [Nat.reduceAdd, Nat.reduceMul, List.nil_append]
         exact Trc.done _ _ _; kernel_rfl; exact rfl; refine thn_n ?_)
        refine Gol.cond_f rfl rfl ?_
        have hB : bef (gtK k) L = q := by rw [← g2, bef_hit hd hp, Nat.add_zero]
        (refine Gol.exit ?_; refine thn_x ?_; refine rnd_x ?_; refine inBlk_hit ?_; refine thn_n ?_
         refine Gol.seq ?_; apply Gol.region; apply Trc.stp rfl rfl rfl; apply s_lit; exact PA.nil
         exact rfl; omega; dsimp only [Nat.reduceAdd, Nat.reduceMul, Nat.reduceSub, List.nil_append, List.cons_append, nbk, List.map_cons, List.map_nil]; apply Trc.stp rfl rfl rfl; apply s_fieldAddr; exact rfl; dsimp only [Nat.reduceAdd, Nat.reduceMul, List.nil_append]
         apply Trc.stp rfl rfl rfl; apply s_load; exact rfl; exact rfl; exact rfl; dsimp only [Nat.reduceAdd, Nat.reduceMul, List.nil_append]
         apply Trc.stp rfl rfl rfl; apply s_move; exact rfl; dsimp only [Nat.reduceAdd, Nat.reduceMul, List.nil_append]
         apply Trc.stp rfl rfl rfl; apply s_slL; exact rfl; exact rfl; exact ⟨_, rfl⟩; omega; omega; exact rfl; dsimp only [Nat.reduceAdd, Nat.reduceMul, Nat.reduceSub, List.nil_append, List.cons_append, nbk, List.map_cons, List.map_nil]
         apply Trc.stp rfl rfl rfl; apply s_app; exact rfl; exact rfl; exact rfl; apply rd_sb rfl; simp only [byA_length, List.length_append, List.length_cons, List.length_nil, List.length_take, List.length_drop, List.length_replicate, List.length_map, Nat.mul_one, nameB_length, flat_length, List.length_set, inA_length, dsA_length, lsA_length, dA_length, lA_length] <;> omega
         rfl; exact rfl; exact rfl; exact OneL.one; omega; dsimp only [Nat.reduceAdd, Nat.reduceMul, Nat.reduceSub, List.nil_append, List.cons_append, nbk, List.map_cons, List.map_nil]
         apply Trc.stp rfl rfl rfl; apply s_assign; exact rfl; dsimp only [Nat.reduceAdd, Nat.reduceMul, List.nil_append]
         exact Trc.done _ _ _; exact rfl; refine thn_n ?_; refine Gol.seq ?_; apply Gol.region; apply Trc.stp rfl rfl rfl; apply s_move; exact rfl; dsimp only [Nat.reduceAdd, Nat.reduceMul, List.nil_append]
         apply Trc.stp rfl rfl rfl; apply s_loadW; exact rfl; exact rfl; exact rfl; exact agu_cuv _; dsimp only [Nat.reduceAdd, Nat.reduceMul, List.nil_append]
         apply Trc.stp rfl rfl rfl; apply s_lit; apply PA.cons; exact rfl; exact rfl; exact rfl; exact PA.nil; exact rfl; omega
         dsimp only [Nat.reduceAdd, Nat.reduceMul, Nat.reduceSub, List.nil_append, List.cons_append, nbk, List.map_cons, List.map_nil]; apply Trc.stp rfl rfl rfl; apply s_app; exact rfl; exact rfl; exact rfl; apply rd_sl rfl; rfl; simp only [byA_length, List.length_append, List.length_cons, List.length_nil, List.length_take, List.length_drop, List.length_replicate, List.length_map, Nat.mul_one, nameB_length, flat_length, List.length_set, inA_length, dsA_length, lsA_length, dA_length, lA_length] <;> omega
         exact rfl; exact rfl; rfl; omega; dsimp only [Nat.reduceAdd, Nat.reduceMul, Nat.reduceSub, List.nil_append, List.cons_append, nbk, List.map_cons, List.map_nil]
         apply Trc.stp rfl rfl rfl; apply s_assign; exact rfl; dsimp only [Nat.reduceAdd, Nat.reduceMul, List.nil_append]
         exact Trc.done _ _ _; exact rfl; refine thn_n ?_; refine Gol.seq ?_)
        simp only [Nat.zero_add, Nat.sub_zero, List.drop_zero, List.append_nil, List.nil_append, show cu (.v (.agg (lockC k.n k.h k.o k.t k.u))) = lA k from rfl, lsA_take]
        (apply Gol.region; apply Trc.stp rfl rfl rfl; apply s_move; exact rfl; dsimp only [Nat.reduceAdd, Nat.reduceMul, List.nil_append]
         apply Trc.stp rfl rfl rfl; apply s_fieldAddr; exact rfl; dsimp only [Nat.reduceAdd, Nat.reduceMul, List.nil_append]
         apply Trc.stp rfl rfl rfl; apply s_load; exact rfl; exact rfl; exact rfl; dsimp only [Nat.reduceAdd, Nat.reduceMul, List.nil_append]
         apply Trc.stp rfl rfl rfl; apply s_move; exact rfl; dsimp only [Nat.reduceAdd, Nat.reduceMul, List.nil_append]
         apply Trc.stp rfl rfl rfl; apply s_slL; exact rfl; exact ⟨_, rfl⟩; exact rfl; omega; omega; exact rfl; dsimp only [Nat.reduceAdd, Nat.reduceMul, Nat.reduceSub, List.nil_append, List.cons_append, nbk, List.map_cons, List.map_nil]
         apply Trc.stp rfl rfl rfl; apply s_app; exact rfl; exact rfl; exact rfl; apply rd_sb rfl; simp only [byA_length, List.length_append, List.length_cons, List.length_nil, List.length_take, List.length_drop, List.length_replicate, List.length_map, Nat.mul_one, nameB_length, flat_length, List.length_set, inA_length, dsA_length, lsA_length, dA_length, lA_length] <;> omega
         simp only [byA_length, List.length_append, List.length_cons, List.length_nil, List.length_take, List.length_drop, List.length_replicate, List.length_map, Nat.mul_one, nameB_length, flat_length, List.length_set, inA_length, dsA_length, lsA_length, dA_length, lA_length] <;> omega
         exact rfl; exact rfl; exact OneL.one; omega; dsimp only [Nat.reduceAdd, Nat.reduceMul, Nat.reduceSub, List.nil_append, List.cons_append, nbk, List.map_cons, List.map_nil]
         apply Trc.stp rfl rfl rfl; apply s_fieldAddr; exact rfl; dsimp only [Nat.reduceAdd, Nat.reduceMul, List.nil_append]
         apply Trc.stepN rfl rfl; exact wnt_n rfl; apply s_store; exact rfl; exact rfl; exact rfl; exact rfl; rfl; exact Nat.le_of_ble_eq_true rfl
         dsimp only [Nat.reduceAdd, Nat.reduceMul, Nat.reduceSub, List.nil_append, List.cons_append, nbk, List.map_cons, List.map_nil]; exact Trc.done _ _ _; exact rfl
         refine thn_n ?_; refine Gol.seq ?_; apply Gol.region; apply Trc.stp rfl rfl rfl; apply s_loadW
         exact rfl; exact rfl; exact rfl; exact agu_cua _; dsimp only [Nat.reduceAdd, Nat.reduceMul, List.nil_append]
         apply Trc.stepN rfl rfl; exact wnt_n rfl; apply s_storeW; exact rfl; exact rfl; exact rfl; exact rfl; rfl; exact rfl; dsimp only [Nat.reduceAdd, Nat.reduceMul, Nat.reduceSub, List.nil_append, List.cons_append, nbk, List.map_cons, List.map_nil]
         exact Trc.done _ _ _; exact rfl; refine thn_n ?_; refine Gol.ret ?_)
        have hn : q + 1 + (L.length - q) = (insK L k).length := by rw [insK_len]; omega
        simp only [hn, lsA_drop]
        have hcc : lsA (L.take q) ++ lA k ++ List.take ((L.length - q) * 19) (lsA (L.drop q)) = lsA (insK L k) := by
          have := insK_cells2 (L := L) (x := k) g1
          rw [lsA_take, lsA_drop] at this
          rw [this, insK, hB]
        rw [hcc]
        (apply RetQ.mkM (by first | exact .inr rfl | exact .inl rfl); apply res_1 rfl; exact res_cell rfl rfl rfl (agu_cua _); apply out_ids [32, 33, 1272, 35] rfl
         apply OBs.cons; exact rfl; exact inferInstance; apply OBs.cons; exact rfl; exact inferInstance; apply OBs.cons; exact rfl; exact inferInstance; apply OBs.cons
         exact rfl; exact inferInstance; exact OBs.nil; intro k; apply Ot.agL; apply OtL.cons; exact Ot.sl (j := 0) rfl; apply OtL.cons; exact Ot.sl (j := 1) rfl
         apply OtL.cons; exact Ot.sl (j := 2) rfl; apply OtL.cons; exact Ot.sl (j := 3) rfl; apply OtL.cons; exact Ot.v inferInstance; exact OtL.nil)
      · have hp' : gtK k d = false := by simpa using hp
        rw [decide_eq_false (fun h => hp (decide_eq_true ((less_iff2 k.n d.n).1 h)))] at hless
        (refine Gol.seq ?_; refine Gol.seq ?_; apply Gol.any; kernel_rfl; apply Trc.stp rfl rfl rfl
         apply s_move; exact rfl; dsimp only [Nat.reduceAdd, Nat.reduceMul, List.nil_append]
         apply Trc.stp rfl rfl rfl; apply s_fieldAddr; exact rfl; dsimp only [Nat.reduceAdd, Nat.reduceMul, List.nil_append]
         apply Trc.stp rfl rfl rfl; apply s_load; exact rfl; exact rfl; exact rfl; dsimp only [Nat.reduceAdd, Nat.reduceMul, List.nil_append]
         apply Trc.stp rfl rfl rfl; apply s_len; exact rfl; exact ln_sl; dsimp only [Nat.reduceAdd, Nat.reduceMul, List.nil_append]
         apply Trc.stp rfl rfl rfl; apply s_ltn; exact rfl; exact rfl; dsimp only [Nat.reduceAdd, Nat.reduceMul, List.nil_append]
         apply Trc.stp rfl rfl rfl; apply s_move; exact rfl; dsimp only [Nat.reduceAdd, Nat.reduceMul, List.nil_append]
         apply Trc.step rfl rfl; apply wnt_g; exact rfl; exact rfl; exact rfl; (focus (simp only [*]; rfl)); apply s_fieldAddr; exact rfl; dsimp only [Nat.reduceAdd, Nat.reduceMul, List.nil_append]
         apply Trc.step rfl rfl; apply wnt_g; exact rfl; exact rfl; exact rfl; (focus (simp only [*]; rfl)); apply s_loadN; exact rfl; exact rfl
         exact Nat.le_of_ble_eq_true rfl; exact agu_nm8 rfl; dsimp only [Nat.reduceAdd, Nat.reduceMul, List.nil_append]
         apply Trc.step rfl rfl; apply wnt_g; exact rfl; exact rfl; exact rfl; (focus (simp only [*]; rfl)); apply s_fieldAddr; exact rfl; dsimp only [Nat.reduceAdd, Nat.reduceMul, List.nil_append]
         apply Trc.step rfl rfl; apply wnt_g; exact rfl; exact rfl; exact rfl; (focus (simp only [*]; rfl)); apply s_load; exact rfl; exact rfl
         exact rfl; dsimp only [Nat.reduceAdd, Nat.reduceMul, List.nil_append]; apply Trc.step rfl rfl
         apply wnt_g; exact rfl; exact rfl; exact rfl; (focus (simp only [*]; rfl)); apply s_move; exact rfl; dsimp only [Nat.reduceAdd, Nat.reduceMul, List.nil_append]
         apply Trc.step rfl rfl; apply wnt_g; exact rfl; exact rfl; exact rfl; (focus (simp only [*]; rfl)); apply s_ixl; exact rfl; exact rfl
         exact rfl; omega; dsimp only [Nat.reduceAdd, Nat.reduceMul, Nat.reduceSub, List.nil_append, List.cons_append, nbk, List.map_cons, List.map_nil]; apply Trc.step rfl rfl
         apply wnt_g; exact rfl; exact rfl; exact rfl; (focus (simp only [*]; rfl)); apply s_fieldAddr; exact rfl; dsimp only [Nat.reduceAdd, Nat.reduceMul, List.nil_append]
         apply Trc.step rfl rfl; apply wnt_g; exact rfl; exact rfl; exact rfl; (focus (simp only [*]; rfl)); apply s_loadN; exact rfl; exact rfl
         simp only [byA_length, List.length_append, List.length_cons, List.length_nil, List.length_take, List.length_drop, List.length_replicate, List.length_map, Nat.mul_one, nameB_length, flat_length, List.length_set, inA_length, dsA_length, lsA_length, dA_length, lA_length] <;> omega
         exact agu_ln (by assumption); dsimp only [Nat.reduceAdd, Nat.reduceMul, List.nil_append]
         apply Trc.step rfl rfl; apply wnt_g; exact rfl; exact rfl; exact rfl; (focus (simp only [*]; rfl)); apply s_call (f := 53) rfl
         apply evs.cons rfl; apply evs.cons rfl; exact evs.nil; apply ArgL.cons; exact arg_clo; apply ArgL.cons; exact arg_clo; exact ArgL.nil; exact hless; exact Nat.le_of_ble_eq_true rfl
         dsimp only [Nat.reduceAdd, Nat.reduceMul, Nat.reduceSub, List.nil_append, List.cons_append, nbk, List.map_cons, List.map_nil]; apply Trc.step rfl rfl
         apply wnt_g; exact rfl; exact rfl; exact rfl; (focus (simp only [*]; rfl)); apply s_not; exact rfl; dsimp only [Nat.reduceAdd, Nat.reduceMul, List.nil_append]
         apply Trc.stp rfl rfl rfl; apply s_pick_t; exact rfl; (focus (simp only [*]; rfl)); exact rfl; dsimp only [Nat.reduceAdd, Nat.reduceMul, List.nil_append]
         exact Trc.done _ _ _; kernel_rfl; exact rfl; refine thn_n ?_)
        refine Gol.cond_t rfl rfl ?_
        (refine Gol.skip ?_; refine thn_n ?_; refine Gol.block ?_; apply Gol.region; apply Trc.stp rfl rfl rfl; apply s_move; exact rfl; dsimp only [Nat.reduceAdd, Nat.reduceMul, List.nil_append]
         apply Trc.stp rfl rfl rfl; apply s_addn; exact rfl; exact rfl; simp <;> omega; dsimp only [Nat.reduceAdd, Nat.reduceMul, List.nil_append]
         apply Trc.stp rfl rfl rfl; apply s_assign; exact rfl; dsimp only [Nat.reduceAdd, Nat.reduceMul, List.nil_append]
         exact Trc.done _ _ _; exact rfl; refine inBlk_n ?_)
        refine rnd_n (q + 1) ⟨by omega, by rw [← g2, bef_miss hd hp']; omega⟩ (by omega) ?_
        (apply Le.mk3' []; apply RnT3.c; exact rfl; apply Rn3.r; exact Rn.v rfl; apply RnT3.c; exact rfl; apply Rn3.r; exact Rn.pt rfl rfl; apply RnT3.c; exact rfl
         apply Rn3.r; exact Rn.pt rfl rfl; apply RnT3.c; exact rfl; apply Rn3.r; exact Rn.pt rfl rfl; exact RnT3.n; apply RnH3.c; exact rfl; exact rfl; apply RnC.l
         apply Rn3L.cons; apply Rn3.r; exact Rn.sl rfl rfl; apply Rn3L.cons; apply Rn3.r; exact Rn.sl rfl rfl; apply Rn3L.cons; apply Rn3.r; exact Rn.sl rfl rfl
         apply Rn3L.cons; apply Rn3.r; exact Rn.sl rfl rfl; apply Rn3L.cons; apply Rn3.r; exact Rn.v rfl; exact Rn3L.nil; exact rfl; exact rfl; apply RnH3.c; exact rfl
         exact rfl; apply RnC.cl; rfl; exact inferInstance; exact rfl; exact rfl; apply RnH3.c; exact rfl; exact rfl; apply RnC.cl; rfl; exact inferInstance; exact rfl
         exact rfl; apply RnH3.c; exact rfl; exact rfl; apply RnC.cl; rfl; exact inferInstance; exact rfl; exact rfl; apply RnH3.c; exact rfl; exact rfl; apply RnC.cl
         rfl; exact inferInstance; exact rfl; exact rfl; apply RnH3.c; exact rfl; exact rfl; apply RnC.cl; rfl; exact inferInstance; exact rfl; exact rfl; apply RnH3.c
         exact rfl; exact rfl; apply RnC.cl; rfl; exact inferInstance; exact rfl; exact rfl; exact RnH3.n; exact rfl)
    · have hq : q = L.length := by omega
      rw [List.drop_of_length_le (by omega)] at g2
      have hB : bef (gtK k) L = q := by rw [← g2]; rfl
      (refine Gol.seq ?_; refine Gol.seq ?_; apply Gol.any; kernel_rfl; apply Trc.stp rfl rfl rfl
       apply s_move; exact rfl; dsimp only [Nat.reduceAdd, Nat.reduceMul, List.nil_append]
       apply Trc.stp rfl rfl rfl; apply s_fieldAddr; exact rfl; dsimp only [Nat.reduceAdd, Nat.reduceMul, List.nil_append]
       apply Trc.stp rfl rfl rfl; apply s_load; exact rfl; exact rfl; exact rfl; dsimp only [Nat.reduceAdd, Nat.reduceMul, List.nil_append]
       apply Trc.stp rfl rfl rfl; apply s_len; exact rfl; exact ln_sl; dsimp only [Nat.reduceAdd, Nat.reduceMul, List.nil_append]
       apply Trc.stp rfl rfl rfl; apply s_ltn; exact rfl; exact rfl; dsimp only [Nat.reduceAdd, Nat.reduceMul, List.nil_append]
       apply Trc.stp rfl rfl rfl; apply s_move; exact rfl; dsimp only [Nat.reduceAdd, Nat.reduceMul, List.nil_append]
       apply Trc.skip rfl rfl; apply wnt_g; exact rfl; exact rfl; exact rfl; (focus (simp [*]; done)); dsimp only [Nat.reduceAdd, Nat.reduceMul, List.nil_append]
       apply Trc.skip rfl rfl; apply wnt_g; exact rfl; exact rfl; exact rfl; (focus (simp [*]; done)); dsimp only [Nat.reduceAdd, Nat.reduceMul, List.nil_append]
       apply Trc.skip rfl rfl; apply wnt_g; exact rfl; exact rfl; exact rfl; (focus (simp [*]; done)); dsimp only [Nat.reduceAdd, Nat.reduceMul, List.nil_append]
       apply Trc.skip rfl rfl; apply wnt_g; exact rfl; exact rfl; exact rfl; (focus (simp [*]; done)); dsimp only [Nat.reduceAdd, Nat.reduceMul, List.nil_append]
       apply Trc.skip rfl rfl; apply wnt_g; exact rfl; exact rfl; exact rfl; (focus (simp [*]; done)); dsimp only [Nat.reduceAdd, Nat.reduceMul, List.nil_append]
       apply Trc.skip rfl rfl; apply wnt_g; exact rfl; exact rfl; exact rfl; (focus (simp [*]; done)); dsimp only [Nat.reduceAdd, Nat.reduceMul, List.nil_append]
       apply Trc.skip rfl rfl; apply wnt_g; exact rfl; exact rfl; exact rfl; (focus (simp [*]; done)); dsimp only [Nat.reduceAdd, Nat.reduceMul, List.nil_append]
       apply Trc.skip rfl rfl; apply wnt_g; exact rfl; exact rfl; exact rfl; (focus (simp [*]; done)); dsimp only [Nat.reduceAdd, Nat.reduceMul, List.nil_append]
       apply Trc.skip rfl rfl; apply wnt_g; exact rfl; exact rfl; exact rfl; (focus (simp [*]; done)); dsimp only [Nat.reduceAdd, Nat.reduceMul, List.nil_append]
       apply Trc.skip rfl rfl; apply wnt_g; exact rfl; exact rfl; exact rfl; (focus (simp [*]; done)); dsimp only [Nat.reduceAdd, Nat.reduceMul, List.nil_append]
       apply Trc.stp rfl rfl rfl; apply s_pick_f; exact rfl; (focus (simp [*]; done)); exact rfl; dsimp only [Nat.reduceAdd, Nat.reduceMul, List.nil_append]
       exact Trc.done _ _ _; kernel_rfl; exact rfl; refine thn_n ?_)
      refine Gol.cond_f rfl rfl ?_
      (refine Gol.exit ?_; refine thn_x ?_; refine rnd_x ?_; refine inBlk_hit ?_; refine thn_n ?_
       refine Gol.seq ?_; apply Gol.region; apply Trc.stp rfl rfl rfl; apply s_lit; exact PA.nil
       exact rfl; omega; dsimp only [Nat.reduceAdd, Nat.reduceMul, Nat.reduceSub, List.nil_append, List.cons_append, nbk, List.map_cons, List.map_nil]; apply Trc.stp rfl rfl rfl; apply s_fieldAddr; exact rfl; dsimp only [Nat.reduceAdd, Nat.reduceMul, List.nil_append]
       apply Trc.stp rfl rfl rfl; apply s_load; exact rfl; exact rfl; exact rfl; dsimp only [Nat.reduceAdd, Nat.reduceMul, List.nil_append]
       apply Trc.stp rfl rfl rfl; apply s_move; exact rfl; dsimp only [Nat.reduceAdd, Nat.reduceMul, List.nil_append]
       apply Trc.stp rfl rfl rfl; apply s_slL; exact rfl; exact rfl; exact ⟨_, rfl⟩; omega; omega; exact rfl; dsimp only [Nat.reduceAdd, Nat.reduceMul, Nat.reduceSub, List.nil_append, List.cons_append, nbk, List.map_cons, List.map_nil]
       apply Trc.stp rfl rfl rfl; apply s_app; exact rfl; exact rfl; exact rfl; apply rd_sb rfl; simp only [byA_length, List.length_append, List.length_cons, List.length_nil, List.length_take, List.length_drop, List.length_replicate, List.length_map, Nat.mul_one, nameB_length, flat_length, List.length_set, inA_length, dsA_length, lsA_length, dA_length, lA_length] <;> omega
       rfl; exact rfl; exact rfl; exact OneL.one; omega; dsimp only [Nat.reduceAdd, Nat.reduceMul, Nat.reduceSub, List.nil_append, List.cons_append, nbk, List.map_cons, List.map_nil]
       apply Trc.stp rfl rfl rfl; apply s_assign; exact rfl; dsimp only [Nat.reduceAdd, Nat.reduceMul, List.nil_append]
       exact Trc.done _ _ _; exact rfl; refine thn_n ?_; refine Gol.seq ?_; apply Gol.region; apply Trc.stp rfl rfl rfl; apply s_move; exact rfl; dsimp only [Nat.reduceAdd, Nat.reduceMul, List.nil_append]
       apply Trc.stp rfl rfl rfl; apply s_loadW; exact rfl; exact rfl; exact rfl; exact agu_cuv _; dsimp only [Nat.reduceAdd, Nat.reduceMul, List.nil_append]
       apply Trc.stp rfl rfl rfl; apply s_lit; apply PA.cons; exact rfl; exact rfl; exact rfl; exact PA.nil; exact rfl; omega
       dsimp only [Nat.reduceAdd, Nat.reduceMul, Nat.reduceSub, List.nil_append, List.cons_append, nbk, List.map_cons, List.map_nil]; apply Trc.stp rfl rfl rfl; apply s_app; exact rfl; exact rfl; exact rfl; apply rd_sl rfl; rfl; simp only [byA_length, List.length_append, List.length_cons, List.length_nil, List.length_take, List.length_drop, List.length_replicate, List.length_map, Nat.mul_one, nameB_length, flat_length, List.length_set, inA_length, dsA_length, lsA_length, dA_length, lA_length] <;> omega
       exact rfl; exact rfl; rfl; omega; dsimp only [Nat.reduceAdd, Nat.reduceMul, Nat.reduceSub, List.nil_append, List.cons_append, nbk, List.map_cons, List.map_nil]
       apply Trc.stp rfl rfl rfl; apply s_assign; exact rfl; dsimp only [Nat.reduceAdd, Nat.reduceMul, List.nil_append]
       exact Trc.done _ _ _; exact rfl; refine thn_n ?_; refine Gol.seq ?_)
      simp only [Nat.zero_add, Nat.sub_zero, List.drop_zero, List.append_nil, List.nil_append, show cu (.v (.agg (lockC k.n k.h k.o k.t k.u))) = lA k from rfl, lsA_take]
      (apply Gol.region; apply Trc.stp rfl rfl rfl; apply s_move; exact rfl; dsimp only [Nat.reduceAdd, Nat.reduceMul, List.nil_append]
       apply Trc.stp rfl rfl rfl; apply s_fieldAddr; exact rfl; dsimp only [Nat.reduceAdd, Nat.reduceMul, List.nil_append]
       apply Trc.stp rfl rfl rfl; apply s_load; exact rfl; exact rfl; exact rfl; dsimp only [Nat.reduceAdd, Nat.reduceMul, List.nil_append]
       apply Trc.stp rfl rfl rfl; apply s_move; exact rfl; dsimp only [Nat.reduceAdd, Nat.reduceMul, List.nil_append]
       apply Trc.stp rfl rfl rfl; apply s_slL; exact rfl; exact ⟨_, rfl⟩; exact rfl; omega; omega; exact rfl; dsimp only [Nat.reduceAdd, Nat.reduceMul, Nat.reduceSub, List.nil_append, List.cons_append, nbk, List.map_cons, List.map_nil]
       apply Trc.stp rfl rfl rfl; apply s_app; exact rfl; exact rfl; exact rfl; apply rd_sb rfl; simp only [byA_length, List.length_append, List.length_cons, List.length_nil, List.length_take, List.length_drop, List.length_replicate, List.length_map, Nat.mul_one, nameB_length, flat_length, List.length_set, inA_length, dsA_length, lsA_length, dA_length, lA_length] <;> omega
       simp only [byA_length, List.length_append, List.length_cons, List.length_nil, List.length_take, List.length_drop, List.length_replicate, List.length_map, Nat.mul_one, nameB_length, flat_length, List.length_set, inA_length, dsA_length, lsA_length, dA_length, lA_length] <;> omega
       exact rfl; exact rfl; exact OneL.one; omega; dsimp only [Nat.reduceAdd, Nat.reduceMul, Nat.reduceSub, List.nil_append, List.cons_append, nbk, List.map_cons, List.map_nil]
       apply Trc.stp rfl rfl rfl; apply s_fieldAddr; exact rfl; dsimp only [Nat.reduceAdd, Nat.reduceMul, List.nil_append]
       apply Trc.stepN rfl rfl; exact wnt_n rfl; apply s_store; exact rfl; exact rfl; exact rfl; exact rfl; rfl; exact Nat.le_of_ble_eq_true rfl
       dsimp only [Nat.reduceAdd, Nat.reduceMul, Nat.reduceSub, List.nil_append, List.cons_append, nbk, List.map_cons, List.map_nil]; exact Trc.done _ _ _; exact rfl
       refine thn_n ?_; refine Gol.seq ?_; apply Gol.region; apply Trc.stp rfl rfl rfl; apply s_loadW
       exact rfl; exact rfl; exact rfl; exact agu_cua _; dsimp only [Nat.reduceAdd, Nat.reduceMul, List.nil_append]
       apply Trc.stepN rfl rfl; exact wnt_n rfl; apply s_storeW; exact rfl; exact rfl; exact rfl; exact rfl; rfl; exact rfl; dsimp only [Nat.reduceAdd, Nat.reduceMul, Nat.reduceSub, List.nil_append, List.cons_append, nbk, List.map_cons, List.map_nil]
       exact Trc.done _ _ _; exact rfl; refine thn_n ?_; refine Gol.ret ?_)
      have hn : q + 1 + (L.length - q) = (insK L k).length := by rw [insK_len]; omega
      simp only [hn, lsA_drop]
      have hcc : lsA (L.take q) ++ lA k ++ List.take ((L.length - q) * 19) (lsA (L.drop q)) = lsA (insK L k) := by
        have := insK_cells2 (L := L) (x := k) g1
        rw [lsA_take, lsA_drop] at this
        rw [this, insK, hB]
      rw [hcc]
      (apply RetQ.mkM (by first | exact .inr rfl | exact .inl rfl); apply res_1 rfl; exact res_cell rfl rfl rfl (agu_cua _); apply out_ids [32, 33, 1272, 35] rfl
       apply OBs.cons; exact rfl; exact inferInstance; apply OBs.cons; exact rfl; exact inferInstance; apply OBs.cons; exact rfl; exact inferInstance; apply OBs.cons
       exact rfl; exact inferInstance; exact OBs.nil; intro k; apply Ot.agL; apply OtL.cons; exact Ot.sl (j := 0) rfl; apply OtL.cons; exact Ot.sl (j := 1) rfl
       apply OtL.cons; exact Ot.sl (j := 2) rfl; apply OtL.cons; exact Ot.sl (j := 3) rfl; apply OtL.cons; exact Ot.v inferInstance; exact OtL.nil)
set_option maxHeartbeats 1600000 in
theorem refClose_ok (s : Stt) (n : UInt64) (hs : s.cells.length ≤ 10000000 ∧ s.seqs.length ≤ 10000000 ∧ s.locks.length ≤ 1000000 ∧ s.applied.length ≤ 10000000) :
    Fresh Tryz.prog 22 [stA s, .v (.agg (nameC n))] (stO (stL s (closeL s.locks n))) (stB (stL s (closeL s.locks n))) := by
  obtain ⟨h1, h2, h3, h4⟩ := hs
  have hcp := refCopy_ok s ⟨h1, h2, by omega, h4⟩
  unfold stA stO stB at hcp
  unfold stA stO stB stL
  dsimp only
  generalize s.locks = L at h3 hcp
  refine Fresh.of (fn := Tryz.f22) Tryz.func22 rfl (Nat.le_of_ble_eq_true rfl) fun w => ?_
  (refine Gol.seq ?_; apply Gol.region; apply Trc.stp rfl rfl rfl; apply s_box; exact rfl
   exact rfl; dsimp only [Nat.reduceAdd, Nat.reduceMul, Nat.reduceSub, List.nil_append, List.cons_append, nbk, List.map_cons, List.map_nil]; apply Trc.stp rfl rfl rfl; apply s_box; exact rfl; exact rfl; dsimp only [Nat.reduceAdd, Nat.reduceMul, Nat.reduceSub, List.nil_append, List.cons_append, nbk, List.map_cons, List.map_nil]
   apply Trc.stp rfl rfl rfl; apply s_alloc; dsimp only [Nat.reduceAdd, Nat.reduceMul, Nat.reduceSub, List.nil_append, List.cons_append, nbk, List.map_cons, List.map_nil]
   exact Trc.done _ _ _; exact rfl; refine thn_n ?_; refine Gol.seq ?_; apply Gol.region; apply Trc.stp rfl rfl rfl; apply s_loadW; exact rfl; exact rfl; exact rfl; exact agu_cua _; dsimp only [Nat.reduceAdd, Nat.reduceMul, List.nil_append]
   apply Trc.stp rfl rfl rfl; apply s_call (f := 52) rfl; apply evs.cons rfl; exact evs.nil; apply ArgL.cons
   exact arg_clo; exact ArgL.nil; exact hcp; exact Nat.le_of_ble_eq_true rfl; dsimp only [Nat.reduceAdd, Nat.reduceMul, Nat.reduceSub, List.nil_append, List.cons_append, nbk, List.map_cons, List.map_nil]
   apply Trc.stepN rfl rfl; exact wnt_n rfl; apply s_storeW; exact rfl; exact rfl; exact rfl; exact rfl; rfl; exact rfl; dsimp only [Nat.reduceAdd, Nat.reduceMul, Nat.reduceSub, List.nil_append, List.cons_append, nbk, List.map_cons, List.map_nil]
   exact Trc.done _ _ _; exact rfl; refine thn_n ?_; refine Gol.seq ?_; refine Gol.seq ?_; apply Gol.region
   apply Trc.stp rfl rfl rfl; apply s_assign; exact rfl; dsimp only [Nat.reduceAdd, Nat.reduceMul, List.nil_append]
   exact Trc.done _ _ _; exact rfl; refine thn_n ?_; refine Gol.block ?_)
  refine Gol.loop (ι := Nat) (fun i => i ≤ L.length ∧ fIx (eqK n) (L.drop i) i = fIx (eqK n) L 0) (fun i => L.length - i) 1000
    (fun _ => [(0, some ⟨[.sl 32 s.cells.length, .sl 33 s.seqs.length, .sl 34 L.length, .sl 35 s.applied.length, .v (.int .i64 s.guilty)], 28, 5⟩), (32, some ⟨dsA s.cells, 46, 11⟩), (33, some ⟨inA s.seqs, 3, 1⟩), (34, some ⟨lsA L, 50, 19⟩), (35, some ⟨byA (flat s.applied), 30, 8⟩), (16, some ⟨[.v (.slice none 0 0), .v (.slice none 0 0), .v (.slice none 0 0), .v (.slice none 0 0), .v (.int .i64 0)], 28, 5⟩), (8, some ⟨cu (.v (.agg (nameC n))), 30, 8⟩)])
    (fun i => [(5, .v (.int .i64 (i : Int))), (2, .pt 0 0), (3, .pt 8 0), (4, .pt 16 0)]) 0 ⟨Nat.zero_le _, rfl⟩ ?_ ?_
  · (apply Le.mk3' []; apply RnT3.c; exact rfl; apply Rn3.r; exact Rn.v rfl; apply RnT3.c; exact rfl; apply Rn3.r; exact Rn.pt rfl rfl; apply RnT3.c; exact rfl
     apply Rn3.r; exact Rn.pt rfl rfl; apply RnT3.c; exact rfl; apply Rn3.r; exact Rn.pt rfl rfl; exact RnT3.n; apply RnH3.c; exact rfl; exact rfl; apply RnC.l
     apply Rn3L.cons; apply Rn3.r; exact Rn.sl rfl rfl; apply Rn3L.cons; apply Rn3.r; exact Rn.sl rfl rfl; apply Rn3L.cons; apply Rn3.r; exact Rn.sl rfl rfl
     apply Rn3L.cons; apply Rn3.r; exact Rn.sl rfl rfl; apply Rn3L.cons; apply Rn3.r; exact Rn.v rfl; exact Rn3L.nil; exact rfl; exact rfl; apply RnH3.c; exact rfl
     exact rfl; apply RnC.cl; rfl; exact inferInstance; exact rfl; exact rfl; apply RnH3.c; exact rfl; exact rfl; apply RnC.cl; rfl; exact inferInstance; exact rfl
     exact rfl; apply RnH3.c; exact rfl; exact rfl; apply RnC.cl; rfl; exact inferInstance; exact rfl; exact rfl; apply RnH3.c; exact rfl; exact rfl; apply RnC.cl
     rfl; exact inferInstance; exact rfl; exact rfl; apply RnH3.c; exact rfl; exact rfl; apply RnC.cl; rfl; exact inferInstance; exact rfl; exact rfl; apply RnH3.c
     exact rfl; exact rfl; apply RnC.cl; rfl; exact inferInstance; exact rfl; exact rfl; exact RnH3.n; exact rfl)
  rintro i ⟨g1, g2⟩
  (refine Gol.seq ?_; refine Gol.seq ?_; apply Gol.region; apply Trc.stp rfl rfl rfl; apply s_move
   exact rfl; dsimp only [Nat.reduceAdd, Nat.reduceMul, List.nil_append]; apply Trc.stp rfl rfl rfl; apply s_fieldAddr; exact rfl; dsimp only [Nat.reduceAdd, Nat.reduceMul, List.nil_append]
   apply Trc.stp rfl rfl rfl; apply s_load; exact rfl; exact rfl; exact rfl; dsimp only [Nat.reduceAdd, Nat.reduceMul, List.nil_append]
   apply Trc.stp rfl rfl rfl; apply s_len; exact rfl; exact ln_sl; dsimp only [Nat.reduceAdd, Nat.reduceMul, List.nil_append]
   apply Trc.stp rfl rfl rfl; apply s_ltn; exact rfl; exact rfl; dsimp only [Nat.reduceAdd, Nat.reduceMul, List.nil_append]
   exact Trc.done _ _ _; exact rfl; refine thn_n ?_)
  refine Gol.cond rfl (fun h => ?_) (fun h => ?_)
  · have hlt : i < L.length := of_decide_eq_true h
    obtain ⟨d, hd⟩ : ∃ d, L[i]? = some d := ⟨L[i], List.getElem?_eq_getElem hlt⟩
    (refine Gol.skip ?_; refine thn_n ?_; refine Gol.seq ?_; refine Gol.block ?_; refine Gol.seq ?_
     apply Gol.any; kernel_rfl; apply Trc.stp rfl rfl rfl; apply s_fieldAddr; exact rfl; dsimp only [Nat.reduceAdd, Nat.reduceMul, List.nil_append]
     apply Trc.stp rfl rfl rfl; apply s_load; exact rfl; exact rfl; exact rfl; dsimp only [Nat.reduceAdd, Nat.reduceMul, List.nil_append]
     apply Trc.stp rfl rfl rfl; apply s_move; exact rfl; dsimp only [Nat.reduceAdd, Nat.reduceMul, List.nil_append]
     apply Trc.stp rfl rfl rfl; apply s_ixl; exact rfl; exact rfl; exact rfl; omega; dsimp only [Nat.reduceAdd, Nat.reduceMul, Nat.reduceSub, List.nil_append, List.cons_append, nbk, List.map_cons, List.map_nil]
     apply Trc.stp rfl rfl rfl; apply s_fieldAddr; exact rfl; dsimp only [Nat.reduceAdd, Nat.reduceMul, List.nil_append]
     apply Trc.stp rfl rfl rfl; apply s_loadN; exact rfl; exact rfl; simp only [byA_length, List.length_append, List.length_cons, List.length_nil, List.length_take, List.length_drop, List.length_replicate, List.length_map, Nat.mul_one, nameB_length, flat_length, List.length_set, inA_length, dsA_length, lsA_length, dA_length, lA_length] <;> omega
     exact agu_ln (by assumption); dsimp only [Nat.reduceAdd, Nat.reduceMul, List.nil_append]
     apply Trc.stp rfl rfl rfl; apply s_loadW; exact rfl; exact rfl; exact rfl; exact agu_cuv _; dsimp only [Nat.reduceAdd, Nat.reduceMul, List.nil_append]
     apply Trc.stp rfl rfl rfl; apply s_eqN; exact rfl; exact rfl; dsimp only [Nat.reduceAdd, Nat.reduceMul, List.nil_append]
     exact Trc.done _ _ _; kernel_rfl; exact rfl; refine thn_n ?_)
    refine Gol.cond rfl (fun h => ?_) (fun h => ?_)
    · have hp : eqK n d = true := h
      rw [fIx_hit hd hp] at g2
      have hC : closeL L n = L.take i ++ L.drop (i + 1) := by
        rcases fIx_cases (eqK n) L with ⟨f1, _, _, _⟩ | ⟨j, e, f1, f2, f3, f4, f5, f6⟩
        · rw [f1] at g2; omega
        · rw [f4] at g2
          have : i = j := by omega
          subst this
          unfold closeL; rw [f3]; dsimp only; rw [f5]
      rw [hC]
      have hlen := lsA_length L
      have hdl : ((lsA L).drop ((i + 1) * 19)).length = (L.length - (i + 1)) * 19 := by rw [List.length_drop, hlen, ← Nat.sub_mul]
      have hde : List.take ((L.length - (i + 1)) * 19) ((lsA L).drop ((i + 1) * 19)) = (lsA L).drop ((i + 1) * 19) := List.take_of_length_le (by omega)
      have hd1 : ((lsA L).drop ((i + 1) * 19)).all AV.one = true := by rw [lsA_drop]; exact lsA_ones _
      refine Gol.capCell (B := 0) (j := 2) rfl rfl fun cc hcc => ?_
      dsimp only [cu, List.set]
      (refine Gol.seq ?_; apply Gol.any; kernel_rfl; apply Trc.stp rfl rfl rfl; apply s_fieldAddr
       exact rfl; dsimp only [Nat.reduceAdd, Nat.reduceMul, List.nil_append]; apply Trc.stp rfl rfl rfl; apply s_load; exact rfl; exact rfl; exact rfl; dsimp only [Nat.reduceAdd, Nat.reduceMul, List.nil_append]
       apply Trc.stp rfl rfl rfl; apply s_move; exact rfl; dsimp only [Nat.reduceAdd, Nat.reduceMul, List.nil_append]
       apply Trc.stp rfl rfl rfl; apply s_slC; exact rfl; exact ⟨_, rfl⟩; omega; exact rfl; dsimp only [Nat.reduceAdd, Nat.reduceMul, Nat.reduceSub, List.nil_append, List.cons_append, nbk, List.map_cons, List.map_nil]
       apply Trc.stp rfl rfl rfl; apply s_fieldAddr; exact rfl; dsimp only [Nat.reduceAdd, Nat.reduceMul, List.nil_append]
       apply Trc.stp rfl rfl rfl; apply s_load; exact rfl; exact rfl; exact rfl; dsimp only [Nat.reduceAdd, Nat.reduceMul, List.nil_append]
       apply Trc.stp rfl rfl rfl; apply s_move; exact rfl; dsimp only [Nat.reduceAdd, Nat.reduceMul, List.nil_append]
       apply Trc.stp rfl rfl rfl; apply s_addn; exact rfl; exact rfl; simp <;> omega; dsimp only [Nat.reduceAdd, Nat.reduceMul, List.nil_append]
       apply Trc.stp rfl rfl rfl; apply s_slS; exact rfl; exact ⟨_, rfl⟩; exact rfl; omega; omega; exact rfl; dsimp only [Nat.reduceAdd, Nat.reduceMul, Nat.reduceSub, List.nil_append, List.cons_append, nbk, List.map_cons, List.map_nil]
       apply Trc.stp rfl rfl rfl; apply s_appIn; exact rfl; exact rfl; exact rfl; apply rd_sb rfl; dsimp only; omega; dsimp only; rw [hde, hdl]
       dsimp only; omega; dsimp only; rw [hde]; exact hd1; omega; omega; dsimp only [Nat.reduceAdd, Nat.reduceMul, Nat.reduceSub, List.nil_append, List.cons_append, nbk, List.map_cons, List.map_nil]
       apply Trc.stp rfl rfl rfl; apply s_fieldAddr; exact rfl; dsimp only [Nat.reduceAdd, Nat.reduceMul, List.nil_append]
       apply Trc.stepN rfl rfl; exact wnt_n rfl; apply s_store; exact rfl; exact rfl; exact rfl; exact rfl; rfl; exact Nat.le_of_ble_eq_true rfl
       dsimp only [Nat.reduceAdd, Nat.reduceMul, Nat.reduceSub, List.nil_append, List.cons_append, nbk, List.map_cons, List.map_nil]; exact Trc.done _ _ _; kernel_rfl
       exact rfl; refine thn_n ?_; refine Gol.seq ?_; apply Gol.region; apply Trc.stp rfl rfl rfl
       apply s_loadW; exact rfl; exact rfl; exact rfl; exact agu_cua _; dsimp only [Nat.reduceAdd, Nat.reduceMul, List.nil_append]
       apply Trc.stepN rfl rfl; exact wnt_n rfl; apply s_storeW; exact rfl; exact rfl; exact rfl; exact rfl; rfl; exact rfl; dsimp only [Nat.reduceAdd, Nat.reduceMul, Nat.reduceSub, List.nil_append, List.cons_append, nbk, List.map_cons, List.map_nil]
       exact Trc.done _ _ _; exact rfl; refine thn_n ?_; refine Gol.ret ?_; refine inBlk_r ?_; refine thn_r ?_
       refine rnd_r ?_; refine inBlk_r ?_; refine thn_r ?_)
      have hn : i + (L.length - (i + 1)) = (L.take i ++ L.drop (i + 1)).length := by simp; omega
      rw [hde, hn]
      refine RetQ.mkM (.inr rfl) (res_1 rfl (res_cell rfl rfl rfl (agu_cua _))) (out_ids [32, 33, 34, 35] rfl (.cons rfl inferInstance (.cons rfl inferInstance (.cut rfl rfl rfl ?_ inferInstance (.cons rfl inferInstance .nil)))) fun k => ?_)
      · dsimp only
        rw [lsA_append, ← lsA_take, ← lsA_drop]
        exact del_cells2 (by omega) (by rw [List.length_append, List.length_take]; omega)
      · exact Ot.agL (OtL.cons (Ot.sl (j := 0) rfl) (OtL.cons (Ot.sl (j := 1) rfl) (OtL.cons (Ot.sc (j := 2) rfl) (OtL.cons (Ot.sl (j := 3) rfl) (OtL.cons (Ot.v inferInstance) OtL.nil)))))
    · have hp : eqK n d = false := h
      (refine Gol.skip ?_; refine inBlk_n ?_; refine thn_n ?_; apply Gol.region; apply Trc.stp rfl rfl rfl; apply s_move; exact rfl; dsimp only [Nat.reduceAdd, Nat.reduceMul, List.nil_append]
       apply Trc.stp rfl rfl rfl; apply s_addn; exact rfl; exact rfl; simp <;> omega; dsimp only [Nat.reduceAdd, Nat.reduceMul, List.nil_append]
       apply Trc.stp rfl rfl rfl; apply s_assign; exact rfl; dsimp only [Nat.reduceAdd, Nat.reduceMul, List.nil_append]
       exact Trc.done _ _ _; exact rfl)
      refine rnd_n (i + 1) ⟨by omega, by rw [← g2, fIx_miss hd hp]⟩ (by omega) ?_
      (apply Le.mk3' []; apply RnT3.c; exact rfl; apply Rn3.r; exact Rn.v rfl; apply RnT3.c; exact rfl; apply Rn3.r; exact Rn.pt rfl rfl; apply RnT3.c; exact rfl
       apply Rn3.r; exact Rn.pt rfl rfl; apply RnT3.c; exact rfl; apply Rn3.r; exact Rn.pt rfl rfl; exact RnT3.n; apply RnH3.c; exact rfl; exact rfl; apply RnC.l
       apply Rn3L.cons; apply Rn3.r; exact Rn.sl rfl rfl; apply Rn3L.cons; apply Rn3.r; exact Rn.sl rfl rfl; apply Rn3L.cons; apply Rn3.r; exact Rn.sl rfl rfl
       apply Rn3L.cons; apply Rn3.r; exact Rn.sl rfl rfl; apply Rn3L.cons; apply Rn3.r; exact Rn.v rfl; exact Rn3L.nil; exact rfl; exact rfl; apply RnH3.c; exact rfl
       exact rfl; apply RnC.cl; rfl; exact inferInstance; exact rfl; exact rfl; apply RnH3.c; exact rfl; exact rfl; apply RnC.cl; rfl; exact inferInstance; exact rfl
       exact rfl; apply RnH3.c; exact rfl; exact rfl; apply RnC.cl; rfl; exact inferInstance; exact rfl; exact rfl; apply RnH3.c; exact rfl; exact rfl; apply RnC.cl
       rfl; exact inferInstance; exact rfl; exact rfl; apply RnH3.c; exact rfl; exact rfl; apply RnC.cl; rfl; exact inferInstance; exact rfl; exact rfl; apply RnH3.c
       exact rfl; exact rfl; apply RnC.cl; rfl; exact inferInstance; exact rfl; exact rfl; exact RnH3.n; exact rfl)
  · have hge : ¬ i < L.length := of_decide_eq_false h
    rw [List.drop_of_length_le (by omega)] at g2
    have hC : closeL L n = L := by
      rcases fIx_cases (eqK n) L with ⟨_, f2, _, _⟩ | ⟨j, e, f1, f2, f3, f4, f5, f6⟩
      · unfold closeL; rw [f2]
      · rw [f4] at g2; simp only [fIx] at g2; omega
    rw [hC]
    (refine Gol.exit ?_; refine thn_x ?_; refine rnd_x ?_; refine inBlk_hit ?_; refine thn_n ?_
     refine Gol.seq ?_; apply Gol.region; apply Trc.stp rfl rfl rfl; apply s_loadW; exact rfl
     exact rfl; exact rfl; exact agu_cua _; dsimp only [Nat.reduceAdd, Nat.reduceMul, List.nil_append]
     apply Trc.stepN rfl rfl; exact wnt_n rfl; apply s_storeW; exact rfl; exact rfl; exact rfl; exact rfl; rfl; exact rfl; dsimp only [Nat.reduceAdd, Nat.reduceMul, Nat.reduceSub, List.nil_append, List.cons_append, nbk, List.map_cons, List.map_nil]
     exact Trc.done _ _ _; exact rfl; refine thn_n ?_; refine Gol.ret ?_)
    (apply RetQ.mkM (by first | exact .inr rfl | exact .inl rfl); apply res_1 rfl; exact res_cell rfl rfl rfl (agu_cua _); apply out_ids [32, 33, 34, 35] rfl
     apply OBs.cons; exact rfl; exact inferInstance; apply OBs.cons; exact rfl; exact inferInstance; apply OBs.cons; exact rfl; exact inferInstance; apply OBs.cons
     exact rfl; exact inferInstance; exact OBs.nil; intro k; apply Ot.agL; apply OtL.cons; exact Ot.sl (j := 0) rfl; apply OtL.cons; exact Ot.sl (j := 1) rfl
     apply OtL.cons; exact Ot.sl (j := 2) rfl; apply OtL.cons; exact Ot.sl (j := 3) rfl; apply OtL.cons; exact Ot.v inferInstance; exact OtL.nil)
end Go.Proofs.YtkkeeokeihkagaaGreat


/-
  Layer 21: a small genesis and its state. No condition.
-/
namespace Go.Proofs.YtkkeeokeihkagaaGreat
open Go.RowKit

def s0 : Stt := ⟨[⟨1, 0, 0, 7⟩, ⟨3, 0, 0, 3⟩], [0], [], [], 0⟩
theorem rv_agv {E : Env} {xs : Array Value} {cs : List AV} (e : cs = xs.toList.map .v) {x : Value} (h : RV E (.ag cs) x) : RV E (.v (.agg xs)) x := by
  subst e
  cases h with
  | ag cs ys hl h =>
    have hR : RVs E (xs.toList.map AV.v) ys.toList := ⟨by simpa using hl, fun j c x hc hx => h j c x hc (by simpa using hx)⟩
    have := hR.vals_inv
    have e : ys = xs := by rw [← Array.toArray_toList (xs := ys), this, Array.toArray_toList]
    rw [e]
    exact .v _
theorem sub_agv2 {a : AV} {us : List AV} {xs : Array Value} {cs : List AV} (e : cs = xs.toList.map .v) (E : Env) (ys : List Value) (h : RVs E (a :: .ag cs :: us) ys) : RVs E (a :: .v (.agg xs) :: us) ys := by
  obtain ⟨x, zs, rfl, h1, h⟩ := h.cons_inv
  obtain ⟨y, zs, rfl, h2, h⟩ := h.cons_inv
  exact RVs.cons h1 (RVs.cons (rv_agv e h2) h)
theorem rv_st {E : Env} {u v : AV} {x : Value} (h : RV E (.ag [.v (.slice none 0 0), u, .v (.slice none 0 0), .v (.slice none 0 0), v]) x) : RV E (.ag [.ex 0 false [], u, .ex 0 false [], .ex 0 false [], v]) x := by
  cases h with
  | ag cs xs hl h =>
    have hR : RVs E [.v (.slice none 0 0), u, .v (.slice none 0 0), .v (.slice none 0 0), v] xs.toList := ⟨by simpa using hl, fun j c x hc hx => h j c x hc (by simpa using hx)⟩
    obtain ⟨a, r, e1, h1, hR⟩ := hR.cons_inv
    obtain ⟨b, r, rfl, h2, hR⟩ := hR.cons_inv
    obtain ⟨c, r, rfl, h3, hR⟩ := hR.cons_inv
    obtain ⟨d, r, rfl, h4, hR⟩ := hR.cons_inv
    obtain ⟨e, r, rfl, h5, hR⟩ := hR.cons_inv
    have := RVs.cons (rv_nil (f := false) h1) (RVs.cons h2 (RVs.cons (rv_nil (f := false) h3) (RVs.cons (rv_nil (f := false) h4) (RVs.cons h5 hR))))
    rw [← e1] at this
    refine .ag _ xs (by simpa using hl) (fun j c x hc hx => this.2 j c x ?_ (by simpa using hx))
    have hr := hR.nil_inv
    exact hc
theorem sub_st {u v : AV} {us : List AV} (E : Env) (ys : List Value) (h : RVs E (.ag [.v (.slice none 0 0), u, .v (.slice none 0 0), .v (.slice none 0 0), v] :: us) ys) : RVs E (.ag [.ex 0 false [], u, .ex 0 false [], .ex 0 false [], v] :: us) ys := by
  obtain ⟨x, zs, rfl, h1, h⟩ := h.cons_inv
  exact RVs.cons (rv_st h1) h
theorem s0_sm : Sm s0 := ⟨by decide, by decide, by decide, by decide⟩
theorem s0_add : stW ⟨[], [0], [], [], 0⟩ (addL [] [⟨1, 0, 0, 7⟩, ⟨3, 0, 0, 3⟩]) = s0 := by
  have : addL [] [⟨1, 0, 0, 7⟩, ⟨3, 0, 0, 3⟩] = [⟨1, 0, 0, 7⟩, ⟨3, 0, 0, 3⟩] := by decide
  unfold stW
  rw [this]
  rfl
theorem genesis_yes (V A : List AV) [hV : CloL V] [hA : CloL A] : Fresh Tryz.prog 23 [.ag [.v (.int .i64 1), .v (.int .i64 3), .ex 1 false V, .ex 1 false A, .ex 1 false (inA [7])]] (fun k => .tp [.ag [.sl k s0.cells.length, .sl (k + 1) s0.seqs.length, .sl (k + 2) s0.locks.length, .sl (k + 3) s0.applied.length, .v (.int .i64 s0.guilty)], .v (.int .i64 0)]) (stB s0) := by
  have hadd := add_ok ⟨[], [0], [], [], 0⟩ [⟨1, 0, 0, 7⟩, ⟨3, 0, 0, 3⟩] ⟨by decide, by decide, by decide, by decide⟩ (by decide) (by intro x hx; simp at hx; rcases hx with rfl | rfl <;> exact ⟨by decide, by decide⟩)
  dsimp only at hadd
  rw [s0_add] at hadd
  have hadd2 := hadd.sub (ds := [.ag [.v (.slice none 0 0), .ex 1 false (inA [0]), .v (.slice none 0 0), .v (.slice none 0 0), .v (.int .i64 0)], .ex 2 false (dsA [⟨1, 0, 0, 7⟩, ⟨3, 0, 0, 3⟩])]) (fun E xs h => sub_st E xs h)
  unfold stO at hadd2
  refine Fresh.of (fn := Tryz.f23) Tryz.func23 rfl (Nat.le_of_ble_eq_true rfl) fun w => ?_
  (refine Gol.seq ?_; apply Gol.region; apply Trc.stp rfl rfl rfl; apply s_box; exact rfl
   exact rfl; dsimp only [Nat.reduceAdd, Nat.reduceMul, Nat.reduceSub, List.nil_append, List.cons_append, nbk, List.map_cons, List.map_nil]; apply Trc.stp rfl rfl rfl; apply s_alloc; dsimp only [Nat.reduceAdd, Nat.reduceMul, Nat.reduceSub, List.nil_append, List.cons_append, nbk, List.map_cons, List.map_nil]
   apply Trc.stp rfl rfl rfl; apply s_assign; exact rfl; dsimp only [Nat.reduceAdd, Nat.reduceMul, List.nil_append]
   exact Trc.done _ _ _; exact rfl; refine thn_n ?_; refine Gol.seq ?_; refine Gol.seq ?_; apply Gol.region
   apply Trc.stp rfl rfl rfl; apply s_loadW; exact rfl; exact rfl; exact rfl; exact agu_cua _; dsimp only [Nat.reduceAdd, Nat.reduceMul, List.nil_append]
   apply Trc.stp rfl rfl rfl; apply s_call (f := 54) rfl; apply evs.cons rfl; exact evs.nil; apply ArgL.cons
   exact arg_clo; exact ArgL.nil; exact valGen_yes V A; exact Nat.le_of_ble_eq_true rfl; dsimp only [Nat.reduceAdd, Nat.reduceMul, Nat.reduceSub, List.nil_append, List.cons_append, nbk, List.map_cons, List.map_nil]
   apply Trc.stp rfl rfl rfl; apply s_nen; exact rfl; exact rfl; dsimp only [Nat.reduceAdd, Nat.reduceMul, List.nil_append]
   exact Trc.done _ _ _; exact rfl; refine thn_n ?_)
  refine Gol.cond_f rfl (by decide) ?_
  (refine Gol.skip ?_; refine thn_n ?_; refine Gol.seq ?_; apply Gol.region; apply Trc.stp rfl rfl rfl; apply s_assign; exact rfl; dsimp only [Nat.reduceAdd, Nat.reduceMul, List.nil_append]
   exact Trc.done _ _ _; exact rfl; refine thn_n ?_; refine Gol.seq ?_; refine Gol.seq ?_; apply Gol.region
   apply Trc.stp rfl rfl rfl; apply s_fieldAddr; exact rfl; dsimp only [Nat.reduceAdd, Nat.reduceMul, List.nil_append]
   apply Trc.stp rfl rfl rfl; apply s_load; exact rfl; exact rfl; exact rfl; dsimp only [Nat.reduceAdd, Nat.reduceMul, List.nil_append]
   apply Trc.stp rfl rfl rfl; apply s_len; exact rfl; exact ln_ex; dsimp only [Nat.reduceAdd, Nat.reduceMul, List.nil_append]
   apply Trc.stp rfl rfl rfl; apply s_move; exact rfl; dsimp only [Nat.reduceAdd, Nat.reduceMul, List.nil_append]
   exact Trc.done _ _ _; exact rfl; refine thn_n ?_; refine Gol.block ?_)
  refine Gol.le (Le.nilOwn (i := 4) 46 11 rfl) ?_
  refine Gol.loop (ι := Nat) (fun j => j ≤ 1) (fun j => 1 - j) 200 (fun j => [(199, some ⟨dsA ([⟨1, 0, 0, 7⟩].take j), 46, 11⟩), (0, some ⟨[.v (.int .i64 1), .v (.int .i64 3), .ex 1 false V, .ex 1 false A, .ex 1 false (inA [7])], 60, 5⟩), (8, some ⟨[.v (.slice none 0 0), .v (.slice none 0 0), .v (.slice none 0 0), .v (.slice none 0 0), .v (.int .i64 0)], 28, 5⟩)]) (fun j => [(15, .v (.int .i64 (j : Int))), (14, .v (.int .i64 ((1 : Nat) : Int))), (13, .ex 1 false (inA [7])), (4, .sl 199 j), (1, .pt 0 0), (2, .pt 8 0)]) 0 (Nat.zero_le _) ?_ ?_
  · (apply Le.mk3' [(199, 88)]; apply RnT3.c; exact rfl; apply Rn3.r; exact Rn.v rfl; apply RnT3.c; exact rfl; apply Rn3.r; exact Rn.v rfl; apply RnT3.c; exact rfl
     apply Rn3.r; exact Rn.clo inferInstance rfl; apply RnT3.c; exact rfl; apply Rn3.r; exact Rn.sl rfl rfl; apply RnT3.c; exact rfl; apply Rn3.r; exact Rn.pt rfl rfl
     apply RnT3.c; exact rfl; apply Rn3.r; exact Rn.pt rfl rfl; exact RnT3.n; apply RnH3.c; exact rfl; exact rfl; apply RnC.cl; rfl; exact inferInstance; exact rfl
     exact rfl; apply RnH3.c; exact rfl; exact rfl; apply RnC.cl; rfl; exact inferInstance; exact rfl; exact rfl; apply RnH3.c; exact rfl; exact rfl; apply RnC.cl
     rfl; exact inferInstance; exact rfl; exact rfl; exact RnH3.n; exact rfl)
  intro j hj
  (refine Gol.seq ?_; apply Gol.region; apply Trc.stp rfl rfl rfl; apply s_ltn; exact rfl
   exact rfl; dsimp only [Nat.reduceAdd, Nat.reduceMul, List.nil_append]; exact Trc.done _ _ _
   exact rfl; refine thn_n ?_; refine Gol.seq ?_)
  refine Gol.cond rfl (fun h => ?_) (fun h => ?_)
  · have hlt : j < 1 := of_decide_eq_true h
    have hne : inA [7] ≠ [] := by simp [inA]
    obtain rfl : j = 0 := by omega
    (refine Gol.skip ?_; refine thn_n ?_; refine Gol.seq ?_; refine Gol.block ?_; refine Gol.seq ?_
     apply Gol.region; apply Trc.stp rfl rfl rfl; apply s_move; exact rfl; dsimp only [Nat.reduceAdd, Nat.reduceMul, List.nil_append]
     apply Trc.stp rfl rfl rfl; apply s_ixe; exact rfl; exact rfl; omega; assumption; dsimp only [Nat.reduceAdd, Nat.reduceMul, List.nil_append]
     apply Trc.stp rfl rfl rfl; apply s_loadE; exact rfl; exact rfl; dsimp only [Nat.reduceAdd, Nat.reduceMul, List.nil_append]
     apply Trc.stp rfl rfl rfl; apply s_assign; exact rfl; dsimp only [Nat.reduceAdd, Nat.reduceMul, List.nil_append]
     apply Trc.stp rfl rfl rfl; apply s_assign; exact rfl; dsimp only [Nat.reduceAdd, Nat.reduceMul, List.nil_append]
     exact Trc.done _ _ _; exact rfl; refine thn_n ?_; apply Gol.region; apply Trc.stp rfl rfl rfl; apply s_move
     exact rfl; dsimp only [Nat.reduceAdd, Nat.reduceMul, List.nil_append]; apply Trc.stp rfl rfl rfl; apply s_move; exact rfl; dsimp only [Nat.reduceAdd, Nat.reduceMul, List.nil_append]
     apply Trc.stp rfl rfl rfl; apply s_bld; exact rfl; (focus (dsimp only [splB, cuB, spl, cu, Value.cells, nameC, List.map, List.take, List.drop, List.append, List.length, List.cons_append, List.nil_append, Nat.reduceAdd, List.take_succ_cons, List.take_zero, List.drop_succ_cons, List.drop_zero, List.take_nil, List.drop_nil, List.append_nil, List.length_cons, List.length_nil]; done))
     dsimp only [Nat.reduceAdd, Nat.reduceMul, Nat.reduceSub, List.nil_append, List.cons_append, nbk, List.map_cons, List.map_nil]; apply Trc.stp rfl rfl rfl; apply s_move; exact rfl; dsimp only [Nat.reduceAdd, Nat.reduceMul, List.nil_append]
     apply Trc.stp rfl rfl rfl; apply s_bld; exact rfl; (focus (dsimp only [splB, cuB, spl, cu, Value.cells, nameC, List.map, List.take, List.drop, List.append, List.length, List.cons_append, List.nil_append, Nat.reduceAdd, List.take_succ_cons, List.take_zero, List.drop_succ_cons, List.drop_zero, List.take_nil, List.drop_nil, List.append_nil, List.length_cons, List.length_nil]; done))
     dsimp only [Nat.reduceAdd, Nat.reduceMul, Nat.reduceSub, List.nil_append, List.cons_append, nbk, List.map_cons, List.map_nil]; apply Trc.stp rfl rfl rfl; apply s_lit; apply PA.cons; exact rfl; exact rfl; exact rfl; exact PA.nil; exact rfl; omega; dsimp only [Nat.reduceAdd, Nat.reduceMul, Nat.reduceSub, List.nil_append, List.cons_append, nbk, List.map_cons, List.map_nil]
     apply Trc.stp rfl rfl rfl; apply s_app; exact rfl; exact rfl; exact rfl; apply rd_sl rfl; rfl; rfl; exact rfl; exact rfl
     rfl; omega; dsimp only [Nat.reduceAdd, Nat.reduceMul, Nat.reduceSub, List.nil_append, List.cons_append, nbk, List.map_cons, List.map_nil]; apply Trc.stp rfl rfl rfl; apply s_assign; exact rfl; dsimp only [Nat.reduceAdd, Nat.reduceMul, List.nil_append]
     exact Trc.done _ _ _; exact rfl; refine inBlk_n ?_; refine thn_n ?_; apply Gol.region; apply Trc.stp rfl rfl rfl; apply s_addn; exact rfl; exact rfl; decide; dsimp only [Nat.reduceAdd, Nat.reduceMul, List.nil_append]
     apply Trc.stp rfl rfl rfl; apply s_move; exact rfl; dsimp only [Nat.reduceAdd, Nat.reduceMul, List.nil_append]
     exact Trc.done _ _ _; exact rfl)
    refine rnd_n 1 (by omega) (by omega) ?_
    (apply Le.mk3' [(199, 296)]; apply RnT3.c; exact rfl; apply Rn3.r; exact Rn.v rfl; apply RnT3.c; exact rfl; apply Rn3.r; exact Rn.v rfl; apply RnT3.c; exact rfl
     apply Rn3.r; exact Rn.clo inferInstance rfl; apply RnT3.c; exact rfl; apply Rn3.r; exact Rn.sl rfl rfl; apply RnT3.c; exact rfl; apply Rn3.r; exact Rn.pt rfl rfl
     apply RnT3.c; exact rfl; apply Rn3.r; exact Rn.pt rfl rfl; exact RnT3.n; apply RnH3.c; exact rfl; exact rfl; apply RnC.cl; rfl; exact inferInstance; exact rfl
     exact rfl; apply RnH3.c; exact rfl; exact rfl; apply RnC.cl; rfl; exact inferInstance; exact rfl; exact rfl; apply RnH3.c; exact rfl; exact rfl; apply RnC.cl
     rfl; exact inferInstance; exact rfl; exact rfl; exact RnH3.n; exact rfl)
  have hge : ¬ j < 1 := of_decide_eq_false h
  obtain rfl : j = 1 := by omega
  (refine Gol.exit ?_; refine thn_x ?_; refine rnd_x ?_; refine inBlk_hit ?_; refine thn_n ?_
   refine Gol.seq ?_; refine Gol.seq ?_; apply Gol.region; apply Trc.stp rfl rfl rfl; apply s_fieldAddr
   exact rfl; dsimp only [Nat.reduceAdd, Nat.reduceMul, List.nil_append]; apply Trc.stp rfl rfl rfl; apply s_load; exact rfl; exact rfl; exact rfl; dsimp only [Nat.reduceAdd, Nat.reduceMul, List.nil_append]
   apply Trc.stp rfl rfl rfl; apply s_len; exact rfl; exact ln_ex; dsimp only [Nat.reduceAdd, Nat.reduceMul, List.nil_append]
   apply Trc.stp rfl rfl rfl; apply s_move; exact rfl; dsimp only [Nat.reduceAdd, Nat.reduceMul, List.nil_append]
   exact Trc.done _ _ _; exact rfl; refine thn_n ?_; refine Gol.block ?_)
  refine Gol.loop (ι := Nat) (fun j => j ≤ 1) (fun j => 1 - j) 200 (fun j => [(199, some ⟨dsA ([⟨1, 0, 0, 7⟩] ++ [⟨3, 0, 0, 3⟩].take j), 46, 11⟩), (0, some ⟨[.v (.int .i64 1), .v (.int .i64 3), .ex 1 false V, .ex 1 false A, .ex 1 false (inA [7])], 60, 5⟩), (8, some ⟨[.v (.slice none 0 0), .v (.slice none 0 0), .v (.slice none 0 0), .v (.slice none 0 0), .v (.int .i64 0)], 28, 5⟩)]) (fun j => [(31, .v (.int .i64 (j : Int))), (30, .v (.int .i64 ((1 : Nat) : Int))), (4, .sl 199 (1 + j)), (1, .pt 0 0), (2, .pt 8 0)]) 0 (Nat.zero_le _) ?_ ?_
  · (apply Le.mk3' []; apply RnT3.c; exact rfl; apply Rn3.r; exact Rn.v rfl; apply RnT3.c; exact rfl; apply Rn3.r; exact Rn.v rfl; apply RnT3.c; exact rfl
     apply Rn3.r; exact Rn.sl rfl rfl; apply RnT3.c; exact rfl; apply Rn3.r; exact Rn.pt rfl rfl; apply RnT3.c; exact rfl; apply Rn3.r; exact Rn.pt rfl rfl
     exact RnT3.n; apply RnH3.c; exact rfl; exact rfl; apply RnC.cl; rfl; exact inferInstance; exact rfl; exact rfl; apply RnH3.c; exact rfl; exact rfl; apply RnC.cl
     rfl; exact inferInstance; exact rfl; exact rfl; apply RnH3.c; exact rfl; exact rfl; apply RnC.cl; rfl; exact inferInstance; exact rfl; exact rfl; exact RnH3.n
     exact rfl)
  intro j hj
  (refine Gol.seq ?_; apply Gol.region; apply Trc.stp rfl rfl rfl; apply s_ltn; exact rfl
   exact rfl; dsimp only [Nat.reduceAdd, Nat.reduceMul, List.nil_append]; exact Trc.done _ _ _
   exact rfl; refine thn_n ?_; refine Gol.seq ?_)
  refine Gol.cond rfl (fun h => ?_) (fun h => ?_)
  · have hlt : j < 1 := of_decide_eq_true h
    obtain rfl : j = 0 := by omega
    (refine Gol.skip ?_; refine thn_n ?_; refine Gol.seq ?_; refine Gol.block ?_; refine Gol.seq ?_
     apply Gol.region; apply Trc.stp rfl rfl rfl; apply s_move; exact rfl; dsimp only [Nat.reduceAdd, Nat.reduceMul, List.nil_append]
     apply Trc.stp rfl rfl rfl; apply s_assign; exact rfl; dsimp only [Nat.reduceAdd, Nat.reduceMul, List.nil_append]
     exact Trc.done _ _ _; exact rfl; refine thn_n ?_; apply Gol.region; apply Trc.stp rfl rfl rfl; apply s_move
     exact rfl; dsimp only [Nat.reduceAdd, Nat.reduceMul, List.nil_append]; apply Trc.stp rfl rfl rfl; apply s_move; exact rfl; dsimp only [Nat.reduceAdd, Nat.reduceMul, List.nil_append]
     apply Trc.stp rfl rfl rfl; apply s_bld; exact rfl; (focus (dsimp only [splB, cuB, spl, cu, Value.cells, nameC, List.map, List.take, List.drop, List.append, List.length, List.cons_append, List.nil_append, Nat.reduceAdd, List.take_succ_cons, List.take_zero, List.drop_succ_cons, List.drop_zero, List.take_nil, List.drop_nil, List.append_nil, List.length_cons, List.length_nil]; done))
     dsimp only [Nat.reduceAdd, Nat.reduceMul, Nat.reduceSub, List.nil_append, List.cons_append, nbk, List.map_cons, List.map_nil]; apply Trc.stp rfl rfl rfl; apply s_fieldAddr; exact rfl; dsimp only [Nat.reduceAdd, Nat.reduceMul, List.nil_append]
     apply Trc.stp rfl rfl rfl; apply s_load; exact rfl; exact rfl; exact rfl; dsimp only [Nat.reduceAdd, Nat.reduceMul, List.nil_append]
     apply Trc.stp rfl rfl rfl; apply s_bld; exact rfl; (focus (dsimp only [splB, cuB, spl, cu, Value.cells, nameC, List.map, List.take, List.drop, List.append, List.length, List.cons_append, List.nil_append, Nat.reduceAdd, List.take_succ_cons, List.take_zero, List.drop_succ_cons, List.drop_zero, List.take_nil, List.drop_nil, List.append_nil, List.length_cons, List.length_nil]; done))
     dsimp only [Nat.reduceAdd, Nat.reduceMul, Nat.reduceSub, List.nil_append, List.cons_append, nbk, List.map_cons, List.map_nil]; apply Trc.stp rfl rfl rfl; apply s_lit; apply PA.cons; exact rfl; exact rfl; exact rfl; exact PA.nil; exact rfl; omega; dsimp only [Nat.reduceAdd, Nat.reduceMul, Nat.reduceSub, List.nil_append, List.cons_append, nbk, List.map_cons, List.map_nil]
     apply Trc.stp rfl rfl rfl; apply s_app; exact rfl; exact rfl; exact rfl; apply rd_sl rfl; rfl; rfl; exact rfl; exact rfl
     rfl; omega; dsimp only [Nat.reduceAdd, Nat.reduceMul, Nat.reduceSub, List.nil_append, List.cons_append, nbk, List.map_cons, List.map_nil]; apply Trc.stp rfl rfl rfl; apply s_assign; exact rfl; dsimp only [Nat.reduceAdd, Nat.reduceMul, List.nil_append]
     exact Trc.done _ _ _; exact rfl; refine inBlk_n ?_; refine thn_n ?_; apply Gol.region; apply Trc.stp rfl rfl rfl; apply s_addn; exact rfl; exact rfl; decide; dsimp only [Nat.reduceAdd, Nat.reduceMul, List.nil_append]
     apply Trc.stp rfl rfl rfl; apply s_move; exact rfl; dsimp only [Nat.reduceAdd, Nat.reduceMul, List.nil_append]
     exact Trc.done _ _ _; exact rfl)
    refine rnd_n 1 (by omega) (by omega) ?_
    (apply Le.mk3' [(199, 280)]; apply RnT3.c; exact rfl; apply Rn3.r; exact Rn.v rfl; apply RnT3.c; exact rfl; apply Rn3.r; exact Rn.v rfl; apply RnT3.c; exact rfl
     apply Rn3.r; exact Rn.sl rfl rfl; apply RnT3.c; exact rfl; apply Rn3.r; exact Rn.pt rfl rfl; apply RnT3.c; exact rfl; apply Rn3.r; exact Rn.pt rfl rfl
     exact RnT3.n; apply RnH3.c; exact rfl; exact rfl; apply RnC.cl; rfl; exact inferInstance; exact rfl; exact rfl; apply RnH3.c; exact rfl; exact rfl; apply RnC.cl
     rfl; exact inferInstance; exact rfl; exact rfl; apply RnH3.c; exact rfl; exact rfl; apply RnC.cl; rfl; exact inferInstance; exact rfl; exact rfl; exact RnH3.n
     exact rfl)
  have hge : ¬ j < 1 := of_decide_eq_false h
  obtain rfl : j = 1 := by omega
  (refine Gol.exit ?_; refine thn_x ?_; refine rnd_x ?_; refine inBlk_hit ?_; refine thn_n ?_
   refine Gol.seq ?_; apply Gol.region; apply Trc.stp rfl rfl rfl; apply s_fieldAddr; exact rfl
   dsimp only [Nat.reduceAdd, Nat.reduceMul, List.nil_append]; apply Trc.stp rfl rfl rfl; apply s_load; exact rfl; exact rfl; exact rfl; dsimp only [Nat.reduceAdd, Nat.reduceMul, List.nil_append]
   apply Trc.stp rfl rfl rfl; apply s_len; exact rfl; exact ln_ex; dsimp only [Nat.reduceAdd, Nat.reduceMul, List.nil_append]
   apply Trc.stp rfl rfl rfl; apply s_make; exact rfl; exact rfl; exact rfl; omega; omega; dsimp only [Nat.reduceAdd, Nat.reduceMul, Nat.reduceSub, List.nil_append, List.cons_append, nbk, List.map_cons, List.map_nil]
   apply Trc.stp rfl rfl rfl; apply s_bld; exact rfl; (focus (dsimp only [splB, cuB, spl, cu, Value.cells, nameC, List.map, List.take, List.drop, List.append, List.length, List.cons_append, List.nil_append, Nat.reduceAdd, List.take_succ_cons, List.take_zero, List.drop_succ_cons, List.drop_zero, List.take_nil, List.drop_nil, List.append_nil, List.length_cons, List.length_nil]; done))
   dsimp only [Nat.reduceAdd, Nat.reduceMul, Nat.reduceSub, List.nil_append, List.cons_append, nbk, List.map_cons, List.map_nil]; apply Trc.stp rfl rfl rfl; apply s_move; exact rfl; dsimp only [Nat.reduceAdd, Nat.reduceMul, List.nil_append]
   apply Trc.stp rfl rfl rfl; apply s_call (f := 55) rfl; apply evs.cons rfl; apply evs.cons rfl; exact evs.nil; apply ArgL.cons
   apply arg_ag; apply ArgL.cons; exact arg_clo; apply ArgL.cons; exact arg_sl rfl; apply ArgL.cons; exact arg_clo; apply ArgL.cons; exact arg_clo; apply ArgL.cons
   exact arg_clo; exact ArgL.nil; apply ArgL.cons; exact arg_sl rfl; exact ArgL.nil; exact hadd2; exact Nat.le_of_ble_eq_true rfl; dsimp only [Nat.reduceAdd, Nat.reduceMul, Nat.reduceSub, List.nil_append, List.cons_append, nbk, List.map_cons, List.map_nil]
   apply Trc.stepN rfl rfl; exact wnt_n rfl; apply s_storeW; exact rfl; exact rfl; exact rfl; exact rfl; rfl; exact rfl; dsimp only [Nat.reduceAdd, Nat.reduceMul, Nat.reduceSub, List.nil_append, List.cons_append, nbk, List.map_cons, List.map_nil]
   apply Trc.stp rfl rfl rfl; apply s_assign; exact rfl; dsimp only [Nat.reduceAdd, Nat.reduceMul, List.nil_append]
   exact Trc.done _ _ _; exact rfl; refine thn_n ?_; refine Gol.ret ?_)
  (apply RetQ.mkM (by first | exact .inr rfl | exact .inl rfl); apply res_2 rfl; exact res_cell rfl rfl rfl (agu_cua _); exact res_tmp rfl; apply out_ids [256, 257, 258, 259] rfl
   apply OBs.cons; exact rfl; exact inferInstance; apply OBs.cons; exact rfl; exact inferInstance; apply OBs.cons; exact rfl; exact inferInstance; apply OBs.cons
   exact rfl; exact inferInstance; exact OBs.nil; intro k; apply Ot.tpL; apply OtL.cons; apply Ot.agL; apply OtL.cons; exact Ot.sl (j := 0) rfl; apply OtL.cons
   exact Ot.sl (j := 1) rfl; apply OtL.cons; exact Ot.sl (j := 2) rfl; apply OtL.cons; exact Ot.sl (j := 3) rfl; apply OtL.cons; exact Ot.v inferInstance
   exact OtL.nil; apply OtL.cons; exact Ot.v inferInstance; exact OtL.nil)
theorem gen_ok : Fresh Tryz.prog 24 [] (fun k => .ag [.v (.int .i64 1), .v (.int .i64 3), .sl k 1, .sl (k + 1) 1, .sl (k + 2) 1]) [⟨[.v (.int .u8 1), .v (.int .u8 0), .v (.int .u8 0), .v (.int .u8 0), .v (.int .u8 0), .v (.int .u8 0), .v (.int .u8 0), .v (.int .u8 0)], 30, 8⟩, ⟨[.v (.int .u8 2), .v (.int .u8 0), .v (.int .u8 0), .v (.int .u8 0), .v (.int .u8 0), .v (.int .u8 0), .v (.int .u8 0), .v (.int .u8 0)], 30, 8⟩, ⟨inA [7], 3, 1⟩] := by
  refine Fresh.of (fn := Tryz.f24) Tryz.func24 rfl (Nat.le_of_ble_eq_true rfl) fun w => ?_
  (refine Gol.seq ?_; apply Gol.region; apply Trc.stp rfl rfl rfl; apply s_alloc; dsimp only [Nat.reduceAdd, Nat.reduceMul, Nat.reduceSub, List.nil_append, List.cons_append, nbk, List.map_cons, List.map_nil]
   exact Trc.done _ _ _; exact rfl; refine thn_n ?_; refine Gol.seq ?_; apply Gol.region; apply Trc.stp rfl rfl rfl; apply s_bld; exact rfl; (focus (dsimp only [splB, cuB, spl, cu, Value.cells, nameC, List.map, List.take, List.drop, List.append, List.length, List.cons_append, List.nil_append, Nat.reduceAdd, List.take_succ_cons, List.take_zero, List.drop_succ_cons, List.drop_zero, List.take_nil, List.drop_nil, List.append_nil, List.length_cons, List.length_nil]; done))
   dsimp only [Nat.reduceAdd, Nat.reduceMul, Nat.reduceSub, List.nil_append, List.cons_append, nbk, List.map_cons, List.map_nil]; apply Trc.stp rfl rfl rfl; apply s_lit; apply PA.cons; exact rfl; exact rfl; exact rfl; exact PA.nil; exact rfl; omega; dsimp only [Nat.reduceAdd, Nat.reduceMul, Nat.reduceSub, List.nil_append, List.cons_append, nbk, List.map_cons, List.map_nil]
   apply Trc.stp rfl rfl rfl; apply s_bld; exact rfl; (focus (dsimp only [splB, cuB, spl, cu, Value.cells, nameC, List.map, List.take, List.drop, List.append, List.length, List.cons_append, List.nil_append, Nat.reduceAdd, List.take_succ_cons, List.take_zero, List.drop_succ_cons, List.drop_zero, List.take_nil, List.drop_nil, List.append_nil, List.length_cons, List.length_nil]; done))
   dsimp only [Nat.reduceAdd, Nat.reduceMul, Nat.reduceSub, List.nil_append, List.cons_append, nbk, List.map_cons, List.map_nil]; apply Trc.stp rfl rfl rfl; apply s_lit; apply PA.cons; exact rfl; exact rfl; exact rfl; exact PA.nil; exact rfl; omega; dsimp only [Nat.reduceAdd, Nat.reduceMul, Nat.reduceSub, List.nil_append, List.cons_append, nbk, List.map_cons, List.map_nil]
   apply Trc.stp rfl rfl rfl; apply s_bytesP; apply PV.cons; exact rfl; exact rfl; exact rfl; exact PV.nil; exact rfl; omega
   dsimp only [Nat.reduceAdd, Nat.reduceMul, Nat.reduceSub, List.nil_append, List.cons_append, nbk, List.map_cons, List.map_nil]; apply Trc.stp rfl rfl rfl; apply s_bld; exact rfl; (focus (dsimp only [splB, cuB, spl, cu, Value.cells, nameC, List.map, List.take, List.drop, List.append, List.length, List.cons_append, List.nil_append, Nat.reduceAdd, List.take_succ_cons, List.take_zero, List.drop_succ_cons, List.drop_zero, List.take_nil, List.drop_nil, List.append_nil, List.length_cons, List.length_nil]; done))
   dsimp only [Nat.reduceAdd, Nat.reduceMul, Nat.reduceSub, List.nil_append, List.cons_append, nbk, List.map_cons, List.map_nil]; apply Trc.stepN rfl rfl
   exact wnt_n rfl; apply s_storeW; exact rfl; exact rfl; exact rfl; exact rfl; rfl; exact rfl; dsimp only [Nat.reduceAdd, Nat.reduceMul, Nat.reduceSub, List.nil_append, List.cons_append, nbk, List.map_cons, List.map_nil]
   exact Trc.done _ _ _; exact rfl; refine thn_n ?_; refine Gol.ret ?_)
  (apply RetQ.mkM (by first | exact .inr rfl | exact .inl rfl); apply res_1 rfl; exact res_cell rfl rfl rfl (agu_cua _); apply out_ids [16, 32, 40] rfl; apply OBs.cons
   exact rfl; exact inferInstance; apply OBs.cons; exact rfl; exact inferInstance; apply OBs.cons; exact rfl; exact inferInstance; exact OBs.nil; intro k
   apply Ot.agL; apply OtL.cons; exact Ot.v inferInstance; apply OtL.cons; exact Ot.v inferInstance; apply OtL.cons; exact Ot.sl (j := 0) rfl; apply OtL.cons
   exact Ot.sl (j := 1) rfl; apply OtL.cons; exact Ot.sl (j := 2) rfl; exact OtL.nil)
end Go.Proofs.YtkkeeokeihkagaaGreat

