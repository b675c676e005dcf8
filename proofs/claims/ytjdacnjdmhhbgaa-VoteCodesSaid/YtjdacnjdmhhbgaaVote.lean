/-
  Votes: what a vote is, Valid, SameKey, Conflict and the reference's. Conditions: none.
-/
import Derived.Test.YtjdacnjdmhhbgaaBri
set_option linter.unusedSimpArgs false
set_option linter.unusedVariables false
set_option linter.unusedSectionVars false
namespace Go.Proofs.Ytjdacnjdmhhbgaa
open Go.RowKit

structure Vt where
  kind : Int
  slot : Int
  round : Int
  choice : Int
  signer : Int
  support : Int
  parent : UInt64
  value : UInt64
deriving DecidableEq
def voteC (v : Vt) : Array Value := #[.int .i64 v.kind, .int .i64 v.slot, .int .i64 v.round, .int .i64 v.choice, .int .i64 v.signer, .int .i64 v.support,
  .int .u8 ((nb v.parent 7).toNat : Int), .int .u8 ((nb v.parent 6).toNat : Int), .int .u8 ((nb v.parent 5).toNat : Int), .int .u8 ((nb v.parent 4).toNat : Int), .int .u8 ((nb v.parent 3).toNat : Int), .int .u8 ((nb v.parent 2).toNat : Int), .int .u8 ((nb v.parent 1).toNat : Int), .int .u8 ((nb v.parent 0).toNat : Int),
  .int .u8 ((nb v.value 7).toNat : Int), .int .u8 ((nb v.value 6).toNat : Int), .int .u8 ((nb v.value 5).toNat : Int), .int .u8 ((nb v.value 4).toNat : Int), .int .u8 ((nb v.value 3).toNat : Int), .int .u8 ((nb v.value 2).toNat : Int), .int .u8 ((nb v.value 1).toNat : Int), .int .u8 ((nb v.value 0).toNat : Int)]
theorem vote_eq (a b : Vt) (w : World) : (Op.equal 26 (.agg (voteC a)) (.agg (voteC b))).run Try.prog w = .ok (decide (a = b)) w := by
  have hI := Try.underlying3
  have hM := Try.underlying22
  have hN := Try.underlying24
  have key : EqFs Try.prog w 9999 (voteC a) (voteC b) (Try.prog.fieldsOf 26).toList [a.kind == b.kind, a.slot == b.slot, a.round == b.round, a.choice == b.choice, a.signer == b.signer, a.support == b.support, a.parent == b.parent, a.value == b.value] := by
    simp only [Program.fieldsOf, Try.underlying26]
    refine .cons (by decide) (part_int hI rfl) (part_int hI rfl) (run_equalIn_int w _ _ _ _ _ _ hI) ?_
    refine .cons (by decide) (part_int hI rfl) (part_int hI rfl) (run_equalIn_int w _ _ _ _ _ _ hI) ?_
    refine .cons (by decide) (part_int hI rfl) (part_int hI rfl) (run_equalIn_int w _ _ _ _ _ _ hI) ?_
    refine .cons (by decide) (part_int hI rfl) (part_int hI rfl) (run_equalIn_int w _ _ _ _ _ _ hI) ?_
    refine .cons (by decide) (part_int hI rfl) (part_int hI rfl) (run_equalIn_int w _ _ _ _ _ _ hI) ?_
    refine .cons (by decide) (part_int hM rfl) (part_int hM rfl) (run_equalIn_int w _ _ _ _ _ _ hM) ?_
    refine .cons (by decide) (part_name (v := a.parent) hN (by kernel_rfl) rfl) (part_name (v := b.parent) hN (by kernel_rfl) rfl) (run_eq_name w 9997 hN (by kernel_rfl) Try.underlying5 (by kernel_rfl) _ _) ?_
    refine .cons (by decide) (part_name (v := a.value) hN (by kernel_rfl) rfl) (part_name (v := b.value) hN (by kernel_rfl) rfl) (run_eq_name w 9997 hN (by kernel_rfl) Try.underlying5 (by kernel_rfl) _ _) ?_
    exact .nil
  have h := run_equalIn_struct (P := Try.prog) w 9999 26 (voteC a) (voteC b) (by kernel_rfl) (by kernel_rfl)
  rw [key.run] at h
  refine h.trans ?_
  congr 1
  obtain ⟨a1, a2, a3, a4, a5, a6, a7, a8⟩ := a
  obtain ⟨b1, b2, b3, b4, b5, b6, b7, b8⟩ := b
  rw [Bool.eq_iff_iff]
  simp [Bool.and_eq_true]
instance (a b : Vt) : EqR Try.prog 26 (voteC a) (voteC b) (decide (a = b)) := ⟨by kernel_rfl, vote_eq a b⟩
theorem between_ok (n lo hi : Int) : Fresh Try.prog 26 [.v (.int .i64 n), .v (.int .i64 lo), .v (.int .i64 hi)] (fun _ => .v (.bool (decide (lo ≤ n ∧ n ≤ hi)))) [] := by
  by_cases h1 : lo ≤ n
  · rw [show decide (lo ≤ n ∧ n ≤ hi) = decide (n ≤ hi) by simp [h1]]
    refine Fresh.of (fn := Try.f26) Try.func26 rfl (Nat.le_of_ble_eq_true rfl) fun w => ?_
    ((with_reducible refine Gol.seq ?_); (with_reducible apply Gol.region); apply Trc.step rfl rfl; exact wnt_n rfl; (with_reducible apply s_assign); exact rfl
     dsimp only [Nat.reduceAdd, Nat.reduceMul, Nat.reduceSub, List.nil_append, List.cons_append, nbk, List.map_cons, List.map_nil]; exact Trc.done _ _ _; exact rfl
     (with_reducible refine thn_n ?_); (with_reducible refine Gol.seq ?_); (with_reducible apply Gol.region); apply Trc.step rfl rfl; exact wnt_n rfl; (with_reducible apply s_move)
     exact rfl; dsimp only [Nat.reduceAdd, Nat.reduceMul, Nat.reduceSub, List.nil_append, List.cons_append, nbk, List.map_cons, List.map_nil]; apply Trc.step rfl rfl
     exact wnt_n rfl; (with_reducible apply s_move); exact rfl; dsimp only [Nat.reduceAdd, Nat.reduceMul, Nat.reduceSub, List.nil_append, List.cons_append, nbk, List.map_cons, List.map_nil]
     apply Trc.step rfl rfl; exact wnt_n rfl; (with_reducible apply s_ge); exact rfl; exact rfl; dsimp only [Nat.reduceAdd, Nat.reduceMul, Nat.reduceSub, List.nil_append, List.cons_append, nbk, List.map_cons, List.map_nil]
     apply Trc.step rfl rfl; exact wnt_n rfl; (with_reducible apply s_move); exact rfl; dsimp only [Nat.reduceAdd, Nat.reduceMul, Nat.reduceSub, List.nil_append, List.cons_append, nbk, List.map_cons, List.map_nil]
     apply Trc.step rfl rfl; apply wnt_g; exact rfl; exact rfl; exact rfl; (focus (simp only [*]; rfl)); (with_reducible apply s_move); exact rfl; dsimp only [Nat.reduceAdd, Nat.reduceMul, Nat.reduceSub, List.nil_append, List.cons_append, nbk, List.map_cons, List.map_nil]
     apply Trc.step rfl rfl; apply wnt_g; exact rfl; exact rfl; exact rfl; (focus (simp only [*]; rfl)); (with_reducible apply s_move); exact rfl; dsimp only [Nat.reduceAdd, Nat.reduceMul, Nat.reduceSub, List.nil_append, List.cons_append, nbk, List.map_cons, List.map_nil]
     apply Trc.step rfl rfl; apply wnt_g; exact rfl; exact rfl; exact rfl; (focus (simp only [*]; rfl)); (with_reducible apply s_le); exact rfl; exact rfl
     dsimp only [Nat.reduceAdd, Nat.reduceMul, Nat.reduceSub, List.nil_append, List.cons_append, nbk, List.map_cons, List.map_nil]; apply Trc.step rfl rfl
     exact wnt_n rfl; (with_reducible apply s_pick_t); exact rfl; (focus (simp only [*]; rfl)); exact rfl; dsimp only [Nat.reduceAdd, Nat.reduceMul, Nat.reduceSub, List.nil_append, List.cons_append, nbk, List.map_cons, List.map_nil]
     apply Trc.step rfl rfl; exact wnt_n rfl; (with_reducible apply s_assign); exact rfl; dsimp only [Nat.reduceAdd, Nat.reduceMul, Nat.reduceSub, List.nil_append, List.cons_append, nbk, List.map_cons, List.map_nil]
     exact Trc.done _ _ _; exact rfl; (with_reducible refine thn_n ?_); (with_reducible refine Gol.ret ?_))
    (apply RetQ.mk (by first | exact .inr rfl | exact .inl rfl); apply res_1 rfl; exact res_tmp rfl; exact out_val)
  · rw [show decide (lo ≤ n ∧ n ≤ hi) = false by simp [h1]]
    refine Fresh.of (fn := Try.f26) Try.func26 rfl (Nat.le_of_ble_eq_true rfl) fun w => ?_
    ((with_reducible refine Gol.seq ?_); (with_reducible apply Gol.region); apply Trc.step rfl rfl; exact wnt_n rfl; (with_reducible apply s_assign); exact rfl
     dsimp only [Nat.reduceAdd, Nat.reduceMul, Nat.reduceSub, List.nil_append, List.cons_append, nbk, List.map_cons, List.map_nil]; exact Trc.done _ _ _; exact rfl
     (with_reducible refine thn_n ?_); (with_reducible refine Gol.seq ?_); (with_reducible apply Gol.region); apply Trc.step rfl rfl; exact wnt_n rfl; (with_reducible apply s_move)
     exact rfl; dsimp only [Nat.reduceAdd, Nat.reduceMul, Nat.reduceSub, List.nil_append, List.cons_append, nbk, List.map_cons, List.map_nil]; apply Trc.step rfl rfl
     exact wnt_n rfl; (with_reducible apply s_move); exact rfl; dsimp only [Nat.reduceAdd, Nat.reduceMul, Nat.reduceSub, List.nil_append, List.cons_append, nbk, List.map_cons, List.map_nil]
     apply Trc.step rfl rfl; exact wnt_n rfl; (with_reducible apply s_ge); exact rfl; exact rfl; dsimp only [Nat.reduceAdd, Nat.reduceMul, Nat.reduceSub, List.nil_append, List.cons_append, nbk, List.map_cons, List.map_nil]
     apply Trc.step rfl rfl; exact wnt_n rfl; (with_reducible apply s_move); exact rfl; dsimp only [Nat.reduceAdd, Nat.reduceMul, Nat.reduceSub, List.nil_append, List.cons_append, nbk, List.map_cons, List.map_nil]
     apply Trc.skip rfl rfl; apply wnt_g; exact rfl; exact rfl; exact rfl; (focus (simp only [*]; rfl)); dsimp only [Nat.reduceAdd, Nat.reduceMul, Nat.reduceSub, List.nil_append, List.cons_append, nbk, List.map_cons, List.map_nil]
     apply Trc.skip rfl rfl; apply wnt_g; exact rfl; exact rfl; exact rfl; (focus (simp only [*]; rfl)); dsimp only [Nat.reduceAdd, Nat.reduceMul, Nat.reduceSub, List.nil_append, List.cons_append, nbk, List.map_cons, List.map_nil]
     apply Trc.skip rfl rfl; apply wnt_g; exact rfl; exact rfl; exact rfl; (focus (simp only [*]; rfl)); dsimp only [Nat.reduceAdd, Nat.reduceMul, Nat.reduceSub, List.nil_append, List.cons_append, nbk, List.map_cons, List.map_nil]
     apply Trc.step rfl rfl; exact wnt_n rfl; (with_reducible apply s_pick_f); exact rfl; (focus (simp only [*]; rfl)); exact rfl; dsimp only [Nat.reduceAdd, Nat.reduceMul, Nat.reduceSub, List.nil_append, List.cons_append, nbk, List.map_cons, List.map_nil]
     apply Trc.step rfl rfl; exact wnt_n rfl; (with_reducible apply s_assign); exact rfl; dsimp only [Nat.reduceAdd, Nat.reduceMul, Nat.reduceSub, List.nil_append, List.cons_append, nbk, List.map_cons, List.map_nil]
     exact Trc.done _ _ _; exact rfl; (with_reducible refine thn_n ?_); (with_reducible refine Gol.ret ?_))
    (apply RetQ.mk (by first | exact .inr rfl | exact .inl rfl); apply res_1 rfl; exact res_tmp rfl; exact out_val)
def sameKey (a b : Vt) : Bool := decide (a.kind = b.kind ∧ a.parent = b.parent ∧ a.slot = b.slot ∧ a.round = b.round ∧ a.signer = b.signer)
theorem sameKey_ok (a b : Vt) : Fresh Try.prog 13 [.v (.agg (voteC a)), .v (.agg (voteC b))] (fun _ => .v (.bool (sameKey a b))) [] := by
  by_cases h1 : a.kind = b.kind
  · by_cases h2 : a.parent = b.parent
    · by_cases h3 : a.slot = b.slot
      · by_cases h4 : a.round = b.round
        · apply Fresh.bool
          · refine Fresh.of (fn := Try.f13) Try.func13 rfl (Nat.le_of_ble_eq_true rfl) fun w => ?_
            ((with_reducible refine Gol.seq ?_); (with_reducible apply Gol.region); apply Trc.step rfl rfl; exact wnt_n rfl; (with_reducible apply s_box); exact rfl
             exact rfl; dsimp only [Nat.reduceAdd, Nat.reduceMul, Nat.reduceSub, List.nil_append, List.cons_append, nbk, List.map_cons, List.map_nil]; apply Trc.step rfl rfl
             exact wnt_n rfl; (with_reducible apply s_box); exact rfl; exact rfl; dsimp only [Nat.reduceAdd, Nat.reduceMul, Nat.reduceSub, List.nil_append, List.cons_append, nbk, List.map_cons, List.map_nil]
             apply Trc.step rfl rfl; exact wnt_n rfl; (with_reducible apply s_assign); exact rfl; dsimp only [Nat.reduceAdd, Nat.reduceMul, Nat.reduceSub, List.nil_append, List.cons_append, nbk, List.map_cons, List.map_nil]
             exact Trc.done _ _ _; exact rfl; (with_reducible refine thn_n ?_); (with_reducible refine Gol.seq ?_); (with_reducible apply Gol.region); apply Trc.step rfl rfl
             exact wnt_n rfl; (with_reducible apply s_fieldAddr); exact rfl; dsimp only [Nat.reduceAdd, Nat.reduceMul, Nat.reduceSub, List.nil_append, List.cons_append, nbk, List.map_cons, List.map_nil]
             apply Trc.step rfl rfl; exact wnt_n rfl; (with_reducible apply s_load); exact rfl; exact rfl; exact rfl; dsimp only [Nat.reduceAdd, Nat.reduceMul, Nat.reduceSub, List.nil_append, List.cons_append, nbk, List.map_cons, List.map_nil]
             apply Trc.step rfl rfl; exact wnt_n rfl; (with_reducible apply s_fieldAddr); exact rfl; dsimp only [Nat.reduceAdd, Nat.reduceMul, Nat.reduceSub, List.nil_append, List.cons_append, nbk, List.map_cons, List.map_nil]
             apply Trc.step rfl rfl; exact wnt_n rfl; (with_reducible apply s_load); exact rfl; exact rfl; exact rfl; dsimp only [Nat.reduceAdd, Nat.reduceMul, Nat.reduceSub, List.nil_append, List.cons_append, nbk, List.map_cons, List.map_nil]
             apply Trc.step rfl rfl; exact wnt_n rfl; (with_reducible apply s_eq); exact rfl; exact rfl; dsimp only [Nat.reduceAdd, Nat.reduceMul, Nat.reduceSub, List.nil_append, List.cons_append, nbk, List.map_cons, List.map_nil]
             apply Trc.step rfl rfl; exact wnt_n rfl; (with_reducible apply s_move); exact rfl; dsimp only [Nat.reduceAdd, Nat.reduceMul, Nat.reduceSub, List.nil_append, List.cons_append, nbk, List.map_cons, List.map_nil]
             apply Trc.step rfl rfl; apply wnt_g; exact rfl; exact rfl; exact rfl; (focus (simp only [*]; rfl)); (with_reducible apply s_fieldAddr); exact rfl; dsimp only [Nat.reduceAdd, Nat.reduceMul, Nat.reduceSub, List.nil_append, List.cons_append, nbk, List.map_cons, List.map_nil]
             apply Trc.step rfl rfl; apply wnt_g; exact rfl; exact rfl; exact rfl; (focus (simp only [*]; rfl)); (with_reducible apply s_loadN); exact rfl; exact rfl
             exact Nat.le_of_ble_eq_true rfl; exact agu_nm8 rfl; dsimp only [Nat.reduceAdd, Nat.reduceMul, Nat.reduceSub, List.nil_append, List.cons_append, nbk, List.map_cons, List.map_nil]
             apply Trc.step rfl rfl; apply wnt_g; exact rfl; exact rfl; exact rfl; (focus (simp only [*]; rfl)); (with_reducible apply s_fieldAddr); exact rfl; dsimp only [Nat.reduceAdd, Nat.reduceMul, Nat.reduceSub, List.nil_append, List.cons_append, nbk, List.map_cons, List.map_nil]
             apply Trc.step rfl rfl; apply wnt_g; exact rfl; exact rfl; exact rfl; (focus (simp only [*]; rfl)); (with_reducible apply s_loadN); exact rfl; exact rfl
             exact Nat.le_of_ble_eq_true rfl; exact agu_nm8 rfl; dsimp only [Nat.reduceAdd, Nat.reduceMul, Nat.reduceSub, List.nil_append, List.cons_append, nbk, List.map_cons, List.map_nil]
             apply Trc.step rfl rfl; apply wnt_g; exact rfl; exact rfl; exact rfl; (focus (simp only [*]; rfl)); (with_reducible apply s_eqN); exact rfl; exact rfl
             dsimp only [Nat.reduceAdd, Nat.reduceMul, Nat.reduceSub, List.nil_append, List.cons_append, nbk, List.map_cons, List.map_nil]; apply Trc.step rfl rfl
             exact wnt_n rfl; (with_reducible apply s_pick_t); exact rfl; (focus (simp only [*]; rfl)); exact rfl; dsimp only [Nat.reduceAdd, Nat.reduceMul, Nat.reduceSub, List.nil_append, List.cons_append, nbk, List.map_cons, List.map_nil]
             apply Trc.step rfl rfl; exact wnt_n rfl; (with_reducible apply s_move); exact rfl; dsimp only [Nat.reduceAdd, Nat.reduceMul, Nat.reduceSub, List.nil_append, List.cons_append, nbk, List.map_cons, List.map_nil]
             apply Trc.step rfl rfl; apply wnt_g; exact rfl; exact rfl; exact rfl; (focus (simp [*]; done)); (with_reducible apply s_fieldAddr); exact rfl; dsimp only [Nat.reduceAdd, Nat.reduceMul, Nat.reduceSub, List.nil_append, List.cons_append, nbk, List.map_cons, List.map_nil]
             apply Trc.step rfl rfl; apply wnt_g; exact rfl; exact rfl; exact rfl; (focus (simp [*]; done)); (with_reducible apply s_load); exact rfl; exact rfl; exact rfl
             dsimp only [Nat.reduceAdd, Nat.reduceMul, Nat.reduceSub, List.nil_append, List.cons_append, nbk, List.map_cons, List.map_nil]; apply Trc.step rfl rfl
             apply wnt_g; exact rfl; exact rfl; exact rfl; (focus (simp [*]; done)); (with_reducible apply s_fieldAddr); exact rfl; dsimp only [Nat.reduceAdd, Nat.reduceMul, Nat.reduceSub, List.nil_append, List.cons_append, nbk, List.map_cons, List.map_nil]
             apply Trc.step rfl rfl; apply wnt_g; exact rfl; exact rfl; exact rfl; (focus (simp [*]; done)); (with_reducible apply s_load); exact rfl; exact rfl; exact rfl
             dsimp only [Nat.reduceAdd, Nat.reduceMul, Nat.reduceSub, List.nil_append, List.cons_append, nbk, List.map_cons, List.map_nil]; apply Trc.step rfl rfl
             apply wnt_g; exact rfl; exact rfl; exact rfl; (focus (simp [*]; done)); (with_reducible apply s_eq); exact rfl; exact rfl; dsimp only [Nat.reduceAdd, Nat.reduceMul, Nat.reduceSub, List.nil_append, List.cons_append, nbk, List.map_cons, List.map_nil]
             apply Trc.step rfl rfl; exact wnt_n rfl; (with_reducible apply s_pick_t); exact rfl; (focus (simp [*]; done)); exact rfl; dsimp only [Nat.reduceAdd, Nat.reduceMul, Nat.reduceSub, List.nil_append, List.cons_append, nbk, List.map_cons, List.map_nil]
             apply Trc.step rfl rfl; exact wnt_n rfl; (with_reducible apply s_move); exact rfl; dsimp only [Nat.reduceAdd, Nat.reduceMul, Nat.reduceSub, List.nil_append, List.cons_append, nbk, List.map_cons, List.map_nil]
             apply Trc.step rfl rfl; apply wnt_g; exact rfl; exact rfl; exact rfl; (focus (simp only [*]; rfl)); (with_reducible apply s_fieldAddr); exact rfl; dsimp only [Nat.reduceAdd, Nat.reduceMul, Nat.reduceSub, List.nil_append, List.cons_append, nbk, List.map_cons, List.map_nil]
             apply Trc.step rfl rfl; apply wnt_g; exact rfl; exact rfl; exact rfl; (focus (simp only [*]; rfl)); (with_reducible apply s_load); exact rfl; exact rfl
             exact rfl; dsimp only [Nat.reduceAdd, Nat.reduceMul, Nat.reduceSub, List.nil_append, List.cons_append, nbk, List.map_cons, List.map_nil]; apply Trc.step rfl rfl
             apply wnt_g; exact rfl; exact rfl; exact rfl; (focus (simp only [*]; rfl)); (with_reducible apply s_fieldAddr); exact rfl; dsimp only [Nat.reduceAdd, Nat.reduceMul, Nat.reduceSub, List.nil_append, List.cons_append, nbk, List.map_cons, List.map_nil]
             apply Trc.step rfl rfl; apply wnt_g; exact rfl; exact rfl; exact rfl; (focus (simp only [*]; rfl)); (with_reducible apply s_load); exact rfl; exact rfl
             exact rfl; dsimp only [Nat.reduceAdd, Nat.reduceMul, Nat.reduceSub, List.nil_append, List.cons_append, nbk, List.map_cons, List.map_nil]; apply Trc.step rfl rfl
             apply wnt_g; exact rfl; exact rfl; exact rfl; (focus (simp only [*]; rfl)); (with_reducible apply s_eq); exact rfl; exact rfl; dsimp only [Nat.reduceAdd, Nat.reduceMul, Nat.reduceSub, List.nil_append, List.cons_append, nbk, List.map_cons, List.map_nil]
             apply Trc.step rfl rfl; exact wnt_n rfl; (with_reducible apply s_pick_t); exact rfl; (focus (simp only [*]; rfl)); exact rfl; dsimp only [Nat.reduceAdd, Nat.reduceMul, Nat.reduceSub, List.nil_append, List.cons_append, nbk, List.map_cons, List.map_nil]
             apply Trc.step rfl rfl; exact wnt_n rfl; (with_reducible apply s_move); exact rfl; dsimp only [Nat.reduceAdd, Nat.reduceMul, Nat.reduceSub, List.nil_append, List.cons_append, nbk, List.map_cons, List.map_nil]
             apply Trc.step rfl rfl; apply wnt_g; exact rfl; exact rfl; exact rfl; (focus (simp only [*]; rfl)); (with_reducible apply s_fieldAddr); exact rfl; dsimp only [Nat.reduceAdd, Nat.reduceMul, Nat.reduceSub, List.nil_append, List.cons_append, nbk, List.map_cons, List.map_nil]
             apply Trc.step rfl rfl; apply wnt_g; exact rfl; exact rfl; exact rfl; (focus (simp only [*]; rfl)); (with_reducible apply s_load); exact rfl; exact rfl
             exact rfl; dsimp only [Nat.reduceAdd, Nat.reduceMul, Nat.reduceSub, List.nil_append, List.cons_append, nbk, List.map_cons, List.map_nil]; apply Trc.step rfl rfl
             apply wnt_g; exact rfl; exact rfl; exact rfl; (focus (simp only [*]; rfl)); (with_reducible apply s_fieldAddr); exact rfl; dsimp only [Nat.reduceAdd, Nat.reduceMul, Nat.reduceSub, List.nil_append, List.cons_append, nbk, List.map_cons, List.map_nil]
             apply Trc.step rfl rfl; apply wnt_g; exact rfl; exact rfl; exact rfl; (focus (simp only [*]; rfl)); (with_reducible apply s_load); exact rfl; exact rfl
             exact rfl; dsimp only [Nat.reduceAdd, Nat.reduceMul, Nat.reduceSub, List.nil_append, List.cons_append, nbk, List.map_cons, List.map_nil]; apply Trc.step rfl rfl
             apply wnt_g; exact rfl; exact rfl; exact rfl; (focus (simp only [*]; rfl)); (with_reducible apply s_eq); exact rfl; exact rfl; dsimp only [Nat.reduceAdd, Nat.reduceMul, Nat.reduceSub, List.nil_append, List.cons_append, nbk, List.map_cons, List.map_nil]
             apply Trc.step rfl rfl; exact wnt_n rfl; (with_reducible apply s_pick_t); exact rfl; (focus (simp only [*]; rfl)); exact rfl; dsimp only [Nat.reduceAdd, Nat.reduceMul, Nat.reduceSub, List.nil_append, List.cons_append, nbk, List.map_cons, List.map_nil]
             apply Trc.step rfl rfl; exact wnt_n rfl; (with_reducible apply s_assign); exact rfl; dsimp only [Nat.reduceAdd, Nat.reduceMul, Nat.reduceSub, List.nil_append, List.cons_append, nbk, List.map_cons, List.map_nil]
             exact Trc.done _ _ _; exact rfl; (with_reducible refine thn_n ?_); (with_reducible refine Gol.ret ?_))
            (apply RetQ.mk (by first | exact .inr rfl | exact .inl rfl); apply res_1 rfl; exact res_tmp rfl; exact out_val)
          · simp [sameKey, *]
        · apply Fresh.bool
          · refine Fresh.of (fn := Try.f13) Try.func13 rfl (Nat.le_of_ble_eq_true rfl) fun w => ?_
            ((with_reducible refine Gol.seq ?_); (with_reducible apply Gol.region); apply Trc.step rfl rfl; exact wnt_n rfl; (with_reducible apply s_box); exact rfl
             exact rfl; dsimp only [Nat.reduceAdd, Nat.reduceMul, Nat.reduceSub, List.nil_append, List.cons_append, nbk, List.map_cons, List.map_nil]; apply Trc.step rfl rfl
             exact wnt_n rfl; (with_reducible apply s_box); exact rfl; exact rfl; dsimp only [Nat.reduceAdd, Nat.reduceMul, Nat.reduceSub, List.nil_append, List.cons_append, nbk, List.map_cons, List.map_nil]
             apply Trc.step rfl rfl; exact wnt_n rfl; (with_reducible apply s_assign); exact rfl; dsimp only [Nat.reduceAdd, Nat.reduceMul, Nat.reduceSub, List.nil_append, List.cons_append, nbk, List.map_cons, List.map_nil]
             exact Trc.done _ _ _; exact rfl; (with_reducible refine thn_n ?_); (with_reducible refine Gol.seq ?_); (with_reducible apply Gol.region); apply Trc.step rfl rfl
             exact wnt_n rfl; (with_reducible apply s_fieldAddr); exact rfl; dsimp only [Nat.reduceAdd, Nat.reduceMul, Nat.reduceSub, List.nil_append, List.cons_append, nbk, List.map_cons, List.map_nil]
             apply Trc.step rfl rfl; exact wnt_n rfl; (with_reducible apply s_load); exact rfl; exact rfl; exact rfl; dsimp only [Nat.reduceAdd, Nat.reduceMul, Nat.reduceSub, List.nil_append, List.cons_append, nbk, List.map_cons, List.map_nil]
             apply Trc.step rfl rfl; exact wnt_n rfl; (with_reducible apply s_fieldAddr); exact rfl; dsimp only [Nat.reduceAdd, Nat.reduceMul, Nat.reduceSub, List.nil_append, List.cons_append, nbk, List.map_cons, List.map_nil]
             apply Trc.step rfl rfl; exact wnt_n rfl; (with_reducible apply s_load); exact rfl; exact rfl; exact rfl; dsimp only [Nat.reduceAdd, Nat.reduceMul, Nat.reduceSub, List.nil_append, List.cons_append, nbk, List.map_cons, List.map_nil]
             apply Trc.step rfl rfl; exact wnt_n rfl; (with_reducible apply s_eq); exact rfl; exact rfl; dsimp only [Nat.reduceAdd, Nat.reduceMul, Nat.reduceSub, List.nil_append, List.cons_append, nbk, List.map_cons, List.map_nil]
             apply Trc.step rfl rfl; exact wnt_n rfl; (with_reducible apply s_move); exact rfl; dsimp only [Nat.reduceAdd, Nat.reduceMul, Nat.reduceSub, List.nil_append, List.cons_append, nbk, List.map_cons, List.map_nil]
             apply Trc.step rfl rfl; apply wnt_g; exact rfl; exact rfl; exact rfl; (focus (simp only [*]; rfl)); (with_reducible apply s_fieldAddr); exact rfl; dsimp only [Nat.reduceAdd, Nat.reduceMul, Nat.reduceSub, List.nil_append, List.cons_append, nbk, List.map_cons, List.map_nil]
             apply Trc.step rfl rfl; apply wnt_g; exact rfl; exact rfl; exact rfl; (focus (simp only [*]; rfl)); (with_reducible apply s_loadN); exact rfl; exact rfl
             exact Nat.le_of_ble_eq_true rfl; exact agu_nm8 rfl; dsimp only [Nat.reduceAdd, Nat.reduceMul, Nat.reduceSub, List.nil_append, List.cons_append, nbk, List.map_cons, List.map_nil]
             apply Trc.step rfl rfl; apply wnt_g; exact rfl; exact rfl; exact rfl; (focus (simp only [*]; rfl)); (with_reducible apply s_fieldAddr); exact rfl; dsimp only [Nat.reduceAdd, Nat.reduceMul, Nat.reduceSub, List.nil_append, List.cons_append, nbk, List.map_cons, List.map_nil]
             apply Trc.step rfl rfl; apply wnt_g; exact rfl; exact rfl; exact rfl; (focus (simp only [*]; rfl)); (with_reducible apply s_loadN); exact rfl; exact rfl
             exact Nat.le_of_ble_eq_true rfl; exact agu_nm8 rfl; dsimp only [Nat.reduceAdd, Nat.reduceMul, Nat.reduceSub, List.nil_append, List.cons_append, nbk, List.map_cons, List.map_nil]
             apply Trc.step rfl rfl; apply wnt_g; exact rfl; exact rfl; exact rfl; (focus (simp only [*]; rfl)); (with_reducible apply s_eqN); exact rfl; exact rfl
             dsimp only [Nat.reduceAdd, Nat.reduceMul, Nat.reduceSub, List.nil_append, List.cons_append, nbk, List.map_cons, List.map_nil]; apply Trc.step rfl rfl
             exact wnt_n rfl; (with_reducible apply s_pick_t); exact rfl; (focus (simp only [*]; rfl)); exact rfl; dsimp only [Nat.reduceAdd, Nat.reduceMul, Nat.reduceSub, List.nil_append, List.cons_append, nbk, List.map_cons, List.map_nil]
             apply Trc.step rfl rfl; exact wnt_n rfl; (with_reducible apply s_move); exact rfl; dsimp only [Nat.reduceAdd, Nat.reduceMul, Nat.reduceSub, List.nil_append, List.cons_append, nbk, List.map_cons, List.map_nil]
             apply Trc.step rfl rfl; apply wnt_g; exact rfl; exact rfl; exact rfl; (focus (simp [*]; done)); (with_reducible apply s_fieldAddr); exact rfl; dsimp only [Nat.reduceAdd, Nat.reduceMul, Nat.reduceSub, List.nil_append, List.cons_append, nbk, List.map_cons, List.map_nil]
             apply Trc.step rfl rfl; apply wnt_g; exact rfl; exact rfl; exact rfl; (focus (simp [*]; done)); (with_reducible apply s_load); exact rfl; exact rfl; exact rfl
             dsimp only [Nat.reduceAdd, Nat.reduceMul, Nat.reduceSub, List.nil_append, List.cons_append, nbk, List.map_cons, List.map_nil]; apply Trc.step rfl rfl
             apply wnt_g; exact rfl; exact rfl; exact rfl; (focus (simp [*]; done)); (with_reducible apply s_fieldAddr); exact rfl; dsimp only [Nat.reduceAdd, Nat.reduceMul, Nat.reduceSub, List.nil_append, List.cons_append, nbk, List.map_cons, List.map_nil]
             apply Trc.step rfl rfl; apply wnt_g; exact rfl; exact rfl; exact rfl; (focus (simp [*]; done)); (with_reducible apply s_load); exact rfl; exact rfl; exact rfl
             dsimp only [Nat.reduceAdd, Nat.reduceMul, Nat.reduceSub, List.nil_append, List.cons_append, nbk, List.map_cons, List.map_nil]; apply Trc.step rfl rfl
             apply wnt_g; exact rfl; exact rfl; exact rfl; (focus (simp [*]; done)); (with_reducible apply s_eq); exact rfl; exact rfl; dsimp only [Nat.reduceAdd, Nat.reduceMul, Nat.reduceSub, List.nil_append, List.cons_append, nbk, List.map_cons, List.map_nil]
             apply Trc.step rfl rfl; exact wnt_n rfl; (with_reducible apply s_pick_t); exact rfl; (focus (simp [*]; done)); exact rfl; dsimp only [Nat.reduceAdd, Nat.reduceMul, Nat.reduceSub, List.nil_append, List.cons_append, nbk, List.map_cons, List.map_nil]
             apply Trc.step rfl rfl; exact wnt_n rfl; (with_reducible apply s_move); exact rfl; dsimp only [Nat.reduceAdd, Nat.reduceMul, Nat.reduceSub, List.nil_append, List.cons_append, nbk, List.map_cons, List.map_nil]
             apply Trc.step rfl rfl; apply wnt_g; exact rfl; exact rfl; exact rfl; (focus (simp only [*]; rfl)); (with_reducible apply s_fieldAddr); exact rfl; dsimp only [Nat.reduceAdd, Nat.reduceMul, Nat.reduceSub, List.nil_append, List.cons_append, nbk, List.map_cons, List.map_nil]
             apply Trc.step rfl rfl; apply wnt_g; exact rfl; exact rfl; exact rfl; (focus (simp only [*]; rfl)); (with_reducible apply s_load); exact rfl; exact rfl
             exact rfl; dsimp only [Nat.reduceAdd, Nat.reduceMul, Nat.reduceSub, List.nil_append, List.cons_append, nbk, List.map_cons, List.map_nil]; apply Trc.step rfl rfl
             apply wnt_g; exact rfl; exact rfl; exact rfl; (focus (simp only [*]; rfl)); (with_reducible apply s_fieldAddr); exact rfl; dsimp only [Nat.reduceAdd, Nat.reduceMul, Nat.reduceSub, List.nil_append, List.cons_append, nbk, List.map_cons, List.map_nil]
             apply Trc.step rfl rfl; apply wnt_g; exact rfl; exact rfl; exact rfl; (focus (simp only [*]; rfl)); (with_reducible apply s_load); exact rfl; exact rfl
             exact rfl; dsimp only [Nat.reduceAdd, Nat.reduceMul, Nat.reduceSub, List.nil_append, List.cons_append, nbk, List.map_cons, List.map_nil]; apply Trc.step rfl rfl
             apply wnt_g; exact rfl; exact rfl; exact rfl; (focus (simp only [*]; rfl)); (with_reducible apply s_eq); exact rfl; exact rfl; dsimp only [Nat.reduceAdd, Nat.reduceMul, Nat.reduceSub, List.nil_append, List.cons_append, nbk, List.map_cons, List.map_nil]
             apply Trc.step rfl rfl; exact wnt_n rfl; (with_reducible apply s_pick_t); exact rfl; (focus (simp only [*]; rfl)); exact rfl; dsimp only [Nat.reduceAdd, Nat.reduceMul, Nat.reduceSub, List.nil_append, List.cons_append, nbk, List.map_cons, List.map_nil]
             apply Trc.step rfl rfl; exact wnt_n rfl; (with_reducible apply s_move); exact rfl; dsimp only [Nat.reduceAdd, Nat.reduceMul, Nat.reduceSub, List.nil_append, List.cons_append, nbk, List.map_cons, List.map_nil]
             apply Trc.skip rfl rfl; apply wnt_g; exact rfl; exact rfl; exact rfl; (focus (simp only [*]; rfl)); dsimp only [Nat.reduceAdd, Nat.reduceMul, Nat.reduceSub, List.nil_append, List.cons_append, nbk, List.map_cons, List.map_nil]
             apply Trc.skip rfl rfl; apply wnt_g; exact rfl; exact rfl; exact rfl; (focus (simp only [*]; rfl)); dsimp only [Nat.reduceAdd, Nat.reduceMul, Nat.reduceSub, List.nil_append, List.cons_append, nbk, List.map_cons, List.map_nil]
             apply Trc.skip rfl rfl; apply wnt_g; exact rfl; exact rfl; exact rfl; (focus (simp only [*]; rfl)); dsimp only [Nat.reduceAdd, Nat.reduceMul, Nat.reduceSub, List.nil_append, List.cons_append, nbk, List.map_cons, List.map_nil]
             apply Trc.skip rfl rfl; apply wnt_g; exact rfl; exact rfl; exact rfl; (focus (simp only [*]; rfl)); dsimp only [Nat.reduceAdd, Nat.reduceMul, Nat.reduceSub, List.nil_append, List.cons_append, nbk, List.map_cons, List.map_nil]
             apply Trc.skip rfl rfl; apply wnt_g; exact rfl; exact rfl; exact rfl; (focus (simp only [*]; rfl)); dsimp only [Nat.reduceAdd, Nat.reduceMul, Nat.reduceSub, List.nil_append, List.cons_append, nbk, List.map_cons, List.map_nil]
             apply Trc.step rfl rfl; exact wnt_n rfl; (with_reducible apply s_pick_f); exact rfl; (focus (simp only [*]; rfl)); exact rfl; dsimp only [Nat.reduceAdd, Nat.reduceMul, Nat.reduceSub, List.nil_append, List.cons_append, nbk, List.map_cons, List.map_nil]
             apply Trc.step rfl rfl; exact wnt_n rfl; (with_reducible apply s_assign); exact rfl; dsimp only [Nat.reduceAdd, Nat.reduceMul, Nat.reduceSub, List.nil_append, List.cons_append, nbk, List.map_cons, List.map_nil]
             exact Trc.done _ _ _; exact rfl; (with_reducible refine thn_n ?_); (with_reducible refine Gol.ret ?_))
            (apply RetQ.mk (by first | exact .inr rfl | exact .inl rfl); apply res_1 rfl; exact res_tmp rfl; exact out_val)
          · simp [sameKey, *]
      · apply Fresh.bool
        · refine Fresh.of (fn := Try.f13) Try.func13 rfl (Nat.le_of_ble_eq_true rfl) fun w => ?_
          ((with_reducible refine Gol.seq ?_); (with_reducible apply Gol.region); apply Trc.step rfl rfl; exact wnt_n rfl; (with_reducible apply s_box); exact rfl
           exact rfl; dsimp only [Nat.reduceAdd, Nat.reduceMul, Nat.reduceSub, List.nil_append, List.cons_append, nbk, List.map_cons, List.map_nil]; apply Trc.step rfl rfl
           exact wnt_n rfl; (with_reducible apply s_box); exact rfl; exact rfl; dsimp only [Nat.reduceAdd, Nat.reduceMul, Nat.reduceSub, List.nil_append, List.cons_append, nbk, List.map_cons, List.map_nil]
           apply Trc.step rfl rfl; exact wnt_n rfl; (with_reducible apply s_assign); exact rfl; dsimp only [Nat.reduceAdd, Nat.reduceMul, Nat.reduceSub, List.nil_append, List.cons_append, nbk, List.map_cons, List.map_nil]
           exact Trc.done _ _ _; exact rfl; (with_reducible refine thn_n ?_); (with_reducible refine Gol.seq ?_); (with_reducible apply Gol.region); apply Trc.step rfl rfl
           exact wnt_n rfl; (with_reducible apply s_fieldAddr); exact rfl; dsimp only [Nat.reduceAdd, Nat.reduceMul, Nat.reduceSub, List.nil_append, List.cons_append, nbk, List.map_cons, List.map_nil]
           apply Trc.step rfl rfl; exact wnt_n rfl; (with_reducible apply s_load); exact rfl; exact rfl; exact rfl; dsimp only [Nat.reduceAdd, Nat.reduceMul, Nat.reduceSub, List.nil_append, List.cons_append, nbk, List.map_cons, List.map_nil]
           apply Trc.step rfl rfl; exact wnt_n rfl; (with_reducible apply s_fieldAddr); exact rfl; dsimp only [Nat.reduceAdd, Nat.reduceMul, Nat.reduceSub, List.nil_append, List.cons_append, nbk, List.map_cons, List.map_nil]
           apply Trc.step rfl rfl; exact wnt_n rfl; (with_reducible apply s_load); exact rfl; exact rfl; exact rfl; dsimp only [Nat.reduceAdd, Nat.reduceMul, Nat.reduceSub, List.nil_append, List.cons_append, nbk, List.map_cons, List.map_nil]
           apply Trc.step rfl rfl; exact wnt_n rfl; (with_reducible apply s_eq); exact rfl; exact rfl; dsimp only [Nat.reduceAdd, Nat.reduceMul, Nat.reduceSub, List.nil_append, List.cons_append, nbk, List.map_cons, List.map_nil]
           apply Trc.step rfl rfl; exact wnt_n rfl; (with_reducible apply s_move); exact rfl; dsimp only [Nat.reduceAdd, Nat.reduceMul, Nat.reduceSub, List.nil_append, List.cons_append, nbk, List.map_cons, List.map_nil]
           apply Trc.step rfl rfl; apply wnt_g; exact rfl; exact rfl; exact rfl; (focus (simp only [*]; rfl)); (with_reducible apply s_fieldAddr); exact rfl; dsimp only [Nat.reduceAdd, Nat.reduceMul, Nat.reduceSub, List.nil_append, List.cons_append, nbk, List.map_cons, List.map_nil]
           apply Trc.step rfl rfl; apply wnt_g; exact rfl; exact rfl; exact rfl; (focus (simp only [*]; rfl)); (with_reducible apply s_loadN); exact rfl; exact rfl
           exact Nat.le_of_ble_eq_true rfl; exact agu_nm8 rfl; dsimp only [Nat.reduceAdd, Nat.reduceMul, Nat.reduceSub, List.nil_append, List.cons_append, nbk, List.map_cons, List.map_nil]
           apply Trc.step rfl rfl; apply wnt_g; exact rfl; exact rfl; exact rfl; (focus (simp only [*]; rfl)); (with_reducible apply s_fieldAddr); exact rfl; dsimp only [Nat.reduceAdd, Nat.reduceMul, Nat.reduceSub, List.nil_append, List.cons_append, nbk, List.map_cons, List.map_nil]
           apply Trc.step rfl rfl; apply wnt_g; exact rfl; exact rfl; exact rfl; (focus (simp only [*]; rfl)); (with_reducible apply s_loadN); exact rfl; exact rfl
           exact Nat.le_of_ble_eq_true rfl; exact agu_nm8 rfl; dsimp only [Nat.reduceAdd, Nat.reduceMul, Nat.reduceSub, List.nil_append, List.cons_append, nbk, List.map_cons, List.map_nil]
           apply Trc.step rfl rfl; apply wnt_g; exact rfl; exact rfl; exact rfl; (focus (simp only [*]; rfl)); (with_reducible apply s_eqN); exact rfl; exact rfl
           dsimp only [Nat.reduceAdd, Nat.reduceMul, Nat.reduceSub, List.nil_append, List.cons_append, nbk, List.map_cons, List.map_nil]; apply Trc.step rfl rfl
           exact wnt_n rfl; (with_reducible apply s_pick_t); exact rfl; (focus (simp only [*]; rfl)); exact rfl; dsimp only [Nat.reduceAdd, Nat.reduceMul, Nat.reduceSub, List.nil_append, List.cons_append, nbk, List.map_cons, List.map_nil]
           apply Trc.step rfl rfl; exact wnt_n rfl; (with_reducible apply s_move); exact rfl; dsimp only [Nat.reduceAdd, Nat.reduceMul, Nat.reduceSub, List.nil_append, List.cons_append, nbk, List.map_cons, List.map_nil]
           apply Trc.step rfl rfl; apply wnt_g; exact rfl; exact rfl; exact rfl; (focus (simp [*]; done)); (with_reducible apply s_fieldAddr); exact rfl; dsimp only [Nat.reduceAdd, Nat.reduceMul, Nat.reduceSub, List.nil_append, List.cons_append, nbk, List.map_cons, List.map_nil]
           apply Trc.step rfl rfl; apply wnt_g; exact rfl; exact rfl; exact rfl; (focus (simp [*]; done)); (with_reducible apply s_load); exact rfl; exact rfl; exact rfl
           dsimp only [Nat.reduceAdd, Nat.reduceMul, Nat.reduceSub, List.nil_append, List.cons_append, nbk, List.map_cons, List.map_nil]; apply Trc.step rfl rfl
           apply wnt_g; exact rfl; exact rfl; exact rfl; (focus (simp [*]; done)); (with_reducible apply s_fieldAddr); exact rfl; dsimp only [Nat.reduceAdd, Nat.reduceMul, Nat.reduceSub, List.nil_append, List.cons_append, nbk, List.map_cons, List.map_nil]
           apply Trc.step rfl rfl; apply wnt_g; exact rfl; exact rfl; exact rfl; (focus (simp [*]; done)); (with_reducible apply s_load); exact rfl; exact rfl; exact rfl
           dsimp only [Nat.reduceAdd, Nat.reduceMul, Nat.reduceSub, List.nil_append, List.cons_append, nbk, List.map_cons, List.map_nil]; apply Trc.step rfl rfl
           apply wnt_g; exact rfl; exact rfl; exact rfl; (focus (simp [*]; done)); (with_reducible apply s_eq); exact rfl; exact rfl; dsimp only [Nat.reduceAdd, Nat.reduceMul, Nat.reduceSub, List.nil_append, List.cons_append, nbk, List.map_cons, List.map_nil]
           apply Trc.step rfl rfl; exact wnt_n rfl; (with_reducible apply s_pick_t); exact rfl; (focus (simp [*]; done)); exact rfl; dsimp only [Nat.reduceAdd, Nat.reduceMul, Nat.reduceSub, List.nil_append, List.cons_append, nbk, List.map_cons, List.map_nil]
           apply Trc.step rfl rfl; exact wnt_n rfl; (with_reducible apply s_move); exact rfl; dsimp only [Nat.reduceAdd, Nat.reduceMul, Nat.reduceSub, List.nil_append, List.cons_append, nbk, List.map_cons, List.map_nil]
           apply Trc.skip rfl rfl; apply wnt_g; exact rfl; exact rfl; exact rfl; (focus (simp only [*]; rfl)); dsimp only [Nat.reduceAdd, Nat.reduceMul, Nat.reduceSub, List.nil_append, List.cons_append, nbk, List.map_cons, List.map_nil]
           apply Trc.skip rfl rfl; apply wnt_g; exact rfl; exact rfl; exact rfl; (focus (simp only [*]; rfl)); dsimp only [Nat.reduceAdd, Nat.reduceMul, Nat.reduceSub, List.nil_append, List.cons_append, nbk, List.map_cons, List.map_nil]
           apply Trc.skip rfl rfl; apply wnt_g; exact rfl; exact rfl; exact rfl; (focus (simp only [*]; rfl)); dsimp only [Nat.reduceAdd, Nat.reduceMul, Nat.reduceSub, List.nil_append, List.cons_append, nbk, List.map_cons, List.map_nil]
           apply Trc.skip rfl rfl; apply wnt_g; exact rfl; exact rfl; exact rfl; (focus (simp only [*]; rfl)); dsimp only [Nat.reduceAdd, Nat.reduceMul, Nat.reduceSub, List.nil_append, List.cons_append, nbk, List.map_cons, List.map_nil]
           apply Trc.skip rfl rfl; apply wnt_g; exact rfl; exact rfl; exact rfl; (focus (simp only [*]; rfl)); dsimp only [Nat.reduceAdd, Nat.reduceMul, Nat.reduceSub, List.nil_append, List.cons_append, nbk, List.map_cons, List.map_nil]
           apply Trc.step rfl rfl; exact wnt_n rfl; (with_reducible apply s_pick_f); exact rfl; (focus (simp only [*]; rfl)); exact rfl; dsimp only [Nat.reduceAdd, Nat.reduceMul, Nat.reduceSub, List.nil_append, List.cons_append, nbk, List.map_cons, List.map_nil]
           apply Trc.step rfl rfl; exact wnt_n rfl; (with_reducible apply s_move); exact rfl; dsimp only [Nat.reduceAdd, Nat.reduceMul, Nat.reduceSub, List.nil_append, List.cons_append, nbk, List.map_cons, List.map_nil]
           apply Trc.skip rfl rfl; apply wnt_g; exact rfl; exact rfl; exact rfl; rfl; dsimp only [Nat.reduceAdd, Nat.reduceMul, Nat.reduceSub, List.nil_append, List.cons_append, nbk, List.map_cons, List.map_nil]
           apply Trc.skip rfl rfl; apply wnt_g; exact rfl; exact rfl; exact rfl; rfl; dsimp only [Nat.reduceAdd, Nat.reduceMul, Nat.reduceSub, List.nil_append, List.cons_append, nbk, List.map_cons, List.map_nil]
           apply Trc.skip rfl rfl; apply wnt_g; exact rfl; exact rfl; exact rfl; rfl; dsimp only [Nat.reduceAdd, Nat.reduceMul, Nat.reduceSub, List.nil_append, List.cons_append, nbk, List.map_cons, List.map_nil]
           apply Trc.skip rfl rfl; apply wnt_g; exact rfl; exact rfl; exact rfl; rfl; dsimp only [Nat.reduceAdd, Nat.reduceMul, Nat.reduceSub, List.nil_append, List.cons_append, nbk, List.map_cons, List.map_nil]
           apply Trc.skip rfl rfl; apply wnt_g; exact rfl; exact rfl; exact rfl; rfl; dsimp only [Nat.reduceAdd, Nat.reduceMul, Nat.reduceSub, List.nil_append, List.cons_append, nbk, List.map_cons, List.map_nil]
           apply Trc.step rfl rfl; exact wnt_n rfl; (with_reducible apply s_pick_f); exact rfl; rfl; exact rfl; dsimp only [Nat.reduceAdd, Nat.reduceMul, Nat.reduceSub, List.nil_append, List.cons_append, nbk, List.map_cons, List.map_nil]
           apply Trc.step rfl rfl; exact wnt_n rfl; (with_reducible apply s_assign); exact rfl; dsimp only [Nat.reduceAdd, Nat.reduceMul, Nat.reduceSub, List.nil_append, List.cons_append, nbk, List.map_cons, List.map_nil]
           exact Trc.done _ _ _; exact rfl; (with_reducible refine thn_n ?_); (with_reducible refine Gol.ret ?_))
          (apply RetQ.mk (by first | exact .inr rfl | exact .inl rfl); apply res_1 rfl; exact res_tmp rfl; exact out_val)
        · simp [sameKey, *]
    · apply Fresh.bool
      · refine Fresh.of (fn := Try.f13) Try.func13 rfl (Nat.le_of_ble_eq_true rfl) fun w => ?_
        ((with_reducible refine Gol.seq ?_); (with_reducible apply Gol.region); apply Trc.step rfl rfl; exact wnt_n rfl; (with_reducible apply s_box); exact rfl
         exact rfl; dsimp only [Nat.reduceAdd, Nat.reduceMul, Nat.reduceSub, List.nil_append, List.cons_append, nbk, List.map_cons, List.map_nil]; apply Trc.step rfl rfl
         exact wnt_n rfl; (with_reducible apply s_box); exact rfl; exact rfl; dsimp only [Nat.reduceAdd, Nat.reduceMul, Nat.reduceSub, List.nil_append, List.cons_append, nbk, List.map_cons, List.map_nil]
         apply Trc.step rfl rfl; exact wnt_n rfl; (with_reducible apply s_assign); exact rfl; dsimp only [Nat.reduceAdd, Nat.reduceMul, Nat.reduceSub, List.nil_append, List.cons_append, nbk, List.map_cons, List.map_nil]
         exact Trc.done _ _ _; exact rfl; (with_reducible refine thn_n ?_); (with_reducible refine Gol.seq ?_); (with_reducible apply Gol.region); apply Trc.step rfl rfl
         exact wnt_n rfl; (with_reducible apply s_fieldAddr); exact rfl; dsimp only [Nat.reduceAdd, Nat.reduceMul, Nat.reduceSub, List.nil_append, List.cons_append, nbk, List.map_cons, List.map_nil]
         apply Trc.step rfl rfl; exact wnt_n rfl; (with_reducible apply s_load); exact rfl; exact rfl; exact rfl; dsimp only [Nat.reduceAdd, Nat.reduceMul, Nat.reduceSub, List.nil_append, List.cons_append, nbk, List.map_cons, List.map_nil]
         apply Trc.step rfl rfl; exact wnt_n rfl; (with_reducible apply s_fieldAddr); exact rfl; dsimp only [Nat.reduceAdd, Nat.reduceMul, Nat.reduceSub, List.nil_append, List.cons_append, nbk, List.map_cons, List.map_nil]
         apply Trc.step rfl rfl; exact wnt_n rfl; (with_reducible apply s_load); exact rfl; exact rfl; exact rfl; dsimp only [Nat.reduceAdd, Nat.reduceMul, Nat.reduceSub, List.nil_append, List.cons_append, nbk, List.map_cons, List.map_nil]
         apply Trc.step rfl rfl; exact wnt_n rfl; (with_reducible apply s_eq); exact rfl; exact rfl; dsimp only [Nat.reduceAdd, Nat.reduceMul, Nat.reduceSub, List.nil_append, List.cons_append, nbk, List.map_cons, List.map_nil]
         apply Trc.step rfl rfl; exact wnt_n rfl; (with_reducible apply s_move); exact rfl; dsimp only [Nat.reduceAdd, Nat.reduceMul, Nat.reduceSub, List.nil_append, List.cons_append, nbk, List.map_cons, List.map_nil]
         apply Trc.step rfl rfl; apply wnt_g; exact rfl; exact rfl; exact rfl; (focus (simp only [*]; rfl)); (with_reducible apply s_fieldAddr); exact rfl; dsimp only [Nat.reduceAdd, Nat.reduceMul, Nat.reduceSub, List.nil_append, List.cons_append, nbk, List.map_cons, List.map_nil]
         apply Trc.step rfl rfl; apply wnt_g; exact rfl; exact rfl; exact rfl; (focus (simp only [*]; rfl)); (with_reducible apply s_loadN); exact rfl; exact rfl
         exact Nat.le_of_ble_eq_true rfl; exact agu_nm8 rfl; dsimp only [Nat.reduceAdd, Nat.reduceMul, Nat.reduceSub, List.nil_append, List.cons_append, nbk, List.map_cons, List.map_nil]
         apply Trc.step rfl rfl; apply wnt_g; exact rfl; exact rfl; exact rfl; (focus (simp only [*]; rfl)); (with_reducible apply s_fieldAddr); exact rfl; dsimp only [Nat.reduceAdd, Nat.reduceMul, Nat.reduceSub, List.nil_append, List.cons_append, nbk, List.map_cons, List.map_nil]
         apply Trc.step rfl rfl; apply wnt_g; exact rfl; exact rfl; exact rfl; (focus (simp only [*]; rfl)); (with_reducible apply s_loadN); exact rfl; exact rfl
         exact Nat.le_of_ble_eq_true rfl; exact agu_nm8 rfl; dsimp only [Nat.reduceAdd, Nat.reduceMul, Nat.reduceSub, List.nil_append, List.cons_append, nbk, List.map_cons, List.map_nil]
         apply Trc.step rfl rfl; apply wnt_g; exact rfl; exact rfl; exact rfl; (focus (simp only [*]; rfl)); (with_reducible apply s_eqN); exact rfl; exact rfl
         dsimp only [Nat.reduceAdd, Nat.reduceMul, Nat.reduceSub, List.nil_append, List.cons_append, nbk, List.map_cons, List.map_nil]; apply Trc.step rfl rfl
         exact wnt_n rfl; (with_reducible apply s_pick_t); exact rfl; (focus (simp only [*]; rfl)); exact rfl; dsimp only [Nat.reduceAdd, Nat.reduceMul, Nat.reduceSub, List.nil_append, List.cons_append, nbk, List.map_cons, List.map_nil]
         apply Trc.step rfl rfl; exact wnt_n rfl; (with_reducible apply s_move); exact rfl; dsimp only [Nat.reduceAdd, Nat.reduceMul, Nat.reduceSub, List.nil_append, List.cons_append, nbk, List.map_cons, List.map_nil]
         apply Trc.skip rfl rfl; apply wnt_g; exact rfl; exact rfl; exact rfl; (focus (simp [*]; done)); dsimp only [Nat.reduceAdd, Nat.reduceMul, Nat.reduceSub, List.nil_append, List.cons_append, nbk, List.map_cons, List.map_nil]
         apply Trc.skip rfl rfl; apply wnt_g; exact rfl; exact rfl; exact rfl; (focus (simp [*]; done)); dsimp only [Nat.reduceAdd, Nat.reduceMul, Nat.reduceSub, List.nil_append, List.cons_append, nbk, List.map_cons, List.map_nil]
         apply Trc.skip rfl rfl; apply wnt_g; exact rfl; exact rfl; exact rfl; (focus (simp [*]; done)); dsimp only [Nat.reduceAdd, Nat.reduceMul, Nat.reduceSub, List.nil_append, List.cons_append, nbk, List.map_cons, List.map_nil]
         apply Trc.skip rfl rfl; apply wnt_g; exact rfl; exact rfl; exact rfl; (focus (simp [*]; done)); dsimp only [Nat.reduceAdd, Nat.reduceMul, Nat.reduceSub, List.nil_append, List.cons_append, nbk, List.map_cons, List.map_nil]
         apply Trc.skip rfl rfl; apply wnt_g; exact rfl; exact rfl; exact rfl; (focus (simp [*]; done)); dsimp only [Nat.reduceAdd, Nat.reduceMul, Nat.reduceSub, List.nil_append, List.cons_append, nbk, List.map_cons, List.map_nil]
         apply Trc.step rfl rfl; exact wnt_n rfl; (with_reducible apply s_pick_f); exact rfl; (focus (simp [*]; done)); exact rfl; dsimp only [Nat.reduceAdd, Nat.reduceMul, Nat.reduceSub, List.nil_append, List.cons_append, nbk, List.map_cons, List.map_nil]
         apply Trc.step rfl rfl; exact wnt_n rfl; (with_reducible apply s_move); exact rfl; dsimp only [Nat.reduceAdd, Nat.reduceMul, Nat.reduceSub, List.nil_append, List.cons_append, nbk, List.map_cons, List.map_nil]
         apply Trc.skip rfl rfl; apply wnt_g; exact rfl; exact rfl; exact rfl; rfl; dsimp only [Nat.reduceAdd, Nat.reduceMul, Nat.reduceSub, List.nil_append, List.cons_append, nbk, List.map_cons, List.map_nil]
         apply Trc.skip rfl rfl; apply wnt_g; exact rfl; exact rfl; exact rfl; rfl; dsimp only [Nat.reduceAdd, Nat.reduceMul, Nat.reduceSub, List.nil_append, List.cons_append, nbk, List.map_cons, List.map_nil]
         apply Trc.skip rfl rfl; apply wnt_g; exact rfl; exact rfl; exact rfl; rfl; dsimp only [Nat.reduceAdd, Nat.reduceMul, Nat.reduceSub, List.nil_append, List.cons_append, nbk, List.map_cons, List.map_nil]
         apply Trc.skip rfl rfl; apply wnt_g; exact rfl; exact rfl; exact rfl; rfl; dsimp only [Nat.reduceAdd, Nat.reduceMul, Nat.reduceSub, List.nil_append, List.cons_append, nbk, List.map_cons, List.map_nil]
         apply Trc.skip rfl rfl; apply wnt_g; exact rfl; exact rfl; exact rfl; rfl; dsimp only [Nat.reduceAdd, Nat.reduceMul, Nat.reduceSub, List.nil_append, List.cons_append, nbk, List.map_cons, List.map_nil]
         apply Trc.step rfl rfl; exact wnt_n rfl; (with_reducible apply s_pick_f); exact rfl; rfl; exact rfl; dsimp only [Nat.reduceAdd, Nat.reduceMul, Nat.reduceSub, List.nil_append, List.cons_append, nbk, List.map_cons, List.map_nil]
         apply Trc.step rfl rfl; exact wnt_n rfl; (with_reducible apply s_move); exact rfl; dsimp only [Nat.reduceAdd, Nat.reduceMul, Nat.reduceSub, List.nil_append, List.cons_append, nbk, List.map_cons, List.map_nil]
         apply Trc.skip rfl rfl; apply wnt_g; exact rfl; exact rfl; exact rfl; rfl; dsimp only [Nat.reduceAdd, Nat.reduceMul, Nat.reduceSub, List.nil_append, List.cons_append, nbk, List.map_cons, List.map_nil]
         apply Trc.skip rfl rfl; apply wnt_g; exact rfl; exact rfl; exact rfl; rfl; dsimp only [Nat.reduceAdd, Nat.reduceMul, Nat.reduceSub, List.nil_append, List.cons_append, nbk, List.map_cons, List.map_nil]
         apply Trc.skip rfl rfl; apply wnt_g; exact rfl; exact rfl; exact rfl; rfl; dsimp only [Nat.reduceAdd, Nat.reduceMul, Nat.reduceSub, List.nil_append, List.cons_append, nbk, List.map_cons, List.map_nil]
         apply Trc.skip rfl rfl; apply wnt_g; exact rfl; exact rfl; exact rfl; rfl; dsimp only [Nat.reduceAdd, Nat.reduceMul, Nat.reduceSub, List.nil_append, List.cons_append, nbk, List.map_cons, List.map_nil]
         apply Trc.skip rfl rfl; apply wnt_g; exact rfl; exact rfl; exact rfl; rfl; dsimp only [Nat.reduceAdd, Nat.reduceMul, Nat.reduceSub, List.nil_append, List.cons_append, nbk, List.map_cons, List.map_nil]
         apply Trc.step rfl rfl; exact wnt_n rfl; (with_reducible apply s_pick_f); exact rfl; rfl; exact rfl; dsimp only [Nat.reduceAdd, Nat.reduceMul, Nat.reduceSub, List.nil_append, List.cons_append, nbk, List.map_cons, List.map_nil]
         apply Trc.step rfl rfl; exact wnt_n rfl; (with_reducible apply s_assign); exact rfl; dsimp only [Nat.reduceAdd, Nat.reduceMul, Nat.reduceSub, List.nil_append, List.cons_append, nbk, List.map_cons, List.map_nil]
         exact Trc.done _ _ _; exact rfl; (with_reducible refine thn_n ?_); (with_reducible refine Gol.ret ?_))
        (apply RetQ.mk (by first | exact .inr rfl | exact .inl rfl); apply res_1 rfl; exact res_tmp rfl; exact out_val)
      · simp [sameKey, *]
  · apply Fresh.bool
    · refine Fresh.of (fn := Try.f13) Try.func13 rfl (Nat.le_of_ble_eq_true rfl) fun w => ?_
      ((with_reducible refine Gol.seq ?_); (with_reducible apply Gol.region); apply Trc.step rfl rfl; exact wnt_n rfl; (with_reducible apply s_box); exact rfl
       exact rfl; dsimp only [Nat.reduceAdd, Nat.reduceMul, Nat.reduceSub, List.nil_append, List.cons_append, nbk, List.map_cons, List.map_nil]; apply Trc.step rfl rfl
       exact wnt_n rfl; (with_reducible apply s_box); exact rfl; exact rfl; dsimp only [Nat.reduceAdd, Nat.reduceMul, Nat.reduceSub, List.nil_append, List.cons_append, nbk, List.map_cons, List.map_nil]
       apply Trc.step rfl rfl; exact wnt_n rfl; (with_reducible apply s_assign); exact rfl; dsimp only [Nat.reduceAdd, Nat.reduceMul, Nat.reduceSub, List.nil_append, List.cons_append, nbk, List.map_cons, List.map_nil]
       exact Trc.done _ _ _; exact rfl; (with_reducible refine thn_n ?_); (with_reducible refine Gol.seq ?_); (with_reducible apply Gol.region); apply Trc.step rfl rfl
       exact wnt_n rfl; (with_reducible apply s_fieldAddr); exact rfl; dsimp only [Nat.reduceAdd, Nat.reduceMul, Nat.reduceSub, List.nil_append, List.cons_append, nbk, List.map_cons, List.map_nil]
       apply Trc.step rfl rfl; exact wnt_n rfl; (with_reducible apply s_load); exact rfl; exact rfl; exact rfl; dsimp only [Nat.reduceAdd, Nat.reduceMul, Nat.reduceSub, List.nil_append, List.cons_append, nbk, List.map_cons, List.map_nil]
       apply Trc.step rfl rfl; exact wnt_n rfl; (with_reducible apply s_fieldAddr); exact rfl; dsimp only [Nat.reduceAdd, Nat.reduceMul, Nat.reduceSub, List.nil_append, List.cons_append, nbk, List.map_cons, List.map_nil]
       apply Trc.step rfl rfl; exact wnt_n rfl; (with_reducible apply s_load); exact rfl; exact rfl; exact rfl; dsimp only [Nat.reduceAdd, Nat.reduceMul, Nat.reduceSub, List.nil_append, List.cons_append, nbk, List.map_cons, List.map_nil]
       apply Trc.step rfl rfl; exact wnt_n rfl; (with_reducible apply s_eq); exact rfl; exact rfl; dsimp only [Nat.reduceAdd, Nat.reduceMul, Nat.reduceSub, List.nil_append, List.cons_append, nbk, List.map_cons, List.map_nil]
       apply Trc.step rfl rfl; exact wnt_n rfl; (with_reducible apply s_move); exact rfl; dsimp only [Nat.reduceAdd, Nat.reduceMul, Nat.reduceSub, List.nil_append, List.cons_append, nbk, List.map_cons, List.map_nil]
       apply Trc.skip rfl rfl; apply wnt_g; exact rfl; exact rfl; exact rfl; (focus (simp only [*]; rfl)); dsimp only [Nat.reduceAdd, Nat.reduceMul, Nat.reduceSub, List.nil_append, List.cons_append, nbk, List.map_cons, List.map_nil]
       apply Trc.skip rfl rfl; apply wnt_g; exact rfl; exact rfl; exact rfl; (focus (simp only [*]; rfl)); dsimp only [Nat.reduceAdd, Nat.reduceMul, Nat.reduceSub, List.nil_append, List.cons_append, nbk, List.map_cons, List.map_nil]
       apply Trc.skip rfl rfl; apply wnt_g; exact rfl; exact rfl; exact rfl; (focus (simp only [*]; rfl)); dsimp only [Nat.reduceAdd, Nat.reduceMul, Nat.reduceSub, List.nil_append, List.cons_append, nbk, List.map_cons, List.map_nil]
       apply Trc.skip rfl rfl; apply wnt_g; exact rfl; exact rfl; exact rfl; (focus (simp only [*]; rfl)); dsimp only [Nat.reduceAdd, Nat.reduceMul, Nat.reduceSub, List.nil_append, List.cons_append, nbk, List.map_cons, List.map_nil]
       apply Trc.skip rfl rfl; apply wnt_g; exact rfl; exact rfl; exact rfl; (focus (simp only [*]; rfl)); dsimp only [Nat.reduceAdd, Nat.reduceMul, Nat.reduceSub, List.nil_append, List.cons_append, nbk, List.map_cons, List.map_nil]
       apply Trc.step rfl rfl; exact wnt_n rfl; (with_reducible apply s_pick_f); exact rfl; (focus (simp only [*]; rfl)); exact rfl; dsimp only [Nat.reduceAdd, Nat.reduceMul, Nat.reduceSub, List.nil_append, List.cons_append, nbk, List.map_cons, List.map_nil]
       apply Trc.step rfl rfl; exact wnt_n rfl; (with_reducible apply s_move); exact rfl; dsimp only [Nat.reduceAdd, Nat.reduceMul, Nat.reduceSub, List.nil_append, List.cons_append, nbk, List.map_cons, List.map_nil]
       apply Trc.skip rfl rfl; apply wnt_g; exact rfl; exact rfl; exact rfl; rfl; dsimp only [Nat.reduceAdd, Nat.reduceMul, Nat.reduceSub, List.nil_append, List.cons_append, nbk, List.map_cons, List.map_nil]
       apply Trc.skip rfl rfl; apply wnt_g; exact rfl; exact rfl; exact rfl; rfl; dsimp only [Nat.reduceAdd, Nat.reduceMul, Nat.reduceSub, List.nil_append, List.cons_append, nbk, List.map_cons, List.map_nil]
       apply Trc.skip rfl rfl; apply wnt_g; exact rfl; exact rfl; exact rfl; rfl; dsimp only [Nat.reduceAdd, Nat.reduceMul, Nat.reduceSub, List.nil_append, List.cons_append, nbk, List.map_cons, List.map_nil]
       apply Trc.skip rfl rfl; apply wnt_g; exact rfl; exact rfl; exact rfl; rfl; dsimp only [Nat.reduceAdd, Nat.reduceMul, Nat.reduceSub, List.nil_append, List.cons_append, nbk, List.map_cons, List.map_nil]
       apply Trc.skip rfl rfl; apply wnt_g; exact rfl; exact rfl; exact rfl; rfl; dsimp only [Nat.reduceAdd, Nat.reduceMul, Nat.reduceSub, List.nil_append, List.cons_append, nbk, List.map_cons, List.map_nil]
       apply Trc.step rfl rfl; exact wnt_n rfl; (with_reducible apply s_pick_f); exact rfl; rfl; exact rfl; dsimp only [Nat.reduceAdd, Nat.reduceMul, Nat.reduceSub, List.nil_append, List.cons_append, nbk, List.map_cons, List.map_nil]
       apply Trc.step rfl rfl; exact wnt_n rfl; (with_reducible apply s_move); exact rfl; dsimp only [Nat.reduceAdd, Nat.reduceMul, Nat.reduceSub, List.nil_append, List.cons_append, nbk, List.map_cons, List.map_nil]
       apply Trc.skip rfl rfl; apply wnt_g; exact rfl; exact rfl; exact rfl; rfl; dsimp only [Nat.reduceAdd, Nat.reduceMul, Nat.reduceSub, List.nil_append, List.cons_append, nbk, List.map_cons, List.map_nil]
       apply Trc.skip rfl rfl; apply wnt_g; exact rfl; exact rfl; exact rfl; rfl; dsimp only [Nat.reduceAdd, Nat.reduceMul, Nat.reduceSub, List.nil_append, List.cons_append, nbk, List.map_cons, List.map_nil]
       apply Trc.skip rfl rfl; apply wnt_g; exact rfl; exact rfl; exact rfl; rfl; dsimp only [Nat.reduceAdd, Nat.reduceMul, Nat.reduceSub, List.nil_append, List.cons_append, nbk, List.map_cons, List.map_nil]
       apply Trc.skip rfl rfl; apply wnt_g; exact rfl; exact rfl; exact rfl; rfl; dsimp only [Nat.reduceAdd, Nat.reduceMul, Nat.reduceSub, List.nil_append, List.cons_append, nbk, List.map_cons, List.map_nil]
       apply Trc.skip rfl rfl; apply wnt_g; exact rfl; exact rfl; exact rfl; rfl; dsimp only [Nat.reduceAdd, Nat.reduceMul, Nat.reduceSub, List.nil_append, List.cons_append, nbk, List.map_cons, List.map_nil]
       apply Trc.step rfl rfl; exact wnt_n rfl; (with_reducible apply s_pick_f); exact rfl; rfl; exact rfl; dsimp only [Nat.reduceAdd, Nat.reduceMul, Nat.reduceSub, List.nil_append, List.cons_append, nbk, List.map_cons, List.map_nil]
       apply Trc.step rfl rfl; exact wnt_n rfl; (with_reducible apply s_move); exact rfl; dsimp only [Nat.reduceAdd, Nat.reduceMul, Nat.reduceSub, List.nil_append, List.cons_append, nbk, List.map_cons, List.map_nil]
       apply Trc.skip rfl rfl; apply wnt_g; exact rfl; exact rfl; exact rfl; rfl; dsimp only [Nat.reduceAdd, Nat.reduceMul, Nat.reduceSub, List.nil_append, List.cons_append, nbk, List.map_cons, List.map_nil]
       apply Trc.skip rfl rfl; apply wnt_g; exact rfl; exact rfl; exact rfl; rfl; dsimp only [Nat.reduceAdd, Nat.reduceMul, Nat.reduceSub, List.nil_append, List.cons_append, nbk, List.map_cons, List.map_nil]
       apply Trc.skip rfl rfl; apply wnt_g; exact rfl; exact rfl; exact rfl; rfl; dsimp only [Nat.reduceAdd, Nat.reduceMul, Nat.reduceSub, List.nil_append, List.cons_append, nbk, List.map_cons, List.map_nil]
       apply Trc.skip rfl rfl; apply wnt_g; exact rfl; exact rfl; exact rfl; rfl; dsimp only [Nat.reduceAdd, Nat.reduceMul, Nat.reduceSub, List.nil_append, List.cons_append, nbk, List.map_cons, List.map_nil]
       apply Trc.skip rfl rfl; apply wnt_g; exact rfl; exact rfl; exact rfl; rfl; dsimp only [Nat.reduceAdd, Nat.reduceMul, Nat.reduceSub, List.nil_append, List.cons_append, nbk, List.map_cons, List.map_nil]
       apply Trc.step rfl rfl; exact wnt_n rfl; (with_reducible apply s_pick_f); exact rfl; rfl; exact rfl; dsimp only [Nat.reduceAdd, Nat.reduceMul, Nat.reduceSub, List.nil_append, List.cons_append, nbk, List.map_cons, List.map_nil]
       apply Trc.step rfl rfl; exact wnt_n rfl; (with_reducible apply s_assign); exact rfl; dsimp only [Nat.reduceAdd, Nat.reduceMul, Nat.reduceSub, List.nil_append, List.cons_append, nbk, List.map_cons, List.map_nil]
       exact Trc.done _ _ _; exact rfl; (with_reducible refine thn_n ?_); (with_reducible refine Gol.ret ?_))
      (apply RetQ.mk (by first | exact .inr rfl | exact .inl rfl); apply res_1 rfl; exact res_tmp rfl; exact out_val)
    · simp [sameKey, *]
theorem refSameKey_ok (a b : Vt) : Fresh Try.prog 14 [.v (.agg (voteC a)), .v (.agg (voteC b))] (fun _ => .v (.bool (sameKey a b))) [] := by
  by_cases h1 : a.kind = b.kind
  · by_cases h2 : a.parent = b.parent
    · by_cases h3 : a.slot = b.slot
      · by_cases h4 : a.round = b.round
        · apply Fresh.bool
          · refine Fresh.of (fn := Try.f14) Try.func14 rfl (Nat.le_of_ble_eq_true rfl) fun w => ?_
            ((with_reducible refine Gol.seq ?_); (with_reducible apply Gol.region); apply Trc.step rfl rfl; exact wnt_n rfl; (with_reducible apply s_box); exact rfl
             exact rfl; dsimp only [Nat.reduceAdd, Nat.reduceMul, Nat.reduceSub, List.nil_append, List.cons_append, nbk, List.map_cons, List.map_nil]; apply Trc.step rfl rfl
             exact wnt_n rfl; (with_reducible apply s_box); exact rfl; exact rfl; dsimp only [Nat.reduceAdd, Nat.reduceMul, Nat.reduceSub, List.nil_append, List.cons_append, nbk, List.map_cons, List.map_nil]
             apply Trc.step rfl rfl; exact wnt_n rfl; (with_reducible apply s_assign); exact rfl; dsimp only [Nat.reduceAdd, Nat.reduceMul, Nat.reduceSub, List.nil_append, List.cons_append, nbk, List.map_cons, List.map_nil]
             exact Trc.done _ _ _; exact rfl; (with_reducible refine thn_n ?_); (with_reducible refine Gol.seq ?_); (with_reducible apply Gol.region); apply Trc.step rfl rfl
             exact wnt_n rfl; (with_reducible apply s_fieldAddr); exact rfl; dsimp only [Nat.reduceAdd, Nat.reduceMul, Nat.reduceSub, List.nil_append, List.cons_append, nbk, List.map_cons, List.map_nil]
             apply Trc.step rfl rfl; exact wnt_n rfl; (with_reducible apply s_load); exact rfl; exact rfl; exact rfl; dsimp only [Nat.reduceAdd, Nat.reduceMul, Nat.reduceSub, List.nil_append, List.cons_append, nbk, List.map_cons, List.map_nil]
             apply Trc.step rfl rfl; exact wnt_n rfl; (with_reducible apply s_fieldAddr); exact rfl; dsimp only [Nat.reduceAdd, Nat.reduceMul, Nat.reduceSub, List.nil_append, List.cons_append, nbk, List.map_cons, List.map_nil]
             apply Trc.step rfl rfl; exact wnt_n rfl; (with_reducible apply s_load); exact rfl; exact rfl; exact rfl; dsimp only [Nat.reduceAdd, Nat.reduceMul, Nat.reduceSub, List.nil_append, List.cons_append, nbk, List.map_cons, List.map_nil]
             apply Trc.step rfl rfl; exact wnt_n rfl; (with_reducible apply s_eq); exact rfl; exact rfl; dsimp only [Nat.reduceAdd, Nat.reduceMul, Nat.reduceSub, List.nil_append, List.cons_append, nbk, List.map_cons, List.map_nil]
             apply Trc.step rfl rfl; exact wnt_n rfl; (with_reducible apply s_move); exact rfl; dsimp only [Nat.reduceAdd, Nat.reduceMul, Nat.reduceSub, List.nil_append, List.cons_append, nbk, List.map_cons, List.map_nil]
             apply Trc.step rfl rfl; apply wnt_g; exact rfl; exact rfl; exact rfl; (focus (simp only [*]; rfl)); (with_reducible apply s_fieldAddr); exact rfl; dsimp only [Nat.reduceAdd, Nat.reduceMul, Nat.reduceSub, List.nil_append, List.cons_append, nbk, List.map_cons, List.map_nil]
             apply Trc.step rfl rfl; apply wnt_g; exact rfl; exact rfl; exact rfl; (focus (simp only [*]; rfl)); (with_reducible apply s_loadN); exact rfl; exact rfl
             exact Nat.le_of_ble_eq_true rfl; exact agu_nm8 rfl; dsimp only [Nat.reduceAdd, Nat.reduceMul, Nat.reduceSub, List.nil_append, List.cons_append, nbk, List.map_cons, List.map_nil]
             apply Trc.step rfl rfl; apply wnt_g; exact rfl; exact rfl; exact rfl; (focus (simp only [*]; rfl)); (with_reducible apply s_fieldAddr); exact rfl; dsimp only [Nat.reduceAdd, Nat.reduceMul, Nat.reduceSub, List.nil_append, List.cons_append, nbk, List.map_cons, List.map_nil]
             apply Trc.step rfl rfl; apply wnt_g; exact rfl; exact rfl; exact rfl; (focus (simp only [*]; rfl)); (with_reducible apply s_loadN); exact rfl; exact rfl
             exact Nat.le_of_ble_eq_true rfl; exact agu_nm8 rfl; dsimp only [Nat.reduceAdd, Nat.reduceMul, Nat.reduceSub, List.nil_append, List.cons_append, nbk, List.map_cons, List.map_nil]
             apply Trc.step rfl rfl; apply wnt_g; exact rfl; exact rfl; exact rfl; (focus (simp only [*]; rfl)); (with_reducible apply s_eqN); exact rfl; exact rfl
             dsimp only [Nat.reduceAdd, Nat.reduceMul, Nat.reduceSub, List.nil_append, List.cons_append, nbk, List.map_cons, List.map_nil]; apply Trc.step rfl rfl
             exact wnt_n rfl; (with_reducible apply s_pick_t); exact rfl; (focus (simp only [*]; rfl)); exact rfl; dsimp only [Nat.reduceAdd, Nat.reduceMul, Nat.reduceSub, List.nil_append, List.cons_append, nbk, List.map_cons, List.map_nil]
             apply Trc.step rfl rfl; exact wnt_n rfl; (with_reducible apply s_move); exact rfl; dsimp only [Nat.reduceAdd, Nat.reduceMul, Nat.reduceSub, List.nil_append, List.cons_append, nbk, List.map_cons, List.map_nil]
             apply Trc.step rfl rfl; apply wnt_g; exact rfl; exact rfl; exact rfl; (focus (simp [*]; done)); (with_reducible apply s_fieldAddr); exact rfl; dsimp only [Nat.reduceAdd, Nat.reduceMul, Nat.reduceSub, List.nil_append, List.cons_append, nbk, List.map_cons, List.map_nil]
             apply Trc.step rfl rfl; apply wnt_g; exact rfl; exact rfl; exact rfl; (focus (simp [*]; done)); (with_reducible apply s_load); exact rfl; exact rfl; exact rfl
             dsimp only [Nat.reduceAdd, Nat.reduceMul, Nat.reduceSub, List.nil_append, List.cons_append, nbk, List.map_cons, List.map_nil]; apply Trc.step rfl rfl
             apply wnt_g; exact rfl; exact rfl; exact rfl; (focus (simp [*]; done)); (with_reducible apply s_fieldAddr); exact rfl; dsimp only [Nat.reduceAdd, Nat.reduceMul, Nat.reduceSub, List.nil_append, List.cons_append, nbk, List.map_cons, List.map_nil]
             apply Trc.step rfl rfl; apply wnt_g; exact rfl; exact rfl; exact rfl; (focus (simp [*]; done)); (with_reducible apply s_load); exact rfl; exact rfl; exact rfl
             dsimp only [Nat.reduceAdd, Nat.reduceMul, Nat.reduceSub, List.nil_append, List.cons_append, nbk, List.map_cons, List.map_nil]; apply Trc.step rfl rfl
             apply wnt_g; exact rfl; exact rfl; exact rfl; (focus (simp [*]; done)); (with_reducible apply s_eq); exact rfl; exact rfl; dsimp only [Nat.reduceAdd, Nat.reduceMul, Nat.reduceSub, List.nil_append, List.cons_append, nbk, List.map_cons, List.map_nil]
             apply Trc.step rfl rfl; exact wnt_n rfl; (with_reducible apply s_pick_t); exact rfl; (focus (simp [*]; done)); exact rfl; dsimp only [Nat.reduceAdd, Nat.reduceMul, Nat.reduceSub, List.nil_append, List.cons_append, nbk, List.map_cons, List.map_nil]
             apply Trc.step rfl rfl; exact wnt_n rfl; (with_reducible apply s_move); exact rfl; dsimp only [Nat.reduceAdd, Nat.reduceMul, Nat.reduceSub, List.nil_append, List.cons_append, nbk, List.map_cons, List.map_nil]
             apply Trc.step rfl rfl; apply wnt_g; exact rfl; exact rfl; exact rfl; (focus (simp only [*]; rfl)); (with_reducible apply s_fieldAddr); exact rfl; dsimp only [Nat.reduceAdd, Nat.reduceMul, Nat.reduceSub, List.nil_append, List.cons_append, nbk, List.map_cons, List.map_nil]
             apply Trc.step rfl rfl; apply wnt_g; exact rfl; exact rfl; exact rfl; (focus (simp only [*]; rfl)); (with_reducible apply s_load); exact rfl; exact rfl
             exact rfl; dsimp only [Nat.reduceAdd, Nat.reduceMul, Nat.reduceSub, List.nil_append, List.cons_append, nbk, List.map_cons, List.map_nil]; apply Trc.step rfl rfl
             apply wnt_g; exact rfl; exact rfl; exact rfl; (focus (simp only [*]; rfl)); (with_reducible apply s_fieldAddr); exact rfl; dsimp only [Nat.reduceAdd, Nat.reduceMul, Nat.reduceSub, List.nil_append, List.cons_append, nbk, List.map_cons, List.map_nil]
             apply Trc.step rfl rfl; apply wnt_g; exact rfl; exact rfl; exact rfl; (focus (simp only [*]; rfl)); (with_reducible apply s_load); exact rfl; exact rfl
             exact rfl; dsimp only [Nat.reduceAdd, Nat.reduceMul, Nat.reduceSub, List.nil_append, List.cons_append, nbk, List.map_cons, List.map_nil]; apply Trc.step rfl rfl
             apply wnt_g; exact rfl; exact rfl; exact rfl; (focus (simp only [*]; rfl)); (with_reducible apply s_eq); exact rfl; exact rfl; dsimp only [Nat.reduceAdd, Nat.reduceMul, Nat.reduceSub, List.nil_append, List.cons_append, nbk, List.map_cons, List.map_nil]
             apply Trc.step rfl rfl; exact wnt_n rfl; (with_reducible apply s_pick_t); exact rfl; (focus (simp only [*]; rfl)); exact rfl; dsimp only [Nat.reduceAdd, Nat.reduceMul, Nat.reduceSub, List.nil_append, List.cons_append, nbk, List.map_cons, List.map_nil]
             apply Trc.step rfl rfl; exact wnt_n rfl; (with_reducible apply s_move); exact rfl; dsimp only [Nat.reduceAdd, Nat.reduceMul, Nat.reduceSub, List.nil_append, List.cons_append, nbk, List.map_cons, List.map_nil]
             apply Trc.step rfl rfl; apply wnt_g; exact rfl; exact rfl; exact rfl; (focus (simp only [*]; rfl)); (with_reducible apply s_fieldAddr); exact rfl; dsimp only [Nat.reduceAdd, Nat.reduceMul, Nat.reduceSub, List.nil_append, List.cons_append, nbk, List.map_cons, List.map_nil]
             apply Trc.step rfl rfl; apply wnt_g; exact rfl; exact rfl; exact rfl; (focus (simp only [*]; rfl)); (with_reducible apply s_load); exact rfl; exact rfl
             exact rfl; dsimp only [Nat.reduceAdd, Nat.reduceMul, Nat.reduceSub, List.nil_append, List.cons_append, nbk, List.map_cons, List.map_nil]; apply Trc.step rfl rfl
             apply wnt_g; exact rfl; exact rfl; exact rfl; (focus (simp only [*]; rfl)); (with_reducible apply s_fieldAddr); exact rfl; dsimp only [Nat.reduceAdd, Nat.reduceMul, Nat.reduceSub, List.nil_append, List.cons_append, nbk, List.map_cons, List.map_nil]
             apply Trc.step rfl rfl; apply wnt_g; exact rfl; exact rfl; exact rfl; (focus (simp only [*]; rfl)); (with_reducible apply s_load); exact rfl; exact rfl
             exact rfl; dsimp only [Nat.reduceAdd, Nat.reduceMul, Nat.reduceSub, List.nil_append, List.cons_append, nbk, List.map_cons, List.map_nil]; apply Trc.step rfl rfl
             apply wnt_g; exact rfl; exact rfl; exact rfl; (focus (simp only [*]; rfl)); (with_reducible apply s_eq); exact rfl; exact rfl; dsimp only [Nat.reduceAdd, Nat.reduceMul, Nat.reduceSub, List.nil_append, List.cons_append, nbk, List.map_cons, List.map_nil]
             apply Trc.step rfl rfl; exact wnt_n rfl; (with_reducible apply s_pick_t); exact rfl; (focus (simp only [*]; rfl)); exact rfl; dsimp only [Nat.reduceAdd, Nat.reduceMul, Nat.reduceSub, List.nil_append, List.cons_append, nbk, List.map_cons, List.map_nil]
             apply Trc.step rfl rfl; exact wnt_n rfl; (with_reducible apply s_assign); exact rfl; dsimp only [Nat.reduceAdd, Nat.reduceMul, Nat.reduceSub, List.nil_append, List.cons_append, nbk, List.map_cons, List.map_nil]
             exact Trc.done _ _ _; exact rfl; (with_reducible refine thn_n ?_); (with_reducible refine Gol.ret ?_))
            (apply RetQ.mk (by first | exact .inr rfl | exact .inl rfl); apply res_1 rfl; exact res_tmp rfl; exact out_val)
          · simp [sameKey, *]
        · apply Fresh.bool
          · refine Fresh.of (fn := Try.f14) Try.func14 rfl (Nat.le_of_ble_eq_true rfl) fun w => ?_
            ((with_reducible refine Gol.seq ?_); (with_reducible apply Gol.region); apply Trc.step rfl rfl; exact wnt_n rfl; (with_reducible apply s_box); exact rfl
             exact rfl; dsimp only [Nat.reduceAdd, Nat.reduceMul, Nat.reduceSub, List.nil_append, List.cons_append, nbk, List.map_cons, List.map_nil]; apply Trc.step rfl rfl
             exact wnt_n rfl; (with_reducible apply s_box); exact rfl; exact rfl; dsimp only [Nat.reduceAdd, Nat.reduceMul, Nat.reduceSub, List.nil_append, List.cons_append, nbk, List.map_cons, List.map_nil]
             apply Trc.step rfl rfl; exact wnt_n rfl; (with_reducible apply s_assign); exact rfl; dsimp only [Nat.reduceAdd, Nat.reduceMul, Nat.reduceSub, List.nil_append, List.cons_append, nbk, List.map_cons, List.map_nil]
             exact Trc.done _ _ _; exact rfl; (with_reducible refine thn_n ?_); (with_reducible refine Gol.seq ?_); (with_reducible apply Gol.region); apply Trc.step rfl rfl
             exact wnt_n rfl; (with_reducible apply s_fieldAddr); exact rfl; dsimp only [Nat.reduceAdd, Nat.reduceMul, Nat.reduceSub, List.nil_append, List.cons_append, nbk, List.map_cons, List.map_nil]
             apply Trc.step rfl rfl; exact wnt_n rfl; (with_reducible apply s_load); exact rfl; exact rfl; exact rfl; dsimp only [Nat.reduceAdd, Nat.reduceMul, Nat.reduceSub, List.nil_append, List.cons_append, nbk, List.map_cons, List.map_nil]
             apply Trc.step rfl rfl; exact wnt_n rfl; (with_reducible apply s_fieldAddr); exact rfl; dsimp only [Nat.reduceAdd, Nat.reduceMul, Nat.reduceSub, List.nil_append, List.cons_append, nbk, List.map_cons, List.map_nil]
             apply Trc.step rfl rfl; exact wnt_n rfl; (with_reducible apply s_load); exact rfl; exact rfl; exact rfl; dsimp only [Nat.reduceAdd, Nat.reduceMul, Nat.reduceSub, List.nil_append, List.cons_append, nbk, List.map_cons, List.map_nil]
             apply Trc.step rfl rfl; exact wnt_n rfl; (with_reducible apply s_eq); exact rfl; exact rfl; dsimp only [Nat.reduceAdd, Nat.reduceMul, Nat.reduceSub, List.nil_append, List.cons_append, nbk, List.map_cons, List.map_nil]
             apply Trc.step rfl rfl; exact wnt_n rfl; (with_reducible apply s_move); exact rfl; dsimp only [Nat.reduceAdd, Nat.reduceMul, Nat.reduceSub, List.nil_append, List.cons_append, nbk, List.map_cons, List.map_nil]
             apply Trc.step rfl rfl; apply wnt_g; exact rfl; exact rfl; exact rfl; (focus (simp only [*]; rfl)); (with_reducible apply s_fieldAddr); exact rfl; dsimp only [Nat.reduceAdd, Nat.reduceMul, Nat.reduceSub, List.nil_append, List.cons_append, nbk, List.map_cons, List.map_nil]
             apply Trc.step rfl rfl; apply wnt_g; exact rfl; exact rfl; exact rfl; (focus (simp only [*]; rfl)); (with_reducible apply s_loadN); exact rfl; exact rfl
             exact Nat.le_of_ble_eq_true rfl; exact agu_nm8 rfl; dsimp only [Nat.reduceAdd, Nat.reduceMul, Nat.reduceSub, List.nil_append, List.cons_append, nbk, List.map_cons, List.map_nil]
             apply Trc.step rfl rfl; apply wnt_g; exact rfl; exact rfl; exact rfl; (focus (simp only [*]; rfl)); (with_reducible apply s_fieldAddr); exact rfl; dsimp only [Nat.reduceAdd, Nat.reduceMul, Nat.reduceSub, List.nil_append, List.cons_append, nbk, List.map_cons, List.map_nil]
             apply Trc.step rfl rfl; apply wnt_g; exact rfl; exact rfl; exact rfl; (focus (simp only [*]; rfl)); (with_reducible apply s_loadN); exact rfl; exact rfl
             exact Nat.le_of_ble_eq_true rfl; exact agu_nm8 rfl; dsimp only [Nat.reduceAdd, Nat.reduceMul, Nat.reduceSub, List.nil_append, List.cons_append, nbk, List.map_cons, List.map_nil]
             apply Trc.step rfl rfl; apply wnt_g; exact rfl; exact rfl; exact rfl; (focus (simp only [*]; rfl)); (with_reducible apply s_eqN); exact rfl; exact rfl
             dsimp only [Nat.reduceAdd, Nat.reduceMul, Nat.reduceSub, List.nil_append, List.cons_append, nbk, List.map_cons, List.map_nil]; apply Trc.step rfl rfl
             exact wnt_n rfl; (with_reducible apply s_pick_t); exact rfl; (focus (simp only [*]; rfl)); exact rfl; dsimp only [Nat.reduceAdd, Nat.reduceMul, Nat.reduceSub, List.nil_append, List.cons_append, nbk, List.map_cons, List.map_nil]
             apply Trc.step rfl rfl; exact wnt_n rfl; (with_reducible apply s_move); exact rfl; dsimp only [Nat.reduceAdd, Nat.reduceMul, Nat.reduceSub, List.nil_append, List.cons_append, nbk, List.map_cons, List.map_nil]
             apply Trc.step rfl rfl; apply wnt_g; exact rfl; exact rfl; exact rfl; (focus (simp [*]; done)); (with_reducible apply s_fieldAddr); exact rfl; dsimp only [Nat.reduceAdd, Nat.reduceMul, Nat.reduceSub, List.nil_append, List.cons_append, nbk, List.map_cons, List.map_nil]
             apply Trc.step rfl rfl; apply wnt_g; exact rfl; exact rfl; exact rfl; (focus (simp [*]; done)); (with_reducible apply s_load); exact rfl; exact rfl; exact rfl
             dsimp only [Nat.reduceAdd, Nat.reduceMul, Nat.reduceSub, List.nil_append, List.cons_append, nbk, List.map_cons, List.map_nil]; apply Trc.step rfl rfl
             apply wnt_g; exact rfl; exact rfl; exact rfl; (focus (simp [*]; done)); (with_reducible apply s_fieldAddr); exact rfl; dsimp only [Nat.reduceAdd, Nat.reduceMul, Nat.reduceSub, List.nil_append, List.cons_append, nbk, List.map_cons, List.map_nil]
             apply Trc.step rfl rfl; apply wnt_g; exact rfl; exact rfl; exact rfl; (focus (simp [*]; done)); (with_reducible apply s_load); exact rfl; exact rfl; exact rfl
             dsimp only [Nat.reduceAdd, Nat.reduceMul, Nat.reduceSub, List.nil_append, List.cons_append, nbk, List.map_cons, List.map_nil]; apply Trc.step rfl rfl
             apply wnt_g; exact rfl; exact rfl; exact rfl; (focus (simp [*]; done)); (with_reducible apply s_eq); exact rfl; exact rfl; dsimp only [Nat.reduceAdd, Nat.reduceMul, Nat.reduceSub, List.nil_append, List.cons_append, nbk, List.map_cons, List.map_nil]
             apply Trc.step rfl rfl; exact wnt_n rfl; (with_reducible apply s_pick_t); exact rfl; (focus (simp [*]; done)); exact rfl; dsimp only [Nat.reduceAdd, Nat.reduceMul, Nat.reduceSub, List.nil_append, List.cons_append, nbk, List.map_cons, List.map_nil]
             apply Trc.step rfl rfl; exact wnt_n rfl; (with_reducible apply s_move); exact rfl; dsimp only [Nat.reduceAdd, Nat.reduceMul, Nat.reduceSub, List.nil_append, List.cons_append, nbk, List.map_cons, List.map_nil]
             apply Trc.step rfl rfl; apply wnt_g; exact rfl; exact rfl; exact rfl; (focus (simp only [*]; rfl)); (with_reducible apply s_fieldAddr); exact rfl; dsimp only [Nat.reduceAdd, Nat.reduceMul, Nat.reduceSub, List.nil_append, List.cons_append, nbk, List.map_cons, List.map_nil]
             apply Trc.step rfl rfl; apply wnt_g; exact rfl; exact rfl; exact rfl; (focus (simp only [*]; rfl)); (with_reducible apply s_load); exact rfl; exact rfl
             exact rfl; dsimp only [Nat.reduceAdd, Nat.reduceMul, Nat.reduceSub, List.nil_append, List.cons_append, nbk, List.map_cons, List.map_nil]; apply Trc.step rfl rfl
             apply wnt_g; exact rfl; exact rfl; exact rfl; (focus (simp only [*]; rfl)); (with_reducible apply s_fieldAddr); exact rfl; dsimp only [Nat.reduceAdd, Nat.reduceMul, Nat.reduceSub, List.nil_append, List.cons_append, nbk, List.map_cons, List.map_nil]
             apply Trc.step rfl rfl; apply wnt_g; exact rfl; exact rfl; exact rfl; (focus (simp only [*]; rfl)); (with_reducible apply s_load); exact rfl; exact rfl
             exact rfl; dsimp only [Nat.reduceAdd, Nat.reduceMul, Nat.reduceSub, List.nil_append, List.cons_append, nbk, List.map_cons, List.map_nil]; apply Trc.step rfl rfl
             apply wnt_g; exact rfl; exact rfl; exact rfl; (focus (simp only [*]; rfl)); (with_reducible apply s_eq); exact rfl; exact rfl; dsimp only [Nat.reduceAdd, Nat.reduceMul, Nat.reduceSub, List.nil_append, List.cons_append, nbk, List.map_cons, List.map_nil]
             apply Trc.step rfl rfl; exact wnt_n rfl; (with_reducible apply s_pick_t); exact rfl; (focus (simp only [*]; rfl)); exact rfl; dsimp only [Nat.reduceAdd, Nat.reduceMul, Nat.reduceSub, List.nil_append, List.cons_append, nbk, List.map_cons, List.map_nil]
             apply Trc.step rfl rfl; exact wnt_n rfl; (with_reducible apply s_move); exact rfl; dsimp only [Nat.reduceAdd, Nat.reduceMul, Nat.reduceSub, List.nil_append, List.cons_append, nbk, List.map_cons, List.map_nil]
             apply Trc.skip rfl rfl; apply wnt_g; exact rfl; exact rfl; exact rfl; (focus (simp only [*]; rfl)); dsimp only [Nat.reduceAdd, Nat.reduceMul, Nat.reduceSub, List.nil_append, List.cons_append, nbk, List.map_cons, List.map_nil]
             apply Trc.skip rfl rfl; apply wnt_g; exact rfl; exact rfl; exact rfl; (focus (simp only [*]; rfl)); dsimp only [Nat.reduceAdd, Nat.reduceMul, Nat.reduceSub, List.nil_append, List.cons_append, nbk, List.map_cons, List.map_nil]
             apply Trc.skip rfl rfl; apply wnt_g; exact rfl; exact rfl; exact rfl; (focus (simp only [*]; rfl)); dsimp only [Nat.reduceAdd, Nat.reduceMul, Nat.reduceSub, List.nil_append, List.cons_append, nbk, List.map_cons, List.map_nil]
             apply Trc.skip rfl rfl; apply wnt_g; exact rfl; exact rfl; exact rfl; (focus (simp only [*]; rfl)); dsimp only [Nat.reduceAdd, Nat.reduceMul, Nat.reduceSub, List.nil_append, List.cons_append, nbk, List.map_cons, List.map_nil]
             apply Trc.skip rfl rfl; apply wnt_g; exact rfl; exact rfl; exact rfl; (focus (simp only [*]; rfl)); dsimp only [Nat.reduceAdd, Nat.reduceMul, Nat.reduceSub, List.nil_append, List.cons_append, nbk, List.map_cons, List.map_nil]
             apply Trc.step rfl rfl; exact wnt_n rfl; (with_reducible apply s_pick_f); exact rfl; (focus (simp only [*]; rfl)); exact rfl; dsimp only [Nat.reduceAdd, Nat.reduceMul, Nat.reduceSub, List.nil_append, List.cons_append, nbk, List.map_cons, List.map_nil]
             apply Trc.step rfl rfl; exact wnt_n rfl; (with_reducible apply s_assign); exact rfl; dsimp only [Nat.reduceAdd, Nat.reduceMul, Nat.reduceSub, List.nil_append, List.cons_append, nbk, List.map_cons, List.map_nil]
             exact Trc.done _ _ _; exact rfl; (with_reducible refine thn_n ?_); (with_reducible refine Gol.ret ?_))
            (apply RetQ.mk (by first | exact .inr rfl | exact .inl rfl); apply res_1 rfl; exact res_tmp rfl; exact out_val)
          · simp [sameKey, *]
      · apply Fresh.bool
        · refine Fresh.of (fn := Try.f14) Try.func14 rfl (Nat.le_of_ble_eq_true rfl) fun w => ?_
          ((with_reducible refine Gol.seq ?_); (with_reducible apply Gol.region); apply Trc.step rfl rfl; exact wnt_n rfl; (with_reducible apply s_box); exact rfl
           exact rfl; dsimp only [Nat.reduceAdd, Nat.reduceMul, Nat.reduceSub, List.nil_append, List.cons_append, nbk, List.map_cons, List.map_nil]; apply Trc.step rfl rfl
           exact wnt_n rfl; (with_reducible apply s_box); exact rfl; exact rfl; dsimp only [Nat.reduceAdd, Nat.reduceMul, Nat.reduceSub, List.nil_append, List.cons_append, nbk, List.map_cons, List.map_nil]
           apply Trc.step rfl rfl; exact wnt_n rfl; (with_reducible apply s_assign); exact rfl; dsimp only [Nat.reduceAdd, Nat.reduceMul, Nat.reduceSub, List.nil_append, List.cons_append, nbk, List.map_cons, List.map_nil]
           exact Trc.done _ _ _; exact rfl; (with_reducible refine thn_n ?_); (with_reducible refine Gol.seq ?_); (with_reducible apply Gol.region); apply Trc.step rfl rfl
           exact wnt_n rfl; (with_reducible apply s_fieldAddr); exact rfl; dsimp only [Nat.reduceAdd, Nat.reduceMul, Nat.reduceSub, List.nil_append, List.cons_append, nbk, List.map_cons, List.map_nil]
           apply Trc.step rfl rfl; exact wnt_n rfl; (with_reducible apply s_load); exact rfl; exact rfl; exact rfl; dsimp only [Nat.reduceAdd, Nat.reduceMul, Nat.reduceSub, List.nil_append, List.cons_append, nbk, List.map_cons, List.map_nil]
           apply Trc.step rfl rfl; exact wnt_n rfl; (with_reducible apply s_fieldAddr); exact rfl; dsimp only [Nat.reduceAdd, Nat.reduceMul, Nat.reduceSub, List.nil_append, List.cons_append, nbk, List.map_cons, List.map_nil]
           apply Trc.step rfl rfl; exact wnt_n rfl; (with_reducible apply s_load); exact rfl; exact rfl; exact rfl; dsimp only [Nat.reduceAdd, Nat.reduceMul, Nat.reduceSub, List.nil_append, List.cons_append, nbk, List.map_cons, List.map_nil]
           apply Trc.step rfl rfl; exact wnt_n rfl; (with_reducible apply s_eq); exact rfl; exact rfl; dsimp only [Nat.reduceAdd, Nat.reduceMul, Nat.reduceSub, List.nil_append, List.cons_append, nbk, List.map_cons, List.map_nil]
           apply Trc.step rfl rfl; exact wnt_n rfl; (with_reducible apply s_move); exact rfl; dsimp only [Nat.reduceAdd, Nat.reduceMul, Nat.reduceSub, List.nil_append, List.cons_append, nbk, List.map_cons, List.map_nil]
           apply Trc.step rfl rfl; apply wnt_g; exact rfl; exact rfl; exact rfl; (focus (simp only [*]; rfl)); (with_reducible apply s_fieldAddr); exact rfl; dsimp only [Nat.reduceAdd, Nat.reduceMul, Nat.reduceSub, List.nil_append, List.cons_append, nbk, List.map_cons, List.map_nil]
           apply Trc.step rfl rfl; apply wnt_g; exact rfl; exact rfl; exact rfl; (focus (simp only [*]; rfl)); (with_reducible apply s_loadN); exact rfl; exact rfl
           exact Nat.le_of_ble_eq_true rfl; exact agu_nm8 rfl; dsimp only [Nat.reduceAdd, Nat.reduceMul, Nat.reduceSub, List.nil_append, List.cons_append, nbk, List.map_cons, List.map_nil]
           apply Trc.step rfl rfl; apply wnt_g; exact rfl; exact rfl; exact rfl; (focus (simp only [*]; rfl)); (with_reducible apply s_fieldAddr); exact rfl; dsimp only [Nat.reduceAdd, Nat.reduceMul, Nat.reduceSub, List.nil_append, List.cons_append, nbk, List.map_cons, List.map_nil]
           apply Trc.step rfl rfl; apply wnt_g; exact rfl; exact rfl; exact rfl; (focus (simp only [*]; rfl)); (with_reducible apply s_loadN); exact rfl; exact rfl
           exact Nat.le_of_ble_eq_true rfl; exact agu_nm8 rfl; dsimp only [Nat.reduceAdd, Nat.reduceMul, Nat.reduceSub, List.nil_append, List.cons_append, nbk, List.map_cons, List.map_nil]
           apply Trc.step rfl rfl; apply wnt_g; exact rfl; exact rfl; exact rfl; (focus (simp only [*]; rfl)); (with_reducible apply s_eqN); exact rfl; exact rfl
           dsimp only [Nat.reduceAdd, Nat.reduceMul, Nat.reduceSub, List.nil_append, List.cons_append, nbk, List.map_cons, List.map_nil]; apply Trc.step rfl rfl
           exact wnt_n rfl; (with_reducible apply s_pick_t); exact rfl; (focus (simp only [*]; rfl)); exact rfl; dsimp only [Nat.reduceAdd, Nat.reduceMul, Nat.reduceSub, List.nil_append, List.cons_append, nbk, List.map_cons, List.map_nil]
           apply Trc.step rfl rfl; exact wnt_n rfl; (with_reducible apply s_move); exact rfl; dsimp only [Nat.reduceAdd, Nat.reduceMul, Nat.reduceSub, List.nil_append, List.cons_append, nbk, List.map_cons, List.map_nil]
           apply Trc.step rfl rfl; apply wnt_g; exact rfl; exact rfl; exact rfl; (focus (simp [*]; done)); (with_reducible apply s_fieldAddr); exact rfl; dsimp only [Nat.reduceAdd, Nat.reduceMul, Nat.reduceSub, List.nil_append, List.cons_append, nbk, List.map_cons, List.map_nil]
           apply Trc.step rfl rfl; apply wnt_g; exact rfl; exact rfl; exact rfl; (focus (simp [*]; done)); (with_reducible apply s_load); exact rfl; exact rfl; exact rfl
           dsimp only [Nat.reduceAdd, Nat.reduceMul, Nat.reduceSub, List.nil_append, List.cons_append, nbk, List.map_cons, List.map_nil]; apply Trc.step rfl rfl
           apply wnt_g; exact rfl; exact rfl; exact rfl; (focus (simp [*]; done)); (with_reducible apply s_fieldAddr); exact rfl; dsimp only [Nat.reduceAdd, Nat.reduceMul, Nat.reduceSub, List.nil_append, List.cons_append, nbk, List.map_cons, List.map_nil]
           apply Trc.step rfl rfl; apply wnt_g; exact rfl; exact rfl; exact rfl; (focus (simp [*]; done)); (with_reducible apply s_load); exact rfl; exact rfl; exact rfl
           dsimp only [Nat.reduceAdd, Nat.reduceMul, Nat.reduceSub, List.nil_append, List.cons_append, nbk, List.map_cons, List.map_nil]; apply Trc.step rfl rfl
           apply wnt_g; exact rfl; exact rfl; exact rfl; (focus (simp [*]; done)); (with_reducible apply s_eq); exact rfl; exact rfl; dsimp only [Nat.reduceAdd, Nat.reduceMul, Nat.reduceSub, List.nil_append, List.cons_append, nbk, List.map_cons, List.map_nil]
           apply Trc.step rfl rfl; exact wnt_n rfl; (with_reducible apply s_pick_t); exact rfl; (focus (simp [*]; done)); exact rfl; dsimp only [Nat.reduceAdd, Nat.reduceMul, Nat.reduceSub, List.nil_append, List.cons_append, nbk, List.map_cons, List.map_nil]
           apply Trc.step rfl rfl; exact wnt_n rfl; (with_reducible apply s_move); exact rfl; dsimp only [Nat.reduceAdd, Nat.reduceMul, Nat.reduceSub, List.nil_append, List.cons_append, nbk, List.map_cons, List.map_nil]
           apply Trc.skip rfl rfl; apply wnt_g; exact rfl; exact rfl; exact rfl; (focus (simp only [*]; rfl)); dsimp only [Nat.reduceAdd, Nat.reduceMul, Nat.reduceSub, List.nil_append, List.cons_append, nbk, List.map_cons, List.map_nil]
           apply Trc.skip rfl rfl; apply wnt_g; exact rfl; exact rfl; exact rfl; (focus (simp only [*]; rfl)); dsimp only [Nat.reduceAdd, Nat.reduceMul, Nat.reduceSub, List.nil_append, List.cons_append, nbk, List.map_cons, List.map_nil]
           apply Trc.skip rfl rfl; apply wnt_g; exact rfl; exact rfl; exact rfl; (focus (simp only [*]; rfl)); dsimp only [Nat.reduceAdd, Nat.reduceMul, Nat.reduceSub, List.nil_append, List.cons_append, nbk, List.map_cons, List.map_nil]
           apply Trc.skip rfl rfl; apply wnt_g; exact rfl; exact rfl; exact rfl; (focus (simp only [*]; rfl)); dsimp only [Nat.reduceAdd, Nat.reduceMul, Nat.reduceSub, List.nil_append, List.cons_append, nbk, List.map_cons, List.map_nil]
           apply Trc.skip rfl rfl; apply wnt_g; exact rfl; exact rfl; exact rfl; (focus (simp only [*]; rfl)); dsimp only [Nat.reduceAdd, Nat.reduceMul, Nat.reduceSub, List.nil_append, List.cons_append, nbk, List.map_cons, List.map_nil]
           apply Trc.step rfl rfl; exact wnt_n rfl; (with_reducible apply s_pick_f); exact rfl; (focus (simp only [*]; rfl)); exact rfl; dsimp only [Nat.reduceAdd, Nat.reduceMul, Nat.reduceSub, List.nil_append, List.cons_append, nbk, List.map_cons, List.map_nil]
           apply Trc.step rfl rfl; exact wnt_n rfl; (with_reducible apply s_move); exact rfl; dsimp only [Nat.reduceAdd, Nat.reduceMul, Nat.reduceSub, List.nil_append, List.cons_append, nbk, List.map_cons, List.map_nil]
           apply Trc.skip rfl rfl; apply wnt_g; exact rfl; exact rfl; exact rfl; rfl; dsimp only [Nat.reduceAdd, Nat.reduceMul, Nat.reduceSub, List.nil_append, List.cons_append, nbk, List.map_cons, List.map_nil]
           apply Trc.skip rfl rfl; apply wnt_g; exact rfl; exact rfl; exact rfl; rfl; dsimp only [Nat.reduceAdd, Nat.reduceMul, Nat.reduceSub, List.nil_append, List.cons_append, nbk, List.map_cons, List.map_nil]
           apply Trc.skip rfl rfl; apply wnt_g; exact rfl; exact rfl; exact rfl; rfl; dsimp only [Nat.reduceAdd, Nat.reduceMul, Nat.reduceSub, List.nil_append, List.cons_append, nbk, List.map_cons, List.map_nil]
           apply Trc.skip rfl rfl; apply wnt_g; exact rfl; exact rfl; exact rfl; rfl; dsimp only [Nat.reduceAdd, Nat.reduceMul, Nat.reduceSub, List.nil_append, List.cons_append, nbk, List.map_cons, List.map_nil]
           apply Trc.skip rfl rfl; apply wnt_g; exact rfl; exact rfl; exact rfl; rfl; dsimp only [Nat.reduceAdd, Nat.reduceMul, Nat.reduceSub, List.nil_append, List.cons_append, nbk, List.map_cons, List.map_nil]
           apply Trc.step rfl rfl; exact wnt_n rfl; (with_reducible apply s_pick_f); exact rfl; rfl; exact rfl; dsimp only [Nat.reduceAdd, Nat.reduceMul, Nat.reduceSub, List.nil_append, List.cons_append, nbk, List.map_cons, List.map_nil]
           apply Trc.step rfl rfl; exact wnt_n rfl; (with_reducible apply s_assign); exact rfl; dsimp only [Nat.reduceAdd, Nat.reduceMul, Nat.reduceSub, List.nil_append, List.cons_append, nbk, List.map_cons, List.map_nil]
           exact Trc.done _ _ _; exact rfl; (with_reducible refine thn_n ?_); (with_reducible refine Gol.ret ?_))
          (apply RetQ.mk (by first | exact .inr rfl | exact .inl rfl); apply res_1 rfl; exact res_tmp rfl; exact out_val)
        · simp [sameKey, *]
    · apply Fresh.bool
      · refine Fresh.of (fn := Try.f14) Try.func14 rfl (Nat.le_of_ble_eq_true rfl) fun w => ?_
        ((with_reducible refine Gol.seq ?_); (with_reducible apply Gol.region); apply Trc.step rfl rfl; exact wnt_n rfl; (with_reducible apply s_box); exact rfl
         exact rfl; dsimp only [Nat.reduceAdd, Nat.reduceMul, Nat.reduceSub, List.nil_append, List.cons_append, nbk, List.map_cons, List.map_nil]; apply Trc.step rfl rfl
         exact wnt_n rfl; (with_reducible apply s_box); exact rfl; exact rfl; dsimp only [Nat.reduceAdd, Nat.reduceMul, Nat.reduceSub, List.nil_append, List.cons_append, nbk, List.map_cons, List.map_nil]
         apply Trc.step rfl rfl; exact wnt_n rfl; (with_reducible apply s_assign); exact rfl; dsimp only [Nat.reduceAdd, Nat.reduceMul, Nat.reduceSub, List.nil_append, List.cons_append, nbk, List.map_cons, List.map_nil]
         exact Trc.done _ _ _; exact rfl; (with_reducible refine thn_n ?_); (with_reducible refine Gol.seq ?_); (with_reducible apply Gol.region); apply Trc.step rfl rfl
         exact wnt_n rfl; (with_reducible apply s_fieldAddr); exact rfl; dsimp only [Nat.reduceAdd, Nat.reduceMul, Nat.reduceSub, List.nil_append, List.cons_append, nbk, List.map_cons, List.map_nil]
         apply Trc.step rfl rfl; exact wnt_n rfl; (with_reducible apply s_load); exact rfl; exact rfl; exact rfl; dsimp only [Nat.reduceAdd, Nat.reduceMul, Nat.reduceSub, List.nil_append, List.cons_append, nbk, List.map_cons, List.map_nil]
         apply Trc.step rfl rfl; exact wnt_n rfl; (with_reducible apply s_fieldAddr); exact rfl; dsimp only [Nat.reduceAdd, Nat.reduceMul, Nat.reduceSub, List.nil_append, List.cons_append, nbk, List.map_cons, List.map_nil]
         apply Trc.step rfl rfl; exact wnt_n rfl; (with_reducible apply s_load); exact rfl; exact rfl; exact rfl; dsimp only [Nat.reduceAdd, Nat.reduceMul, Nat.reduceSub, List.nil_append, List.cons_append, nbk, List.map_cons, List.map_nil]
         apply Trc.step rfl rfl; exact wnt_n rfl; (with_reducible apply s_eq); exact rfl; exact rfl; dsimp only [Nat.reduceAdd, Nat.reduceMul, Nat.reduceSub, List.nil_append, List.cons_append, nbk, List.map_cons, List.map_nil]
         apply Trc.step rfl rfl; exact wnt_n rfl; (with_reducible apply s_move); exact rfl; dsimp only [Nat.reduceAdd, Nat.reduceMul, Nat.reduceSub, List.nil_append, List.cons_append, nbk, List.map_cons, List.map_nil]
         apply Trc.step rfl rfl; apply wnt_g; exact rfl; exact rfl; exact rfl; (focus (simp only [*]; rfl)); (with_reducible apply s_fieldAddr); exact rfl; dsimp only [Nat.reduceAdd, Nat.reduceMul, Nat.reduceSub, List.nil_append, List.cons_append, nbk, List.map_cons, List.map_nil]
         apply Trc.step rfl rfl; apply wnt_g; exact rfl; exact rfl; exact rfl; (focus (simp only [*]; rfl)); (with_reducible apply s_loadN); exact rfl; exact rfl
         exact Nat.le_of_ble_eq_true rfl; exact agu_nm8 rfl; dsimp only [Nat.reduceAdd, Nat.reduceMul, Nat.reduceSub, List.nil_append, List.cons_append, nbk, List.map_cons, List.map_nil]
         apply Trc.step rfl rfl; apply wnt_g; exact rfl; exact rfl; exact rfl; (focus (simp only [*]; rfl)); (with_reducible apply s_fieldAddr); exact rfl; dsimp only [Nat.reduceAdd, Nat.reduceMul, Nat.reduceSub, List.nil_append, List.cons_append, nbk, List.map_cons, List.map_nil]
         apply Trc.step rfl rfl; apply wnt_g; exact rfl; exact rfl; exact rfl; (focus (simp only [*]; rfl)); (with_reducible apply s_loadN); exact rfl; exact rfl
         exact Nat.le_of_ble_eq_true rfl; exact agu_nm8 rfl; dsimp only [Nat.reduceAdd, Nat.reduceMul, Nat.reduceSub, List.nil_append, List.cons_append, nbk, List.map_cons, List.map_nil]
         apply Trc.step rfl rfl; apply wnt_g; exact rfl; exact rfl; exact rfl; (focus (simp only [*]; rfl)); (with_reducible apply s_eqN); exact rfl; exact rfl
         dsimp only [Nat.reduceAdd, Nat.reduceMul, Nat.reduceSub, List.nil_append, List.cons_append, nbk, List.map_cons, List.map_nil]; apply Trc.step rfl rfl
         exact wnt_n rfl; (with_reducible apply s_pick_t); exact rfl; (focus (simp only [*]; rfl)); exact rfl; dsimp only [Nat.reduceAdd, Nat.reduceMul, Nat.reduceSub, List.nil_append, List.cons_append, nbk, List.map_cons, List.map_nil]
         apply Trc.step rfl rfl; exact wnt_n rfl; (with_reducible apply s_move); exact rfl; dsimp only [Nat.reduceAdd, Nat.reduceMul, Nat.reduceSub, List.nil_append, List.cons_append, nbk, List.map_cons, List.map_nil]
         apply Trc.skip rfl rfl; apply wnt_g; exact rfl; exact rfl; exact rfl; (focus (simp [*]; done)); dsimp only [Nat.reduceAdd, Nat.reduceMul, Nat.reduceSub, List.nil_append, List.cons_append, nbk, List.map_cons, List.map_nil]
         apply Trc.skip rfl rfl; apply wnt_g; exact rfl; exact rfl; exact rfl; (focus (simp [*]; done)); dsimp only [Nat.reduceAdd, Nat.reduceMul, Nat.reduceSub, List.nil_append, List.cons_append, nbk, List.map_cons, List.map_nil]
         apply Trc.skip rfl rfl; apply wnt_g; exact rfl; exact rfl; exact rfl; (focus (simp [*]; done)); dsimp only [Nat.reduceAdd, Nat.reduceMul, Nat.reduceSub, List.nil_append, List.cons_append, nbk, List.map_cons, List.map_nil]
         apply Trc.skip rfl rfl; apply wnt_g; exact rfl; exact rfl; exact rfl; (focus (simp [*]; done)); dsimp only [Nat.reduceAdd, Nat.reduceMul, Nat.reduceSub, List.nil_append, List.cons_append, nbk, List.map_cons, List.map_nil]
         apply Trc.skip rfl rfl; apply wnt_g; exact rfl; exact rfl; exact rfl; (focus (simp [*]; done)); dsimp only [Nat.reduceAdd, Nat.reduceMul, Nat.reduceSub, List.nil_append, List.cons_append, nbk, List.map_cons, List.map_nil]
         apply Trc.step rfl rfl; exact wnt_n rfl; (with_reducible apply s_pick_f); exact rfl; (focus (simp [*]; done)); exact rfl; dsimp only [Nat.reduceAdd, Nat.reduceMul, Nat.reduceSub, List.nil_append, List.cons_append, nbk, List.map_cons, List.map_nil]
         apply Trc.step rfl rfl; exact wnt_n rfl; (with_reducible apply s_move); exact rfl; dsimp only [Nat.reduceAdd, Nat.reduceMul, Nat.reduceSub, List.nil_append, List.cons_append, nbk, List.map_cons, List.map_nil]
         apply Trc.skip rfl rfl; apply wnt_g; exact rfl; exact rfl; exact rfl; rfl; dsimp only [Nat.reduceAdd, Nat.reduceMul, Nat.reduceSub, List.nil_append, List.cons_append, nbk, List.map_cons, List.map_nil]
         apply Trc.skip rfl rfl; apply wnt_g; exact rfl; exact rfl; exact rfl; rfl; dsimp only [Nat.reduceAdd, Nat.reduceMul, Nat.reduceSub, List.nil_append, List.cons_append, nbk, List.map_cons, List.map_nil]
         apply Trc.skip rfl rfl; apply wnt_g; exact rfl; exact rfl; exact rfl; rfl; dsimp only [Nat.reduceAdd, Nat.reduceMul, Nat.reduceSub, List.nil_append, List.cons_append, nbk, List.map_cons, List.map_nil]
         apply Trc.skip rfl rfl; apply wnt_g; exact rfl; exact rfl; exact rfl; rfl; dsimp only [Nat.reduceAdd, Nat.reduceMul, Nat.reduceSub, List.nil_append, List.cons_append, nbk, List.map_cons, List.map_nil]
         apply Trc.skip rfl rfl; apply wnt_g; exact rfl; exact rfl; exact rfl; rfl; dsimp only [Nat.reduceAdd, Nat.reduceMul, Nat.reduceSub, List.nil_append, List.cons_append, nbk, List.map_cons, List.map_nil]
         apply Trc.step rfl rfl; exact wnt_n rfl; (with_reducible apply s_pick_f); exact rfl; rfl; exact rfl; dsimp only [Nat.reduceAdd, Nat.reduceMul, Nat.reduceSub, List.nil_append, List.cons_append, nbk, List.map_cons, List.map_nil]
         apply Trc.step rfl rfl; exact wnt_n rfl; (with_reducible apply s_move); exact rfl; dsimp only [Nat.reduceAdd, Nat.reduceMul, Nat.reduceSub, List.nil_append, List.cons_append, nbk, List.map_cons, List.map_nil]
         apply Trc.skip rfl rfl; apply wnt_g; exact rfl; exact rfl; exact rfl; rfl; dsimp only [Nat.reduceAdd, Nat.reduceMul, Nat.reduceSub, List.nil_append, List.cons_append, nbk, List.map_cons, List.map_nil]
         apply Trc.skip rfl rfl; apply wnt_g; exact rfl; exact rfl; exact rfl; rfl; dsimp only [Nat.reduceAdd, Nat.reduceMul, Nat.reduceSub, List.nil_append, List.cons_append, nbk, List.map_cons, List.map_nil]
         apply Trc.skip rfl rfl; apply wnt_g; exact rfl; exact rfl; exact rfl; rfl; dsimp only [Nat.reduceAdd, Nat.reduceMul, Nat.reduceSub, List.nil_append, List.cons_append, nbk, List.map_cons, List.map_nil]
         apply Trc.skip rfl rfl; apply wnt_g; exact rfl; exact rfl; exact rfl; rfl; dsimp only [Nat.reduceAdd, Nat.reduceMul, Nat.reduceSub, List.nil_append, List.cons_append, nbk, List.map_cons, List.map_nil]
         apply Trc.skip rfl rfl; apply wnt_g; exact rfl; exact rfl; exact rfl; rfl; dsimp only [Nat.reduceAdd, Nat.reduceMul, Nat.reduceSub, List.nil_append, List.cons_append, nbk, List.map_cons, List.map_nil]
         apply Trc.step rfl rfl; exact wnt_n rfl; (with_reducible apply s_pick_f); exact rfl; rfl; exact rfl; dsimp only [Nat.reduceAdd, Nat.reduceMul, Nat.reduceSub, List.nil_append, List.cons_append, nbk, List.map_cons, List.map_nil]
         apply Trc.step rfl rfl; exact wnt_n rfl; (with_reducible apply s_assign); exact rfl; dsimp only [Nat.reduceAdd, Nat.reduceMul, Nat.reduceSub, List.nil_append, List.cons_append, nbk, List.map_cons, List.map_nil]
         exact Trc.done _ _ _; exact rfl; (with_reducible refine thn_n ?_); (with_reducible refine Gol.ret ?_))
        (apply RetQ.mk (by first | exact .inr rfl | exact .inl rfl); apply res_1 rfl; exact res_tmp rfl; exact out_val)
      · simp [sameKey, *]
  · apply Fresh.bool
    · refine Fresh.of (fn := Try.f14) Try.func14 rfl (Nat.le_of_ble_eq_true rfl) fun w => ?_
      ((with_reducible refine Gol.seq ?_); (with_reducible apply Gol.region); apply Trc.step rfl rfl; exact wnt_n rfl; (with_reducible apply s_box); exact rfl
       exact rfl; dsimp only [Nat.reduceAdd, Nat.reduceMul, Nat.reduceSub, List.nil_append, List.cons_append, nbk, List.map_cons, List.map_nil]; apply Trc.step rfl rfl
       exact wnt_n rfl; (with_reducible apply s_box); exact rfl; exact rfl; dsimp only [Nat.reduceAdd, Nat.reduceMul, Nat.reduceSub, List.nil_append, List.cons_append, nbk, List.map_cons, List.map_nil]
       apply Trc.step rfl rfl; exact wnt_n rfl; (with_reducible apply s_assign); exact rfl; dsimp only [Nat.reduceAdd, Nat.reduceMul, Nat.reduceSub, List.nil_append, List.cons_append, nbk, List.map_cons, List.map_nil]
       exact Trc.done _ _ _; exact rfl; (with_reducible refine thn_n ?_); (with_reducible refine Gol.seq ?_); (with_reducible apply Gol.region); apply Trc.step rfl rfl
       exact wnt_n rfl; (with_reducible apply s_fieldAddr); exact rfl; dsimp only [Nat.reduceAdd, Nat.reduceMul, Nat.reduceSub, List.nil_append, List.cons_append, nbk, List.map_cons, List.map_nil]
       apply Trc.step rfl rfl; exact wnt_n rfl; (with_reducible apply s_load); exact rfl; exact rfl; exact rfl; dsimp only [Nat.reduceAdd, Nat.reduceMul, Nat.reduceSub, List.nil_append, List.cons_append, nbk, List.map_cons, List.map_nil]
       apply Trc.step rfl rfl; exact wnt_n rfl; (with_reducible apply s_fieldAddr); exact rfl; dsimp only [Nat.reduceAdd, Nat.reduceMul, Nat.reduceSub, List.nil_append, List.cons_append, nbk, List.map_cons, List.map_nil]
       apply Trc.step rfl rfl; exact wnt_n rfl; (with_reducible apply s_load); exact rfl; exact rfl; exact rfl; dsimp only [Nat.reduceAdd, Nat.reduceMul, Nat.reduceSub, List.nil_append, List.cons_append, nbk, List.map_cons, List.map_nil]
       apply Trc.step rfl rfl; exact wnt_n rfl; (with_reducible apply s_eq); exact rfl; exact rfl; dsimp only [Nat.reduceAdd, Nat.reduceMul, Nat.reduceSub, List.nil_append, List.cons_append, nbk, List.map_cons, List.map_nil]
       apply Trc.step rfl rfl; exact wnt_n rfl; (with_reducible apply s_move); exact rfl; dsimp only [Nat.reduceAdd, Nat.reduceMul, Nat.reduceSub, List.nil_append, List.cons_append, nbk, List.map_cons, List.map_nil]
       apply Trc.skip rfl rfl; apply wnt_g; exact rfl; exact rfl; exact rfl; (focus (simp only [*]; rfl)); dsimp only [Nat.reduceAdd, Nat.reduceMul, Nat.reduceSub, List.nil_append, List.cons_append, nbk, List.map_cons, List.map_nil]
       apply Trc.skip rfl rfl; apply wnt_g; exact rfl; exact rfl; exact rfl; (focus (simp only [*]; rfl)); dsimp only [Nat.reduceAdd, Nat.reduceMul, Nat.reduceSub, List.nil_append, List.cons_append, nbk, List.map_cons, List.map_nil]
       apply Trc.skip rfl rfl; apply wnt_g; exact rfl; exact rfl; exact rfl; (focus (simp only [*]; rfl)); dsimp only [Nat.reduceAdd, Nat.reduceMul, Nat.reduceSub, List.nil_append, List.cons_append, nbk, List.map_cons, List.map_nil]
       apply Trc.skip rfl rfl; apply wnt_g; exact rfl; exact rfl; exact rfl; (focus (simp only [*]; rfl)); dsimp only [Nat.reduceAdd, Nat.reduceMul, Nat.reduceSub, List.nil_append, List.cons_append, nbk, List.map_cons, List.map_nil]
       apply Trc.skip rfl rfl; apply wnt_g; exact rfl; exact rfl; exact rfl; (focus (simp only [*]; rfl)); dsimp only [Nat.reduceAdd, Nat.reduceMul, Nat.reduceSub, List.nil_append, List.cons_append, nbk, List.map_cons, List.map_nil]
       apply Trc.step rfl rfl; exact wnt_n rfl; (with_reducible apply s_pick_f); exact rfl; (focus (simp only [*]; rfl)); exact rfl; dsimp only [Nat.reduceAdd, Nat.reduceMul, Nat.reduceSub, List.nil_append, List.cons_append, nbk, List.map_cons, List.map_nil]
       apply Trc.step rfl rfl; exact wnt_n rfl; (with_reducible apply s_move); exact rfl; dsimp only [Nat.reduceAdd, Nat.reduceMul, Nat.reduceSub, List.nil_append, List.cons_append, nbk, List.map_cons, List.map_nil]
       apply Trc.skip rfl rfl; apply wnt_g; exact rfl; exact rfl; exact rfl; rfl; dsimp only [Nat.reduceAdd, Nat.reduceMul, Nat.reduceSub, List.nil_append, List.cons_append, nbk, List.map_cons, List.map_nil]
       apply Trc.skip rfl rfl; apply wnt_g; exact rfl; exact rfl; exact rfl; rfl; dsimp only [Nat.reduceAdd, Nat.reduceMul, Nat.reduceSub, List.nil_append, List.cons_append, nbk, List.map_cons, List.map_nil]
       apply Trc.skip rfl rfl; apply wnt_g; exact rfl; exact rfl; exact rfl; rfl; dsimp only [Nat.reduceAdd, Nat.reduceMul, Nat.reduceSub, List.nil_append, List.cons_append, nbk, List.map_cons, List.map_nil]
       apply Trc.skip rfl rfl; apply wnt_g; exact rfl; exact rfl; exact rfl; rfl; dsimp only [Nat.reduceAdd, Nat.reduceMul, Nat.reduceSub, List.nil_append, List.cons_append, nbk, List.map_cons, List.map_nil]
       apply Trc.skip rfl rfl; apply wnt_g; exact rfl; exact rfl; exact rfl; rfl; dsimp only [Nat.reduceAdd, Nat.reduceMul, Nat.reduceSub, List.nil_append, List.cons_append, nbk, List.map_cons, List.map_nil]
       apply Trc.step rfl rfl; exact wnt_n rfl; (with_reducible apply s_pick_f); exact rfl; rfl; exact rfl; dsimp only [Nat.reduceAdd, Nat.reduceMul, Nat.reduceSub, List.nil_append, List.cons_append, nbk, List.map_cons, List.map_nil]
       apply Trc.step rfl rfl; exact wnt_n rfl; (with_reducible apply s_move); exact rfl; dsimp only [Nat.reduceAdd, Nat.reduceMul, Nat.reduceSub, List.nil_append, List.cons_append, nbk, List.map_cons, List.map_nil]
       apply Trc.skip rfl rfl; apply wnt_g; exact rfl; exact rfl; exact rfl; rfl; dsimp only [Nat.reduceAdd, Nat.reduceMul, Nat.reduceSub, List.nil_append, List.cons_append, nbk, List.map_cons, List.map_nil]
       apply Trc.skip rfl rfl; apply wnt_g; exact rfl; exact rfl; exact rfl; rfl; dsimp only [Nat.reduceAdd, Nat.reduceMul, Nat.reduceSub, List.nil_append, List.cons_append, nbk, List.map_cons, List.map_nil]
       apply Trc.skip rfl rfl; apply wnt_g; exact rfl; exact rfl; exact rfl; rfl; dsimp only [Nat.reduceAdd, Nat.reduceMul, Nat.reduceSub, List.nil_append, List.cons_append, nbk, List.map_cons, List.map_nil]
       apply Trc.skip rfl rfl; apply wnt_g; exact rfl; exact rfl; exact rfl; rfl; dsimp only [Nat.reduceAdd, Nat.reduceMul, Nat.reduceSub, List.nil_append, List.cons_append, nbk, List.map_cons, List.map_nil]
       apply Trc.skip rfl rfl; apply wnt_g; exact rfl; exact rfl; exact rfl; rfl; dsimp only [Nat.reduceAdd, Nat.reduceMul, Nat.reduceSub, List.nil_append, List.cons_append, nbk, List.map_cons, List.map_nil]
       apply Trc.step rfl rfl; exact wnt_n rfl; (with_reducible apply s_pick_f); exact rfl; rfl; exact rfl; dsimp only [Nat.reduceAdd, Nat.reduceMul, Nat.reduceSub, List.nil_append, List.cons_append, nbk, List.map_cons, List.map_nil]
       apply Trc.step rfl rfl; exact wnt_n rfl; (with_reducible apply s_move); exact rfl; dsimp only [Nat.reduceAdd, Nat.reduceMul, Nat.reduceSub, List.nil_append, List.cons_append, nbk, List.map_cons, List.map_nil]
       apply Trc.skip rfl rfl; apply wnt_g; exact rfl; exact rfl; exact rfl; rfl; dsimp only [Nat.reduceAdd, Nat.reduceMul, Nat.reduceSub, List.nil_append, List.cons_append, nbk, List.map_cons, List.map_nil]
       apply Trc.skip rfl rfl; apply wnt_g; exact rfl; exact rfl; exact rfl; rfl; dsimp only [Nat.reduceAdd, Nat.reduceMul, Nat.reduceSub, List.nil_append, List.cons_append, nbk, List.map_cons, List.map_nil]
       apply Trc.skip rfl rfl; apply wnt_g; exact rfl; exact rfl; exact rfl; rfl; dsimp only [Nat.reduceAdd, Nat.reduceMul, Nat.reduceSub, List.nil_append, List.cons_append, nbk, List.map_cons, List.map_nil]
       apply Trc.skip rfl rfl; apply wnt_g; exact rfl; exact rfl; exact rfl; rfl; dsimp only [Nat.reduceAdd, Nat.reduceMul, Nat.reduceSub, List.nil_append, List.cons_append, nbk, List.map_cons, List.map_nil]
       apply Trc.skip rfl rfl; apply wnt_g; exact rfl; exact rfl; exact rfl; rfl; dsimp only [Nat.reduceAdd, Nat.reduceMul, Nat.reduceSub, List.nil_append, List.cons_append, nbk, List.map_cons, List.map_nil]
       apply Trc.step rfl rfl; exact wnt_n rfl; (with_reducible apply s_pick_f); exact rfl; rfl; exact rfl; dsimp only [Nat.reduceAdd, Nat.reduceMul, Nat.reduceSub, List.nil_append, List.cons_append, nbk, List.map_cons, List.map_nil]
       apply Trc.step rfl rfl; exact wnt_n rfl; (with_reducible apply s_assign); exact rfl; dsimp only [Nat.reduceAdd, Nat.reduceMul, Nat.reduceSub, List.nil_append, List.cons_append, nbk, List.map_cons, List.map_nil]
       exact Trc.done _ _ _; exact rfl; (with_reducible refine thn_n ?_); (with_reducible refine Gol.ret ?_))
      (apply RetQ.mk (by first | exact .inr rfl | exact .inl rfl); apply res_1 rfl; exact res_tmp rfl; exact out_val)
    · simp [sameKey, *]
end Go.Proofs.Ytjdacnjdmhhbgaa
