/-
  Texts laid together: St11, St12, St27, St13, St18, St14. Conditions: as told in each.
-/
import Derived.Test.YtkkeeokeihkagaaGreatKb3
set_option linter.unusedSimpArgs false
set_option linter.unusedVariables false
set_option linter.unusedSectionVars false
/-
  Layer 21: the list of leaves. Conditions: lengths below 2^17.
-/
namespace Go.Proofs.YtkkeeokeihkagaaGreat
open Go.RowKit

section
variable (S : List UInt8 → UInt64)
def lv1 (s : Stt) (j : Nat) : List UInt64 := (s.cells.take j).map (leafD S)
def lv2 (s : Stt) (j : Nat) : List UInt64 := lv1 S s s.cells.length ++ (List.range j).map fun i => leafQ S i (s.seqs.getD i 0)
def lv3 (s : Stt) (j : Nat) : List UInt64 := lv2 S s s.seqs.length ++ (s.locks.take j).map (leafL S)
def lv4 (s : Stt) (j : Nat) : List UInt64 := lv3 S s s.locks.length ++ (s.applied.take j).map (leafN S)
def leavesN (s : Stt) : List UInt64 := lv4 S s s.applied.length ++ [leafG S s.guilty]
theorem map_take {α β : Type} {f : α → β} {l : List α} {j : Nat} {x : α} (h : l[j]? = some x) : (l.take (j + 1)).map f = (l.take j).map f ++ [f x] := by
  obtain ⟨hl, e⟩ := List.getElem?_eq_some_iff.1 h
  rw [List.take_succ_eq_append_getElem hl, List.map_append, e]; rfl
theorem lv1_next {s : Stt} {j : Nat} {x : Dl} (h : s.cells[j]? = some x) : lv1 S s (j + 1) = lv1 S s j ++ [leafD S x] := map_take h
theorem lv2_next {s : Stt} {j : Nat} : lv2 S s (j + 1) = lv2 S s j ++ [leafQ S j (s.seqs.getD j 0)] := by
  unfold lv2; rw [List.range_succ, List.map_append, List.append_assoc]; rfl
theorem lv3_next {s : Stt} {j : Nat} {x : Lk} (h : s.locks[j]? = some x) : lv3 S s (j + 1) = lv3 S s j ++ [leafL S x] := by unfold lv3; rw [map_take h, List.append_assoc]
theorem lv4_next {s : Stt} {j : Nat} {x : UInt64} (h : s.applied[j]? = some x) : lv4 S s (j + 1) = lv4 S s j ++ [leafN S x] := by unfold lv4; rw [map_take h, List.append_assoc]
theorem lv1_len (s : Stt) (j : Nat) : (lv1 S s j).length ≤ s.cells.length := by simp [lv1]; omega
theorem lv2_len (s : Stt) (j : Nat) : (lv2 S s j).length ≤ s.cells.length + j := by have := lv1_len S s s.cells.length; simp [lv2]; omega
theorem lv3_len (s : Stt) (j : Nat) : (lv3 S s j).length ≤ s.cells.length + s.seqs.length + s.locks.length := by have := lv2_len S s s.seqs.length; simp [lv3]; omega
theorem lv4_len (s : Stt) (j : Nat) : (lv4 S s j).length ≤ s.cells.length + s.seqs.length + s.locks.length + s.applied.length := by have := lv3_len S s s.locks.length; simp [lv4]; omega
variable (hS : HashF S)
include hS
theorem leaves_ok (s : Stt) (hs : Sm s) : Fresh Tryz.prog 31 [stA s] (fun k => .sl k (leavesN S s).length) [⟨byA (flat (leavesN S s)), 30, 8⟩] := by
  obtain ⟨h1, h2, h3, h4⟩ := hs
  unfold stA
  refine Fresh.of (fn := Tryz.f31) Tryz.func31 rfl (Nat.le_of_ble_eq_true rfl) fun w => ?_
  (refine Gol.seq ?_; apply Gol.region; apply Trc.stp rfl rfl rfl; apply s_box; exact rfl
   exact rfl; dsimp only [Nat.reduceAdd, Nat.reduceMul, Nat.reduceSub, List.nil_append, List.cons_append, nbk, List.map_cons, List.map_nil]; apply Trc.stp rfl rfl rfl; apply s_assign; exact rfl; dsimp only [Nat.reduceAdd, Nat.reduceMul, List.nil_append]
   exact Trc.done _ _ _; exact rfl; refine thn_n ?_; refine Gol.seq ?_; apply Gol.region; apply Trc.stp rfl rfl rfl; apply s_assign; exact rfl; dsimp only [Nat.reduceAdd, Nat.reduceMul, List.nil_append]
   exact Trc.done _ _ _; exact rfl; refine thn_n ?_; refine Gol.seq ?_; refine Gol.seq ?_; apply Gol.region
   apply Trc.stp rfl rfl rfl; apply s_fieldAddr; exact rfl; dsimp only [Nat.reduceAdd, Nat.reduceMul, List.nil_append]
   apply Trc.stp rfl rfl rfl; apply s_load; exact rfl; exact rfl; exact rfl; dsimp only [Nat.reduceAdd, Nat.reduceMul, List.nil_append]
   apply Trc.stp rfl rfl rfl; apply s_len; exact rfl; exact ln_ex; dsimp only [Nat.reduceAdd, Nat.reduceMul, List.nil_append]
   apply Trc.stp rfl rfl rfl; apply s_move; exact rfl; dsimp only [Nat.reduceAdd, Nat.reduceMul, List.nil_append]
   exact Trc.done _ _ _; exact rfl; refine thn_n ?_; refine Gol.block ?_)
  refine Gol.le (Le.nilOwn (i := 3) 30 8 rfl) ?_
  refine Gol.loop (ι := Nat) (fun j => j ≤ s.cells.length) (fun j => s.cells.length - j) 200 (fun j => [(199, some ⟨byA (flat (lv1 S s j)), 30, 8⟩), (0, some ⟨[.ex s.cells.length false (dsA s.cells), .ex s.seqs.length false (inA s.seqs), .ex s.locks.length false (lsA s.locks), .ex s.applied.length false (byA (flat s.applied)), .v (.int .i64 s.guilty)], 28, 5⟩)]) (fun j => [(15, .v (.int .i64 (j : Int))), (14, .v (.int .i64 (s.cells.length : Int))), (13, .ex s.cells.length false (dsA s.cells)), (3, .sl 199 (lv1 S s j).length), (1, .pt 0 0)]) 0 (Nat.zero_le _) ?_ ?_
  · (apply Le.mk3' [(199, 56)]; apply RnT3.c; exact rfl; apply Rn3.r; exact Rn.v rfl; apply RnT3.c; exact rfl; apply Rn3.r; exact Rn.v rfl; apply RnT3.c; exact rfl
     apply Rn3.r; exact Rn.clo inferInstance rfl; apply RnT3.c; exact rfl; apply Rn3.r; exact Rn.sl rfl rfl; apply RnT3.c; exact rfl; apply Rn3.r; exact Rn.pt rfl rfl
     exact RnT3.n; apply RnH3.c; exact rfl; exact rfl; apply RnC.cl; rfl; exact inferInstance; exact rfl; exact rfl; apply RnH3.c; exact rfl; exact rfl; apply RnC.cl
     rfl; exact inferInstance; exact rfl; exact rfl; exact RnH3.n; exact rfl)
  intro j hj
  have hLj := lv1_len S s j
  (refine Gol.seq ?_; apply Gol.region; apply Trc.stp rfl rfl rfl; apply s_ltn; exact rfl
   exact rfl; dsimp only [Nat.reduceAdd, Nat.reduceMul, List.nil_append]; exact Trc.done _ _ _
   exact rfl; refine thn_n ?_; refine Gol.seq ?_)
  refine Gol.cond rfl (fun h => ?_) (fun h => ?_)
  · have hlt : j < s.cells.length := of_decide_eq_true h
    obtain ⟨d, hd⟩ : ∃ d, s.cells[j]? = some d := ⟨s.cells[j], List.getElem?_eq_getElem hlt⟩
    have hN := lv1_next S hd
    (refine Gol.skip ?_; refine thn_n ?_; refine Gol.seq ?_; refine Gol.block ?_; refine Gol.seq ?_
     apply Gol.region; apply Trc.stp rfl rfl rfl; apply s_ixe; exact rfl; exact rfl; omega; exact ds_ne (by omega)
     dsimp only [Nat.reduceAdd, Nat.reduceMul, List.nil_append]; apply Trc.stp rfl rfl rfl; apply s_loadEN; exact rfl; simp only [byA_length, List.length_append, List.length_cons, List.length_nil, List.length_take, List.length_drop, List.length_replicate, List.length_map, Nat.mul_one, nameB_length, flat_length, List.length_set, inA_length, dsA_length, lsA_length, dA_length, lA_length] <;> omega
     exact agu_d (by assumption); dsimp only [Nat.reduceAdd, Nat.reduceMul, List.nil_append]
     apply Trc.stp rfl rfl rfl; apply s_alloc; dsimp only [Nat.reduceAdd, Nat.reduceMul, Nat.reduceSub, List.nil_append, List.cons_append, nbk, List.map_cons, List.map_nil]
     apply Trc.stepN rfl rfl; exact wnt_n rfl; apply s_storeW; exact rfl; exact rfl; exact rfl; exact rfl; rfl; exact rfl; dsimp only [Nat.reduceAdd, Nat.reduceMul, Nat.reduceSub, List.nil_append, List.cons_append, nbk, List.map_cons, List.map_nil]
     exact Trc.done _ _ _; exact rfl; refine thn_n ?_; apply Gol.region; apply Trc.stp rfl rfl rfl; apply s_move
     exact rfl; dsimp only [Nat.reduceAdd, Nat.reduceMul, List.nil_append]; apply Trc.stp rfl rfl rfl; apply s_loadW; exact rfl; exact rfl; exact rfl; exact agu_cuv _; dsimp only [Nat.reduceAdd, Nat.reduceMul, List.nil_append]
     apply Trc.stp rfl rfl rfl; apply s_call (f := 42) rfl; apply evs.cons rfl; exact evs.nil; apply ArgL.cons; exact arg_clo
     exact ArgL.nil; exact leafCell_ok S hS d; exact Nat.le_of_ble_eq_true rfl; dsimp only [Nat.reduceAdd, Nat.reduceMul, Nat.reduceSub, List.nil_append, List.cons_append, nbk, List.map_cons, List.map_nil]
     apply Trc.stp rfl rfl rfl; apply s_lit; apply PA.cons; exact rfl; exact rfl; exact rfl; exact PA.nil; exact rfl; omega
     dsimp only [Nat.reduceAdd, Nat.reduceMul, Nat.reduceSub, List.nil_append, List.cons_append, nbk, List.map_cons, List.map_nil]; apply Trc.stp rfl rfl rfl; apply s_app; exact rfl; exact rfl; exact rfl; apply rd_sl rfl; rfl; simp only [byA_length, List.length_append, List.length_cons, List.length_nil, List.length_take, List.length_drop, List.length_replicate, List.length_map, Nat.mul_one, nameB_length, flat_length, List.length_set, inA_length, dsA_length, lsA_length, dA_length, lA_length] <;> omega
     exact rfl; exact rfl; rfl; omega; dsimp only [Nat.reduceAdd, Nat.reduceMul, Nat.reduceSub, List.nil_append, List.cons_append, nbk, List.map_cons, List.map_nil]
     apply Trc.stp rfl rfl rfl; apply s_assign; exact rfl; dsimp only [Nat.reduceAdd, Nat.reduceMul, List.nil_append]
     exact Trc.done _ _ _; exact rfl; refine inBlk_n ?_; refine thn_n ?_; apply Gol.region; apply Trc.stp rfl rfl rfl; apply s_addn; exact rfl; exact rfl; simp <;> omega; dsimp only [Nat.reduceAdd, Nat.reduceMul, List.nil_append]
     apply Trc.stp rfl rfl rfl; apply s_move; exact rfl; dsimp only [Nat.reduceAdd, Nat.reduceMul, List.nil_append]
     exact Trc.done _ _ _; exact rfl)
    refine rnd_n (j + 1) (by omega) (by omega) ?_
    rw [hN, List.length_append, List.length_singleton]
    (apply Le.mk3' [(199, 272)]; apply RnT3.c; exact rfl; apply Rn3.r; exact Rn.v rfl; apply RnT3.c; exact rfl; apply Rn3.r; exact Rn.v rfl; apply RnT3.c; exact rfl
     apply Rn3.r; exact Rn.clo inferInstance rfl; apply RnT3.c; exact rfl; apply Rn3.r; exact Rn.sl rfl rfl; apply RnT3.c; exact rfl; apply Rn3.r; exact Rn.pt rfl rfl
     exact RnT3.n; apply RnH3.c; exact rfl; exact rfl; apply RnC.cl; exact grow_eq2; exact inferInstance; exact rfl; exact rfl; apply RnH3.c; exact rfl; exact rfl
     apply RnC.cl; rfl; exact inferInstance; exact rfl; exact rfl; exact RnH3.n; exact rfl)
  have hge1 : ¬ j < s.cells.length := of_decide_eq_false h
  obtain rfl : j = s.cells.length := by omega
  (refine Gol.exit ?_; refine thn_x ?_; refine rnd_x ?_; refine inBlk_hit ?_; refine thn_n ?_
   refine Gol.seq ?_; refine Gol.seq ?_; apply Gol.region; apply Trc.stp rfl rfl rfl; apply s_fieldAddr
   exact rfl; dsimp only [Nat.reduceAdd, Nat.reduceMul, List.nil_append]; apply Trc.stp rfl rfl rfl; apply s_load; exact rfl; exact rfl; exact rfl; dsimp only [Nat.reduceAdd, Nat.reduceMul, List.nil_append]
   apply Trc.stp rfl rfl rfl; apply s_len; exact rfl; exact ln_ex; dsimp only [Nat.reduceAdd, Nat.reduceMul, List.nil_append]
   apply Trc.stp rfl rfl rfl; apply s_move; exact rfl; dsimp only [Nat.reduceAdd, Nat.reduceMul, List.nil_append]
   exact Trc.done _ _ _; exact rfl; refine thn_n ?_; refine Gol.block ?_)
  refine Gol.loop (ι := Nat) (fun j => j ≤ s.seqs.length) (fun j => s.seqs.length - j) 200 (fun j => [(199, some ⟨byA (flat (lv2 S s j)), 30, 8⟩), (0, some ⟨[.ex s.cells.length false (dsA s.cells), .ex s.seqs.length false (inA s.seqs), .ex s.locks.length false (lsA s.locks), .ex s.applied.length false (byA (flat s.applied)), .v (.int .i64 s.guilty)], 28, 5⟩)]) (fun j => [(28, .v (.int .i64 (j : Int))), (27, .v (.int .i64 (s.seqs.length : Int))), (26, .ex s.seqs.length false (inA s.seqs)), (3, .sl 199 (lv2 S s j).length), (1, .pt 0 0)]) 0 (Nat.zero_le _) ?_ ?_
  · rw [show lv2 S s 0 = lv1 S s s.cells.length by simp [lv2]]
    (apply Le.mk3' []; apply RnT3.c; exact rfl; apply Rn3.r; exact Rn.v rfl; apply RnT3.c; exact rfl; apply Rn3.r; exact Rn.v rfl; apply RnT3.c; exact rfl
     apply Rn3.r; exact Rn.clo inferInstance rfl; apply RnT3.c; exact rfl; apply Rn3.r; exact Rn.sl rfl rfl; apply RnT3.c; exact rfl; apply Rn3.r; exact Rn.pt rfl rfl
     exact RnT3.n; apply RnH3.c; exact rfl; exact rfl; apply RnC.cl; rfl; exact inferInstance; exact rfl; exact rfl; apply RnH3.c; exact rfl; exact rfl; apply RnC.cl
     rfl; exact inferInstance; exact rfl; exact rfl; exact RnH3.n; exact rfl)
  intro j hj
  have hLj := lv2_len S s j
  (refine Gol.seq ?_; apply Gol.region; apply Trc.stp rfl rfl rfl; apply s_ltn; exact rfl
   exact rfl; dsimp only [Nat.reduceAdd, Nat.reduceMul, List.nil_append]; exact Trc.done _ _ _
   exact rfl; refine thn_n ?_; refine Gol.seq ?_)
  refine Gol.cond rfl (fun h => ?_) (fun h => ?_)
  · have hlt : j < s.seqs.length := of_decide_eq_true h
    have hne : inA s.seqs ≠ [] := fun e => by have := inA_length s.seqs; rw [e] at this; simp at this; omega
    have hN := lv2_next S (s := s) (j := j)
    (refine Gol.skip ?_; refine thn_n ?_; refine Gol.seq ?_; refine Gol.block ?_; refine Gol.seq ?_
     apply Gol.region; apply Trc.stp rfl rfl rfl; apply s_move; exact rfl; dsimp only [Nat.reduceAdd, Nat.reduceMul, List.nil_append]
     apply Trc.stp rfl rfl rfl; apply s_ixe; exact rfl; exact rfl; omega; assumption; dsimp only [Nat.reduceAdd, Nat.reduceMul, List.nil_append]
     apply Trc.stp rfl rfl rfl; apply s_loadE; exact rfl; apply in_get0; assumption; dsimp only [Nat.reduceAdd, Nat.reduceMul, List.nil_append]
     apply Trc.stp rfl rfl rfl; apply s_assign; exact rfl; dsimp only [Nat.reduceAdd, Nat.reduceMul, List.nil_append]
     apply Trc.stp rfl rfl rfl; apply s_assign; exact rfl; dsimp only [Nat.reduceAdd, Nat.reduceMul, List.nil_append]
     exact Trc.done _ _ _; exact rfl; refine thn_n ?_; apply Gol.region; apply Trc.stp rfl rfl rfl; apply s_move
     exact rfl; dsimp only [Nat.reduceAdd, Nat.reduceMul, List.nil_append]; apply Trc.stp rfl rfl rfl; apply s_move; exact rfl; dsimp only [Nat.reduceAdd, Nat.reduceMul, List.nil_append]
     apply Trc.stp rfl rfl rfl; apply s_cu8; exact rfl; dsimp only [Nat.reduceAdd, Nat.reduceMul, List.nil_append]
     apply Trc.stp rfl rfl rfl; apply s_move; exact rfl; dsimp only [Nat.reduceAdd, Nat.reduceMul, List.nil_append]
     apply Trc.stp rfl rfl rfl; apply s_cu8; exact rfl; dsimp only [Nat.reduceAdd, Nat.reduceMul, List.nil_append]
     apply Trc.stp rfl rfl rfl; apply s_bytesP; apply PV.cons; exact rfl; exact rfl; exact rfl; apply PV.cons; exact rfl; exact rfl
     exact rfl; exact PV.nil; exact rfl; omega; dsimp only [Nat.reduceAdd, Nat.reduceMul, Nat.reduceSub, List.nil_append, List.cons_append, nbk, List.map_cons, List.map_nil]
     apply Trc.stp rfl rfl rfl; apply s_call (f := 69) rfl; apply evs.cons rfl; apply evs.cons rfl; exact evs.nil; apply ArgL.cons
     exact arg_clo; apply ArgL.cons; exact arg_sl rfl; exact ArgL.nil; exact hS.tagged 0x53 [toU8 (j : Int), toU8 (s.seqs.getD j 0)] 2 _ rfl (by decide); exact Nat.le_of_ble_eq_true rfl
     dsimp only [Nat.reduceAdd, Nat.reduceMul, Nat.reduceSub, List.nil_append, List.cons_append, nbk, List.map_cons, List.map_nil]; apply Trc.stp rfl rfl rfl; apply s_lit; apply PA.cons; exact rfl; exact rfl; exact rfl; exact PA.nil; exact rfl; omega; dsimp only [Nat.reduceAdd, Nat.reduceMul, Nat.reduceSub, List.nil_append, List.cons_append, nbk, List.map_cons, List.map_nil]
     apply Trc.stp rfl rfl rfl; apply s_app; exact rfl; exact rfl; exact rfl; apply rd_sl rfl; rfl; simp only [byA_length, List.length_append, List.length_cons, List.length_nil, List.length_take, List.length_drop, List.length_replicate, List.length_map, Nat.mul_one, nameB_length, flat_length, List.length_set, inA_length, dsA_length, lsA_length, dA_length, lA_length] <;> omega
     exact rfl; exact rfl; rfl; omega; dsimp only [Nat.reduceAdd, Nat.reduceMul, Nat.reduceSub, List.nil_append, List.cons_append, nbk, List.map_cons, List.map_nil]
     apply Trc.stp rfl rfl rfl; apply s_assign; exact rfl; dsimp only [Nat.reduceAdd, Nat.reduceMul, List.nil_append]
     exact Trc.done _ _ _; exact rfl; refine inBlk_n ?_; refine thn_n ?_; apply Gol.region; apply Trc.stp rfl rfl rfl; apply s_addn; exact rfl; exact rfl; simp <;> omega; dsimp only [Nat.reduceAdd, Nat.reduceMul, List.nil_append]
     apply Trc.stp rfl rfl rfl; apply s_move; exact rfl; dsimp only [Nat.reduceAdd, Nat.reduceMul, List.nil_append]
     exact Trc.done _ _ _; exact rfl)
    refine rnd_n (j + 1) (by omega) (by omega) ?_
    rw [hN, List.length_append, List.length_singleton]
    (apply Le.mk3' [(199, 312)]; apply RnT3.c; exact rfl; apply Rn3.r; exact Rn.v rfl; apply RnT3.c; exact rfl; apply Rn3.r; exact Rn.v rfl; apply RnT3.c; exact rfl
     apply Rn3.r; exact Rn.clo inferInstance rfl; apply RnT3.c; exact rfl; apply Rn3.r; exact Rn.sl rfl rfl; apply RnT3.c; exact rfl; apply Rn3.r; exact Rn.pt rfl rfl
     exact RnT3.n; apply RnH3.c; exact rfl; exact rfl; apply RnC.cl; exact grow_eq2; exact inferInstance; exact rfl; exact rfl; apply RnH3.c; exact rfl; exact rfl
     apply RnC.cl; rfl; exact inferInstance; exact rfl; exact rfl; exact RnH3.n; exact rfl)
  have hge2 : ¬ j < s.seqs.length := of_decide_eq_false h
  obtain rfl : j = s.seqs.length := by omega
  (refine Gol.exit ?_; refine thn_x ?_; refine rnd_x ?_; refine inBlk_hit ?_; refine thn_n ?_
   refine Gol.seq ?_; refine Gol.seq ?_; apply Gol.region; apply Trc.stp rfl rfl rfl; apply s_fieldAddr
   exact rfl; dsimp only [Nat.reduceAdd, Nat.reduceMul, List.nil_append]; apply Trc.stp rfl rfl rfl; apply s_load; exact rfl; exact rfl; exact rfl; dsimp only [Nat.reduceAdd, Nat.reduceMul, List.nil_append]
   apply Trc.stp rfl rfl rfl; apply s_len; exact rfl; exact ln_ex; dsimp only [Nat.reduceAdd, Nat.reduceMul, List.nil_append]
   apply Trc.stp rfl rfl rfl; apply s_move; exact rfl; dsimp only [Nat.reduceAdd, Nat.reduceMul, List.nil_append]
   exact Trc.done _ _ _; exact rfl; refine thn_n ?_; refine Gol.block ?_)
  refine Gol.loop (ι := Nat) (fun j => j ≤ s.locks.length) (fun j => s.locks.length - j) 200 (fun j => [(199, some ⟨byA (flat (lv3 S s j)), 30, 8⟩), (0, some ⟨[.ex s.cells.length false (dsA s.cells), .ex s.seqs.length false (inA s.seqs), .ex s.locks.length false (lsA s.locks), .ex s.applied.length false (byA (flat s.applied)), .v (.int .i64 s.guilty)], 28, 5⟩)]) (fun j => [(46, .v (.int .i64 (j : Int))), (45, .v (.int .i64 (s.locks.length : Int))), (44, .ex s.locks.length false (lsA s.locks)), (3, .sl 199 (lv3 S s j).length), (1, .pt 0 0)]) 0 (Nat.zero_le _) ?_ ?_
  · rw [show lv3 S s 0 = lv2 S s s.seqs.length by simp [lv3]]
    (apply Le.mk3' []; apply RnT3.c; exact rfl; apply Rn3.r; exact Rn.v rfl; apply RnT3.c; exact rfl; apply Rn3.r; exact Rn.v rfl; apply RnT3.c; exact rfl
     apply Rn3.r; exact Rn.clo inferInstance rfl; apply RnT3.c; exact rfl; apply Rn3.r; exact Rn.sl rfl rfl; apply RnT3.c; exact rfl; apply Rn3.r; exact Rn.pt rfl rfl
     exact RnT3.n; apply RnH3.c; exact rfl; exact rfl; apply RnC.cl; rfl; exact inferInstance; exact rfl; exact rfl; apply RnH3.c; exact rfl; exact rfl; apply RnC.cl
     rfl; exact inferInstance; exact rfl; exact rfl; exact RnH3.n; exact rfl)
  intro j hj
  have hLj := lv3_len S s j
  (refine Gol.seq ?_; apply Gol.region; apply Trc.stp rfl rfl rfl; apply s_ltn; exact rfl
   exact rfl; dsimp only [Nat.reduceAdd, Nat.reduceMul, List.nil_append]; exact Trc.done _ _ _
   exact rfl; refine thn_n ?_; refine Gol.seq ?_)
  refine Gol.cond rfl (fun h => ?_) (fun h => ?_)
  · have hlt : j < s.locks.length := of_decide_eq_true h
    obtain ⟨d, hd⟩ : ∃ d, s.locks[j]? = some d := ⟨s.locks[j], List.getElem?_eq_getElem hlt⟩
    have hN := lv3_next S hd
    (refine Gol.skip ?_; refine thn_n ?_; refine Gol.seq ?_; refine Gol.block ?_; refine Gol.seq ?_
     apply Gol.region; apply Trc.stp rfl rfl rfl; apply s_ixe; exact rfl; exact rfl; omega; exact ls_ne (by omega)
     dsimp only [Nat.reduceAdd, Nat.reduceMul, List.nil_append]; apply Trc.stp rfl rfl rfl; apply s_loadEN; exact rfl; simp only [byA_length, List.length_append, List.length_cons, List.length_nil, List.length_take, List.length_drop, List.length_replicate, List.length_map, Nat.mul_one, nameB_length, flat_length, List.length_set, inA_length, dsA_length, lsA_length, dA_length, lA_length] <;> omega
     exact agu_l (by assumption); dsimp only [Nat.reduceAdd, Nat.reduceMul, List.nil_append]
     apply Trc.stp rfl rfl rfl; apply s_alloc; dsimp only [Nat.reduceAdd, Nat.reduceMul, Nat.reduceSub, List.nil_append, List.cons_append, nbk, List.map_cons, List.map_nil]
     apply Trc.stepN rfl rfl; exact wnt_n rfl; apply s_storeW; exact rfl; exact rfl; exact rfl; exact rfl; rfl; exact rfl; dsimp only [Nat.reduceAdd, Nat.reduceMul, Nat.reduceSub, List.nil_append, List.cons_append, nbk, List.map_cons, List.map_nil]
     exact Trc.done _ _ _; exact rfl; refine thn_n ?_; apply Gol.region; apply Trc.stp rfl rfl rfl; apply s_move
     exact rfl; dsimp only [Nat.reduceAdd, Nat.reduceMul, List.nil_append]; apply Trc.stp rfl rfl rfl; apply s_loadW; exact rfl; exact rfl; exact rfl; exact agu_cuv _; dsimp only [Nat.reduceAdd, Nat.reduceMul, List.nil_append]
     apply Trc.stp rfl rfl rfl; apply s_call (f := 70) rfl; apply evs.cons rfl; exact evs.nil; apply ArgL.cons; exact arg_clo
     exact ArgL.nil; exact leafLock_ok S hS d; exact Nat.le_of_ble_eq_true rfl; dsimp only [Nat.reduceAdd, Nat.reduceMul, Nat.reduceSub, List.nil_append, List.cons_append, nbk, List.map_cons, List.map_nil]
     apply Trc.stp rfl rfl rfl; apply s_lit; apply PA.cons; exact rfl; exact rfl; exact rfl; exact PA.nil; exact rfl; omega
     dsimp only [Nat.reduceAdd, Nat.reduceMul, Nat.reduceSub, List.nil_append, List.cons_append, nbk, List.map_cons, List.map_nil]; apply Trc.stp rfl rfl rfl; apply s_app; exact rfl; exact rfl; exact rfl; apply rd_sl rfl; rfl; simp only [byA_length, List.length_append, List.length_cons, List.length_nil, List.length_take, List.length_drop, List.length_replicate, List.length_map, Nat.mul_one, nameB_length, flat_length, List.length_set, inA_length, dsA_length, lsA_length, dA_length, lA_length] <;> omega
     exact rfl; exact rfl; rfl; omega; dsimp only [Nat.reduceAdd, Nat.reduceMul, Nat.reduceSub, List.nil_append, List.cons_append, nbk, List.map_cons, List.map_nil]
     apply Trc.stp rfl rfl rfl; apply s_assign; exact rfl; dsimp only [Nat.reduceAdd, Nat.reduceMul, List.nil_append]
     exact Trc.done _ _ _; exact rfl; refine inBlk_n ?_; refine thn_n ?_; apply Gol.region; apply Trc.stp rfl rfl rfl; apply s_addn; exact rfl; exact rfl; simp <;> omega; dsimp only [Nat.reduceAdd, Nat.reduceMul, List.nil_append]
     apply Trc.stp rfl rfl rfl; apply s_move; exact rfl; dsimp only [Nat.reduceAdd, Nat.reduceMul, List.nil_append]
     exact Trc.done _ _ _; exact rfl)
    refine rnd_n (j + 1) (by omega) (by omega) ?_
    rw [hN, List.length_append, List.length_singleton]
    (apply Le.mk3' [(199, 272)]; apply RnT3.c; exact rfl; apply Rn3.r; exact Rn.v rfl; apply RnT3.c; exact rfl; apply Rn3.r; exact Rn.v rfl; apply RnT3.c; exact rfl
     apply Rn3.r; exact Rn.clo inferInstance rfl; apply RnT3.c; exact rfl; apply Rn3.r; exact Rn.sl rfl rfl; apply RnT3.c; exact rfl; apply Rn3.r; exact Rn.pt rfl rfl
     exact RnT3.n; apply RnH3.c; exact rfl; exact rfl; apply RnC.cl; exact grow_eq2; exact inferInstance; exact rfl; exact rfl; apply RnH3.c; exact rfl; exact rfl
     apply RnC.cl; rfl; exact inferInstance; exact rfl; exact rfl; exact RnH3.n; exact rfl)
  have hge3 : ¬ j < s.locks.length := of_decide_eq_false h
  obtain rfl : j = s.locks.length := by omega
  (refine Gol.exit ?_; refine thn_x ?_; refine rnd_x ?_; refine inBlk_hit ?_; refine thn_n ?_
   refine Gol.seq ?_; refine Gol.seq ?_; apply Gol.region; apply Trc.stp rfl rfl rfl; apply s_fieldAddr
   exact rfl; dsimp only [Nat.reduceAdd, Nat.reduceMul, List.nil_append]; apply Trc.stp rfl rfl rfl; apply s_load; exact rfl; exact rfl; exact rfl; dsimp only [Nat.reduceAdd, Nat.reduceMul, List.nil_append]
   apply Trc.stp rfl rfl rfl; apply s_len; exact rfl; exact ln_ex; dsimp only [Nat.reduceAdd, Nat.reduceMul, List.nil_append]
   apply Trc.stp rfl rfl rfl; apply s_move; exact rfl; dsimp only [Nat.reduceAdd, Nat.reduceMul, List.nil_append]
   exact Trc.done _ _ _; exact rfl; refine thn_n ?_; refine Gol.block ?_)
  refine Gol.loop (ι := Nat) (fun j => j ≤ s.applied.length) (fun j => s.applied.length - j) 200 (fun j => [(199, some ⟨byA (flat (lv4 S s j)), 30, 8⟩), (0, some ⟨[.ex s.cells.length false (dsA s.cells), .ex s.seqs.length false (inA s.seqs), .ex s.locks.length false (lsA s.locks), .ex s.applied.length false (byA (flat s.applied)), .v (.int .i64 s.guilty)], 28, 5⟩)]) (fun j => [(59, .v (.int .i64 (j : Int))), (58, .v (.int .i64 (s.applied.length : Int))), (57, .ex s.applied.length false (byA (flat s.applied))), (3, .sl 199 (lv4 S s j).length), (1, .pt 0 0)]) 0 (Nat.zero_le _) ?_ ?_
  · rw [show lv4 S s 0 = lv3 S s s.locks.length by simp [lv4]]
    (apply Le.mk3' []; apply RnT3.c; exact rfl; apply Rn3.r; exact Rn.v rfl; apply RnT3.c; exact rfl; apply Rn3.r; exact Rn.v rfl; apply RnT3.c; exact rfl
     apply Rn3.r; exact Rn.clo inferInstance rfl; apply RnT3.c; exact rfl; apply Rn3.r; exact Rn.sl rfl rfl; apply RnT3.c; exact rfl; apply Rn3.r; exact Rn.pt rfl rfl
     exact RnT3.n; apply RnH3.c; exact rfl; exact rfl; apply RnC.cl; rfl; exact inferInstance; exact rfl; exact rfl; apply RnH3.c; exact rfl; exact rfl; apply RnC.cl
     rfl; exact inferInstance; exact rfl; exact rfl; exact RnH3.n; exact rfl)
  intro j hj
  have hLj := lv4_len S s j
  (refine Gol.seq ?_; apply Gol.region; apply Trc.stp rfl rfl rfl; apply s_ltn; exact rfl
   exact rfl; dsimp only [Nat.reduceAdd, Nat.reduceMul, List.nil_append]; exact Trc.done _ _ _
   exact rfl; refine thn_n ?_; refine Gol.seq ?_)
  refine Gol.cond rfl (fun h => ?_) (fun h => ?_)
  · have hlt : j < s.applied.length := of_decide_eq_true h
    have hd : s.applied[j]? = some (s.applied.getD j 0) := by rw [List.getD_eq_getElem?_getD, List.getElem?_eq_getElem hlt]; rfl
    have hN := lv4_next S hd
    (refine Gol.skip ?_; refine thn_n ?_; refine Gol.seq ?_; refine Gol.block ?_; refine Gol.seq ?_
     apply Gol.region; apply Trc.stp rfl rfl rfl; apply s_ixe; exact rfl; exact rfl; omega; exact flat_ne (by omega)
     dsimp only [Nat.reduceAdd, Nat.reduceMul, List.nil_append]; apply Trc.stp rfl rfl rfl; apply s_loadEN; exact rfl; simp only [byA_length, List.length_append, List.length_cons, List.length_nil, List.length_take, List.length_drop, List.length_replicate, List.length_map, Nat.mul_one, nameB_length, flat_length, List.length_set, inA_length, dsA_length, lsA_length, dA_length, lA_length] <;> omega
     exact agu_nm (by omega); dsimp only [Nat.reduceAdd, Nat.reduceMul, List.nil_append]
     apply Trc.stp rfl rfl rfl; apply s_alloc; dsimp only [Nat.reduceAdd, Nat.reduceMul, Nat.reduceSub, List.nil_append, List.cons_append, nbk, List.map_cons, List.map_nil]
     apply Trc.stepN rfl rfl; exact wnt_n rfl; apply s_storeW; exact rfl; exact rfl; exact rfl; exact rfl; rfl; exact rfl; dsimp only [Nat.reduceAdd, Nat.reduceMul, Nat.reduceSub, List.nil_append, List.cons_append, nbk, List.map_cons, List.map_nil]
     exact Trc.done _ _ _; exact rfl; refine thn_n ?_; apply Gol.region; apply Trc.stp rfl rfl rfl; apply s_move
     exact rfl; dsimp only [Nat.reduceAdd, Nat.reduceMul, List.nil_append]; apply Trc.stp rfl rfl rfl; apply s_loadW; exact rfl; exact rfl; exact rfl; exact agu_cuv _; dsimp only [Nat.reduceAdd, Nat.reduceMul, List.nil_append]
     apply Trc.stp rfl rfl rfl; apply s_call (f := 43) rfl; apply evs.cons rfl; exact evs.nil; apply ArgL.cons
     exact arg_clo; exact ArgL.nil; exact leafApplied_ok S hS _; exact Nat.le_of_ble_eq_true rfl; dsimp only [Nat.reduceAdd, Nat.reduceMul, Nat.reduceSub, List.nil_append, List.cons_append, nbk, List.map_cons, List.map_nil]
     apply Trc.stp rfl rfl rfl; apply s_lit; apply PA.cons; exact rfl; exact rfl; exact rfl; exact PA.nil; exact rfl; omega
     dsimp only [Nat.reduceAdd, Nat.reduceMul, Nat.reduceSub, List.nil_append, List.cons_append, nbk, List.map_cons, List.map_nil]; apply Trc.stp rfl rfl rfl; apply s_app; exact rfl; exact rfl; exact rfl; apply rd_sl rfl; rfl; simp only [byA_length, List.length_append, List.length_cons, List.length_nil, List.length_take, List.length_drop, List.length_replicate, List.length_map, Nat.mul_one, nameB_length, flat_length, List.length_set, inA_length, dsA_length, lsA_length, dA_length, lA_length] <;> omega
     exact rfl; exact rfl; rfl; omega; dsimp only [Nat.reduceAdd, Nat.reduceMul, Nat.reduceSub, List.nil_append, List.cons_append, nbk, List.map_cons, List.map_nil]
     apply Trc.stp rfl rfl rfl; apply s_assign; exact rfl; dsimp only [Nat.reduceAdd, Nat.reduceMul, List.nil_append]
     exact Trc.done _ _ _; exact rfl; refine inBlk_n ?_; refine thn_n ?_; apply Gol.region; apply Trc.stp rfl rfl rfl; apply s_addn; exact rfl; exact rfl; simp <;> omega; dsimp only [Nat.reduceAdd, Nat.reduceMul, List.nil_append]
     apply Trc.stp rfl rfl rfl; apply s_move; exact rfl; dsimp only [Nat.reduceAdd, Nat.reduceMul, List.nil_append]
     exact Trc.done _ _ _; exact rfl)
    refine rnd_n (j + 1) (by omega) (by omega) ?_
    rw [hN, List.length_append, List.length_singleton]
    (apply Le.mk3' [(199, 272)]; apply RnT3.c; exact rfl; apply Rn3.r; exact Rn.v rfl; apply RnT3.c; exact rfl; apply Rn3.r; exact Rn.v rfl; apply RnT3.c; exact rfl
     apply Rn3.r; exact Rn.clo inferInstance rfl; apply RnT3.c; exact rfl; apply Rn3.r; exact Rn.sl rfl rfl; apply RnT3.c; exact rfl; apply Rn3.r; exact Rn.pt rfl rfl
     exact RnT3.n; apply RnH3.c; exact rfl; exact rfl; apply RnC.cl; exact grow_eq2; exact inferInstance; exact rfl; exact rfl; apply RnH3.c; exact rfl; exact rfl
     apply RnC.cl; rfl; exact inferInstance; exact rfl; exact rfl; exact RnH3.n; exact rfl)
  have hge4 : ¬ j < s.applied.length := of_decide_eq_false h
  obtain rfl : j = s.applied.length := by omega
  (refine Gol.exit ?_; refine thn_x ?_; refine rnd_x ?_; refine inBlk_hit ?_; refine thn_n ?_
   refine Gol.seq ?_; apply Gol.region; apply Trc.stp rfl rfl rfl; apply s_move; exact rfl
   dsimp only [Nat.reduceAdd, Nat.reduceMul, List.nil_append]; apply Trc.stp rfl rfl rfl; apply s_fieldAddr; exact rfl; dsimp only [Nat.reduceAdd, Nat.reduceMul, List.nil_append]
   apply Trc.stp rfl rfl rfl; apply s_load; exact rfl; exact rfl; exact rfl; dsimp only [Nat.reduceAdd, Nat.reduceMul, List.nil_append]
   apply Trc.stp rfl rfl rfl; apply s_cu64; exact rfl; dsimp only [Nat.reduceAdd, Nat.reduceMul, List.nil_append]
   apply Trc.stp rfl rfl rfl; apply s_call (f := 71) rfl; apply evs.cons rfl; apply evs.cons rfl; apply evs.cons rfl
   exact evs.nil; apply ArgL.cons; exact arg_clo; apply ArgL.cons; exact arg_clo; apply ArgL.cons; exact arg_clo; exact ArgL.nil; exact (appUint_n [] (toU64 s.guilty) 2 0 false (by decide) rfl (by decide)).sub sub_nil
   exact Nat.le_of_ble_eq_true rfl; dsimp only [Nat.reduceAdd, Nat.reduceMul, Nat.reduceSub, List.nil_append, List.cons_append, nbk, List.map_cons, List.map_nil]
   apply Trc.stp rfl rfl rfl; apply s_call (f := 69) rfl; apply evs.cons rfl; apply evs.cons rfl; exact evs.nil; apply ArgL.cons
   exact arg_clo; apply ArgL.cons; exact arg_sl rfl; exact ArgL.nil; exact hS.tagged 0x56 (beB (toU64 s.guilty) 2) 2 _ (beB_length _ _) (by decide); exact Nat.le_of_ble_eq_true rfl
   dsimp only [Nat.reduceAdd, Nat.reduceMul, Nat.reduceSub, List.nil_append, List.cons_append, nbk, List.map_cons, List.map_nil]; apply Trc.stp rfl rfl rfl; apply s_lit; apply PA.cons; exact rfl; exact rfl; exact rfl; exact PA.nil; exact rfl; omega; dsimp only [Nat.reduceAdd, Nat.reduceMul, Nat.reduceSub, List.nil_append, List.cons_append, nbk, List.map_cons, List.map_nil]
   apply Trc.stp rfl rfl rfl; apply s_app; exact rfl; exact rfl; exact rfl; apply rd_sl rfl; rfl; simp only [byA_length, List.length_append, List.length_cons, List.length_nil, List.length_take, List.length_drop, List.length_replicate, List.length_map, Nat.mul_one, nameB_length, flat_length, List.length_set, inA_length, dsA_length, lsA_length, dA_length, lA_length] <;> omega
   exact rfl; exact rfl; rfl; omega; dsimp only [Nat.reduceAdd, Nat.reduceMul, Nat.reduceSub, List.nil_append, List.cons_append, nbk, List.map_cons, List.map_nil]
   apply Trc.stp rfl rfl rfl; apply s_assign; exact rfl; dsimp only [Nat.reduceAdd, Nat.reduceMul, List.nil_append]
   exact Trc.done _ _ _; exact rfl; refine thn_n ?_; refine Gol.ret ?_)
  rw [grow_eq2, show (lv4 S s s.applied.length).length + 1 = (leavesN S s).length by simp [leavesN]]
  (apply RetQ.mk (by first | exact .inr rfl | exact .inl rfl); apply res_1 rfl; exact res_tmp rfl; exact out_sl rfl)
end
end Go.Proofs.YtkkeeokeihkagaaGreat


/-
  Layer 21: Root, proofs and their checks, of the program and of the reference. Conditions: lengths below 2^17.
-/
namespace Go.Proofs.YtkkeeokeihkagaaGreat
open Go.RowKit

theorem byte1 (k : Int) : beB (toU64 k) 1 = [toU8 k] := by
  have h : ((toU64 k).toNat : Int) = k % 18446744073709551616 := by rw [toU64, UInt64.toNat_ofNat']; omega
  have e : shr6 (toU64 k) (8 * 0) = toU64 k := by
    apply UInt64.toNat_inj.1
    have := (toU64 k).toNat_lt
    rw [shr6, UInt64.toNat_ofNat']
    simp only [Nat.mul_zero, Nat.pow_zero, Nat.div_one]
    omega
  show [byteAt (toU64 k) 0] = _
  rw [byteAt, e, h]
  unfold toU8
  congr 2
  omega
theorem idxN_ok (l : List UInt64) (fl : Bool) (n : UInt64) (hl : l.length ≤ 100000000) : Fresh Tryz.prog 37 [.ex l.length fl (byA (flat l)), .v (.agg (nameC n))] (fun _ => .v (.int .i64 (fIx (fun x => n == x) l 0))) [] := by
  refine Fresh.of (fn := Tryz.f37) Tryz.func37 rfl (Nat.le_of_ble_eq_true rfl) fun w => ?_
  (refine Gol.seq ?_; apply Gol.region; apply Trc.stp rfl rfl rfl; apply s_box; exact rfl
   exact rfl; dsimp only [Nat.reduceAdd, Nat.reduceMul, Nat.reduceSub, List.nil_append, List.cons_append, nbk, List.map_cons, List.map_nil]; apply Trc.stp rfl rfl rfl; apply s_assign; exact rfl; dsimp only [Nat.reduceAdd, Nat.reduceMul, List.nil_append]
   exact Trc.done _ _ _; exact rfl; refine thn_n ?_; refine Gol.seq ?_; refine Gol.seq ?_; apply Gol.region
   apply Trc.stp rfl rfl rfl; apply s_move; exact rfl; dsimp only [Nat.reduceAdd, Nat.reduceMul, List.nil_append]
   apply Trc.stp rfl rfl rfl; apply s_len; exact rfl; exact ln_ex; dsimp only [Nat.reduceAdd, Nat.reduceMul, List.nil_append]
   apply Trc.stp rfl rfl rfl; apply s_move; exact rfl; dsimp only [Nat.reduceAdd, Nat.reduceMul, List.nil_append]
   exact Trc.done _ _ _; exact rfl; refine thn_n ?_; refine Gol.block ?_)
  refine Gol.loop (ι := Nat) (fun i => i ≤ l.length ∧ fIx (fun x => n == x) (l.drop i) i = fIx (fun x => n == x) l 0) (fun i => l.length - i) 40 (fun _ => [(0, some ⟨cu (.v (.agg (nameC n))), 30, 8⟩)]) (fun i => [(8, .v (.int .i64 (i : Int))), (7, .v (.int .i64 (l.length : Int))), (0, .ex l.length fl (byA (flat l))), (3, .pt 0 0)]) 0 ⟨Nat.zero_le _, rfl⟩ ?_ ?_
  · (apply Le.mk3' []; apply RnT3.c; exact rfl; apply Rn3.r; exact Rn.v rfl; apply RnT3.c; exact rfl; apply Rn3.r; exact Rn.v rfl; apply RnT3.c; exact rfl
     apply Rn3.r; exact Rn.clo inferInstance rfl; apply RnT3.c; exact rfl; apply Rn3.r; exact Rn.pt rfl rfl; exact RnT3.n; apply RnH3.c; exact rfl; exact rfl
     apply RnC.cl; rfl; exact inferInstance; exact rfl; exact rfl; exact RnH3.n; exact rfl)
  rintro i ⟨h1, h2⟩
  (refine Gol.seq ?_; apply Gol.region; apply Trc.stp rfl rfl rfl; apply s_ltn; exact rfl
   exact rfl; dsimp only [Nat.reduceAdd, Nat.reduceMul, List.nil_append]; exact Trc.done _ _ _
   exact rfl; refine thn_n ?_; refine Gol.seq ?_)
  refine Gol.cond rfl (fun h => ?_) (fun h => ?_)
  · have hlt : i < l.length := of_decide_eq_true h
    have hd : l[i]? = some (l.getD i 0) := by rw [List.getD_eq_getElem?_getD, List.getElem?_eq_getElem hlt]; rfl
    (refine Gol.skip ?_; refine thn_n ?_; refine Gol.seq ?_; refine Gol.block ?_; refine Gol.seq ?_
     apply Gol.region; apply Trc.stp rfl rfl rfl; apply s_move; exact rfl; dsimp only [Nat.reduceAdd, Nat.reduceMul, List.nil_append]
     apply Trc.stp rfl rfl rfl; apply s_assign; exact rfl; dsimp only [Nat.reduceAdd, Nat.reduceMul, List.nil_append]
     exact Trc.done _ _ _; exact rfl; refine thn_n ?_; refine Gol.seq ?_; apply Gol.any; kernel_rfl; apply Trc.stp rfl rfl rfl; apply s_loadW; exact rfl; exact rfl; exact rfl; exact agu_cuv _; dsimp only [Nat.reduceAdd, Nat.reduceMul, List.nil_append]
     apply Trc.stp rfl rfl rfl; apply s_move; exact rfl; dsimp only [Nat.reduceAdd, Nat.reduceMul, List.nil_append]
     apply Trc.stp rfl rfl rfl; apply s_move; exact rfl; dsimp only [Nat.reduceAdd, Nat.reduceMul, List.nil_append]
     apply Trc.stp rfl rfl rfl; apply s_ixe; exact rfl; exact rfl; omega; exact flat_ne (by omega); dsimp only [Nat.reduceAdd, Nat.reduceMul, List.nil_append]
     apply Trc.stp rfl rfl rfl; apply s_loadEN; exact rfl; simp only [byA_length, List.length_append, List.length_cons, List.length_nil, List.length_take, List.length_drop, List.length_replicate, List.length_map, Nat.mul_one, nameB_length, flat_length, List.length_set, inA_length, dsA_length, lsA_length, dA_length, lA_length] <;> omega
     exact agu_nm (by omega); dsimp only [Nat.reduceAdd, Nat.reduceMul, List.nil_append]
     apply Trc.stp rfl rfl rfl; apply s_eqN; exact rfl; exact rfl; dsimp only [Nat.reduceAdd, Nat.reduceMul, List.nil_append]
     exact Trc.done _ _ _; kernel_rfl; exact rfl; refine thn_n ?_)
    refine Gol.cond rfl (fun h => ?_) (fun h => ?_)
    · rw [← h2, fIx_hit hd h]
      (refine Gol.seq ?_; apply Gol.region; apply Trc.stp rfl rfl rfl; apply s_move; exact rfl
       dsimp only [Nat.reduceAdd, Nat.reduceMul, List.nil_append]; apply Trc.stp rfl rfl rfl; apply s_assign; exact rfl; dsimp only [Nat.reduceAdd, Nat.reduceMul, List.nil_append]
       exact Trc.done _ _ _; exact rfl; refine thn_n ?_; refine Gol.ret ?_; refine inBlk_r ?_; refine thn_r ?_
       refine rnd_r ?_; refine inBlk_r ?_; refine thn_r ?_)
      (apply RetQ.mk (by first | exact .inr rfl | exact .inl rfl); apply res_1 rfl; exact res_tmp rfl; exact out_val)
    · (refine Gol.skip ?_; refine inBlk_n ?_; refine thn_n ?_; apply Gol.region; apply Trc.stp rfl rfl rfl; apply s_addn; exact rfl; exact rfl; simp <;> omega; dsimp only [Nat.reduceAdd, Nat.reduceMul, List.nil_append]
       apply Trc.stp rfl rfl rfl; apply s_move; exact rfl; dsimp only [Nat.reduceAdd, Nat.reduceMul, List.nil_append]
       exact Trc.done _ _ _; exact rfl)
      refine rnd_n (i + 1) ⟨by omega, by rw [← h2, fIx_miss hd h]⟩ (by omega) ?_
      (apply Le.mk3' []; apply RnT3.c; exact rfl; apply Rn3.r; exact Rn.v rfl; apply RnT3.c; exact rfl; apply Rn3.r; exact Rn.v rfl; apply RnT3.c; exact rfl
       apply Rn3.r; exact Rn.clo inferInstance rfl; apply RnT3.c; exact rfl; apply Rn3.r; exact Rn.pt rfl rfl; exact RnT3.n; apply RnH3.c; exact rfl; exact rfl
       apply RnC.cl; rfl; exact inferInstance; exact rfl; exact rfl; exact RnH3.n; exact rfl)
  · have hge : ¬ i < l.length := of_decide_eq_false h
    rw [List.drop_of_length_le (by omega)] at h2
    rw [← h2]
    (refine Gol.exit ?_; refine thn_x ?_; refine rnd_x ?_; refine inBlk_hit ?_; refine thn_n ?_
     refine Gol.seq ?_; apply Gol.region; apply Trc.stp rfl rfl rfl; apply s_assign; exact rfl
     dsimp only [Nat.reduceAdd, Nat.reduceMul, List.nil_append]; exact Trc.done _ _ _; exact rfl
     refine thn_n ?_; refine Gol.ret ?_)
    (apply RetQ.mk (by first | exact .inr rfl | exact .inl rfl); apply res_1 rfl; exact res_tmp rfl; exact out_val)
section
variable (S : List UInt8 → UInt64)
theorem leavesN_len (s : Stt) : (leavesN S s).length = s.cells.length + s.seqs.length + s.locks.length + s.applied.length + 1 := by
  simp [leavesN, lv4, lv3, lv2, lv1]; omega
variable (hS : HashF S)
include hS
theorem rootS_ok (s : Stt) (hs : Sm s) : Fresh Tryz.prog 30 [stA s] (fun _ => .v (.agg (nameC (rootN S (leavesN S s))))) [] := by
  have hl := leaves_ok S hS s hs
  have hn := leavesN_len S s
  obtain ⟨h1, h2, h3, h4⟩ := hs
  unfold stA at hl ⊢
  refine Fresh.of (fn := Tryz.f30) Tryz.func30 rfl (Nat.le_of_ble_eq_true rfl) fun w => ?_
  (refine Gol.seq ?_; apply Gol.region; apply Trc.stp rfl rfl rfl; apply s_box; exact rfl
   exact rfl; dsimp only [Nat.reduceAdd, Nat.reduceMul, Nat.reduceSub, List.nil_append, List.cons_append, nbk, List.map_cons, List.map_nil]; apply Trc.stp rfl rfl rfl; apply s_alloc; dsimp only [Nat.reduceAdd, Nat.reduceMul, Nat.reduceSub, List.nil_append, List.cons_append, nbk, List.map_cons, List.map_nil]
   exact Trc.done _ _ _; exact rfl; refine thn_n ?_; refine Gol.seq ?_; apply Gol.region; apply Trc.stp rfl rfl rfl; apply s_loadW; exact rfl; exact rfl; exact rfl; exact agu_cua _; dsimp only [Nat.reduceAdd, Nat.reduceMul, List.nil_append]
   apply Trc.stp rfl rfl rfl; apply s_call (f := 31) rfl; apply evs.cons rfl; exact evs.nil; apply ArgL.cons; exact arg_clo
   exact ArgL.nil; exact hl; exact Nat.le_of_ble_eq_true rfl; dsimp only [Nat.reduceAdd, Nat.reduceMul, Nat.reduceSub, List.nil_append, List.cons_append, nbk, List.map_cons, List.map_nil]
   apply Trc.stp rfl rfl rfl; apply s_call (f := 68) rfl; apply evs.cons rfl; exact evs.nil; apply ArgL.cons; exact arg_sl rfl
   exact ArgL.nil; exact root_ok S hS _ _ _ rfl (by omega); exact Nat.le_of_ble_eq_true rfl; dsimp only [Nat.reduceAdd, Nat.reduceMul, Nat.reduceSub, List.nil_append, List.cons_append, nbk, List.map_cons, List.map_nil]
   apply Trc.stepN rfl rfl; exact wnt_n rfl; apply s_storeW; exact rfl; exact rfl; exact rfl; exact rfl; rfl; exact rfl; dsimp only [Nat.reduceAdd, Nat.reduceMul, Nat.reduceSub, List.nil_append, List.cons_append, nbk, List.map_cons, List.map_nil]
   exact Trc.done _ _ _; exact rfl; refine thn_n ?_; refine Gol.ret ?_)
  (apply RetQ.mk (by first | exact .inr rfl | exact .inl rfl); apply res_1 rfl; exact res_cell rfl rfl rfl (agu_cuv _); exact out_val)
theorem prove_ok (s : Stt) (hs : Sm s) (a : Nat) (ha : a < (leavesN S s).length) : Fresh Tryz.prog 34 [stA s, .v (.int .i64 (a : Int))] (fun k => .tp [.ag [.v (.int .i64 (a : Int)), .v (.int .i64 ((leavesN S s).length : Int)), .sl k (depN a (leavesN S s).length)], .v (.int .i64 0)]) [⟨byA (flat (pathN S (leavesN S s) a)), 30, 8⟩] := by
  have hl := leaves_ok S hS s hs
  have hn := leavesN_len S s
  obtain ⟨h1, h2, h3, h4⟩ := hs
  unfold stA at hl ⊢
  generalize leavesN S s = L at hl hn ha
  refine Fresh.of (fn := Tryz.f34) Tryz.func34 rfl (Nat.le_of_ble_eq_true rfl) fun w => ?_
  (refine Gol.seq ?_; apply Gol.region; apply Trc.stp rfl rfl rfl; apply s_box; exact rfl
   exact rfl; dsimp only [Nat.reduceAdd, Nat.reduceMul, Nat.reduceSub, List.nil_append, List.cons_append, nbk, List.map_cons, List.map_nil]; apply Trc.stp rfl rfl rfl; apply s_alloc; dsimp only [Nat.reduceAdd, Nat.reduceMul, Nat.reduceSub, List.nil_append, List.cons_append, nbk, List.map_cons, List.map_nil]
   apply Trc.stp rfl rfl rfl; apply s_assign; exact rfl; dsimp only [Nat.reduceAdd, Nat.reduceMul, List.nil_append]
   exact Trc.done _ _ _; exact rfl; refine thn_n ?_; refine Gol.seq ?_; apply Gol.region; apply Trc.stp rfl rfl rfl; apply s_loadW; exact rfl; exact rfl; exact rfl; exact agu_cua _; dsimp only [Nat.reduceAdd, Nat.reduceMul, List.nil_append]
   apply Trc.stp rfl rfl rfl; apply s_call (f := 31) rfl; apply evs.cons rfl; exact evs.nil; apply ArgL.cons; exact arg_clo
   exact ArgL.nil; exact hl; exact Nat.le_of_ble_eq_true rfl; dsimp only [Nat.reduceAdd, Nat.reduceMul, Nat.reduceSub, List.nil_append, List.cons_append, nbk, List.map_cons, List.map_nil]
   apply Trc.stp rfl rfl rfl; apply s_assign; exact rfl; dsimp only [Nat.reduceAdd, Nat.reduceMul, List.nil_append]
   exact Trc.done _ _ _; exact rfl; refine thn_n ?_; refine Gol.seq ?_; apply Gol.region; apply Trc.stp rfl rfl rfl; apply s_move; exact rfl; dsimp only [Nat.reduceAdd, Nat.reduceMul, List.nil_append]
   apply Trc.stp rfl rfl rfl; apply s_move; exact rfl; dsimp only [Nat.reduceAdd, Nat.reduceMul, List.nil_append]
   apply Trc.stp rfl rfl rfl; apply s_call (f := 76) rfl; apply evs.cons rfl; apply evs.cons rfl; exact evs.nil; apply ArgL.cons
   exact arg_sl rfl; apply ArgL.cons; exact arg_clo; exact ArgL.nil; exact path_yes S hS _ L a _ rfl ha (by omega); exact Nat.le_of_ble_eq_true rfl; dsimp only [Nat.reduceAdd, Nat.reduceMul, Nat.reduceSub, List.nil_append, List.cons_append, nbk, List.map_cons, List.map_nil]
   apply Trc.stp rfl rfl rfl; apply s_move; exact rfl; dsimp only [Nat.reduceAdd, Nat.reduceMul, List.nil_append]
   apply Trc.stp rfl rfl rfl; apply s_extract; exact rfl; exact rfl; dsimp only [Nat.reduceAdd, Nat.reduceMul, List.nil_append]
   apply Trc.stp rfl rfl rfl; apply s_extract; exact rfl; exact rfl; dsimp only [Nat.reduceAdd, Nat.reduceMul, List.nil_append]
   apply Trc.stp rfl rfl rfl; apply s_assign; exact rfl; dsimp only [Nat.reduceAdd, Nat.reduceMul, List.nil_append]
   apply Trc.stp rfl rfl rfl; apply s_assign; exact rfl; dsimp only [Nat.reduceAdd, Nat.reduceMul, List.nil_append]
   exact Trc.done _ _ _; exact rfl; refine thn_n ?_; refine Gol.seq ?_; refine Gol.seq ?_; apply Gol.region
   apply Trc.stp rfl rfl rfl; apply s_move; exact rfl; dsimp only [Nat.reduceAdd, Nat.reduceMul, List.nil_append]
   apply Trc.stp rfl rfl rfl; apply s_not; exact rfl; dsimp only [Nat.reduceAdd, Nat.reduceMul, List.nil_append]
   exact Trc.done _ _ _; exact rfl; refine thn_n ?_)
  refine Gol.cond_f rfl rfl ?_
  (refine Gol.skip ?_; refine thn_n ?_; refine Gol.seq ?_; apply Gol.region; apply Trc.stp rfl rfl rfl; apply s_move; exact rfl; dsimp only [Nat.reduceAdd, Nat.reduceMul, List.nil_append]
   apply Trc.stp rfl rfl rfl; apply s_move; exact rfl; dsimp only [Nat.reduceAdd, Nat.reduceMul, List.nil_append]
   apply Trc.stp rfl rfl rfl; apply s_len; exact rfl; exact ln_sl; dsimp only [Nat.reduceAdd, Nat.reduceMul, List.nil_append]
   apply Trc.stp rfl rfl rfl; apply s_move; exact rfl; dsimp only [Nat.reduceAdd, Nat.reduceMul, List.nil_append]
   apply Trc.stp rfl rfl rfl; apply s_bld; exact rfl; (focus (dsimp only [splB, cuB, spl, cu, Value.cells, nameC, List.map, List.take, List.drop, List.append, List.length, List.cons_append, List.nil_append, Nat.reduceAdd, List.take_succ_cons, List.take_zero, List.drop_succ_cons, List.drop_zero, List.take_nil, List.drop_nil, List.append_nil, List.length_cons, List.length_nil]; done))
   dsimp only [Nat.reduceAdd, Nat.reduceMul, Nat.reduceSub, List.nil_append, List.cons_append, nbk, List.map_cons, List.map_nil]; apply Trc.stepN rfl rfl
   exact wnt_n rfl; apply s_storeW; exact rfl; exact rfl; exact rfl; exact rfl; rfl; exact rfl; dsimp only [Nat.reduceAdd, Nat.reduceMul, Nat.reduceSub, List.nil_append, List.cons_append, nbk, List.map_cons, List.map_nil]
   apply Trc.stp rfl rfl rfl; apply s_assign; exact rfl; dsimp only [Nat.reduceAdd, Nat.reduceMul, List.nil_append]
   exact Trc.done _ _ _; exact rfl; refine thn_n ?_; refine Gol.ret ?_)
  (apply RetQ.mkM (by first | exact .inr rfl | exact .inl rfl); apply res_2 rfl; exact res_cell rfl rfl rfl (agu_cua _); exact res_tmp rfl; apply out_ids [64] rfl
   apply OBs.cons; exact rfl; exact inferInstance; exact OBs.nil; intro k; apply Ot.tpL; apply OtL.cons; apply Ot.agL; apply OtL.cons; exact Ot.v inferInstance
   apply OtL.cons; exact Ot.v inferInstance; apply OtL.cons; exact Ot.sl (j := 0) rfl; exact OtL.nil; apply OtL.cons; exact Ot.v inferInstance; exact OtL.nil)
theorem proveCell_yes (s : Stt) (hs : Sm s) (k i : Int) (n : UInt64) (j : Nat) (hj : fIx (eqC k i n) s.cells 0 = (j : Int)) (hjl : j < s.cells.length) : Fresh Tryz.prog 7 [stA s, .v (.agg (cellC k i n))] (fun k => .tp [.ag [.v (.int .i64 (j : Int)), .v (.int .i64 ((leavesN S s).length : Int)), .sl k (depN j (leavesN S s).length)], .v (.int .i64 0)]) [⟨byA (flat (pathN S (leavesN S s) j)), 30, 8⟩] := by
  have hn := leavesN_len S s
  have hp := prove_ok S hS s hs j (by omega)
  have hf := find_ok s k i n (by have := hs.c; omega)
  rw [hj] at hf
  unfold stA at hp hf ⊢
  refine Fresh.of (fn := Tryz.f7) Tryz.func7 rfl (Nat.le_of_ble_eq_true rfl) fun w => ?_
  (refine Gol.seq ?_; apply Gol.region; apply Trc.stp rfl rfl rfl; apply s_box; exact rfl
   exact rfl; dsimp only [Nat.reduceAdd, Nat.reduceMul, Nat.reduceSub, List.nil_append, List.cons_append, nbk, List.map_cons, List.map_nil]; apply Trc.stp rfl rfl rfl; apply s_box; exact rfl; exact rfl; dsimp only [Nat.reduceAdd, Nat.reduceMul, Nat.reduceSub, List.nil_append, List.cons_append, nbk, List.map_cons, List.map_nil]
   apply Trc.stp rfl rfl rfl; apply s_alloc; dsimp only [Nat.reduceAdd, Nat.reduceMul, Nat.reduceSub, List.nil_append, List.cons_append, nbk, List.map_cons, List.map_nil]
   apply Trc.stp rfl rfl rfl; apply s_assign; exact rfl; dsimp only [Nat.reduceAdd, Nat.reduceMul, List.nil_append]
   exact Trc.done _ _ _; exact rfl; refine thn_n ?_; refine Gol.seq ?_; apply Gol.region; apply Trc.stp rfl rfl rfl; apply s_loadW; exact rfl; exact rfl; exact rfl; exact agu_cua _; dsimp only [Nat.reduceAdd, Nat.reduceMul, List.nil_append]
   apply Trc.stp rfl rfl rfl; apply s_loadW; exact rfl; exact rfl; exact rfl; exact agu_cuv _; dsimp only [Nat.reduceAdd, Nat.reduceMul, List.nil_append]
   apply Trc.stp rfl rfl rfl; apply s_call (f := 33) rfl; apply evs.cons rfl; apply evs.cons rfl; exact evs.nil; apply ArgL.cons
   exact arg_clo; apply ArgL.cons; exact arg_clo; exact ArgL.nil; exact hf; exact Nat.le_of_ble_eq_true rfl; dsimp only [Nat.reduceAdd, Nat.reduceMul, Nat.reduceSub, List.nil_append, List.cons_append, nbk, List.map_cons, List.map_nil]
   apply Trc.stp rfl rfl rfl; apply s_assign; exact rfl; dsimp only [Nat.reduceAdd, Nat.reduceMul, List.nil_append]
   exact Trc.done _ _ _; exact rfl; refine thn_n ?_; refine Gol.seq ?_; refine Gol.seq ?_; apply Gol.region
   apply Trc.stp rfl rfl rfl; apply s_move; exact rfl; dsimp only [Nat.reduceAdd, Nat.reduceMul, List.nil_append]
   apply Trc.stp rfl rfl rfl; apply s_ltn; exact rfl; exact rfl; dsimp only [Nat.reduceAdd, Nat.reduceMul, List.nil_append]
   exact Trc.done _ _ _; exact rfl; refine thn_n ?_)
  refine Gol.cond_f rfl (by simp) ?_
  (refine Gol.skip ?_; refine thn_n ?_; refine Gol.seq ?_; apply Gol.region; apply Trc.stp rfl rfl rfl; apply s_loadW; exact rfl; exact rfl; exact rfl; exact agu_cua _; dsimp only [Nat.reduceAdd, Nat.reduceMul, List.nil_append]
   apply Trc.stp rfl rfl rfl; apply s_move; exact rfl; dsimp only [Nat.reduceAdd, Nat.reduceMul, List.nil_append]
   apply Trc.stp rfl rfl rfl; apply s_call (f := 34) rfl; apply evs.cons rfl; apply evs.cons rfl; exact evs.nil; apply ArgL.cons
   exact arg_clo; apply ArgL.cons; exact arg_clo; exact ArgL.nil; exact hp; exact Nat.le_of_ble_eq_true rfl; dsimp only [Nat.reduceAdd, Nat.reduceMul, Nat.reduceSub, List.nil_append, List.cons_append, nbk, List.map_cons, List.map_nil]
   apply Trc.stp rfl rfl rfl; apply s_extract; exact rfl; exact rfl; dsimp only [Nat.reduceAdd, Nat.reduceMul, List.nil_append]
   apply Trc.stp rfl rfl rfl; apply s_extract; exact rfl; exact rfl; dsimp only [Nat.reduceAdd, Nat.reduceMul, List.nil_append]
   apply Trc.stepN rfl rfl; exact wnt_n rfl; apply s_storeW; exact rfl; exact rfl; exact rfl; exact rfl; rfl; exact rfl; dsimp only [Nat.reduceAdd, Nat.reduceMul, Nat.reduceSub, List.nil_append, List.cons_append, nbk, List.map_cons, List.map_nil]
   apply Trc.stp rfl rfl rfl; apply s_assign; exact rfl; dsimp only [Nat.reduceAdd, Nat.reduceMul, List.nil_append]
   exact Trc.done _ _ _; exact rfl; refine thn_n ?_; refine Gol.ret ?_)
  (apply RetQ.mkM (by first | exact .inr rfl | exact .inl rfl); apply res_2 rfl; exact res_cell rfl rfl rfl (agu_cua _); exact res_tmp rfl; apply out_ids [96] rfl
   apply OBs.cons; exact rfl; exact inferInstance; exact OBs.nil; intro k; apply Ot.tpL; apply OtL.cons; apply Ot.agL; apply OtL.cons; exact Ot.v inferInstance
   apply OtL.cons; exact Ot.v inferInstance; apply OtL.cons; exact Ot.sl (j := 0) rfl; exact OtL.nil; apply OtL.cons; exact Ot.v inferInstance; exact OtL.nil)
theorem proveCell_no (s : Stt) (hs : Sm s) (k i : Int) (n : UInt64) (hj : fIx (eqC k i n) s.cells 0 = -1) : Fresh Tryz.prog 7 [stA s, .v (.agg (cellC k i n))] (fun _ => .tp [.v (.agg #[.int .i64 0, .int .i64 0, .slice none 0 0]), .v (.int .i64 6)]) [] := by
  have hf := find_ok s k i n (by have := hs.c; omega)
  rw [hj] at hf
  unfold stA at hf ⊢
  refine Fresh.of (fn := Tryz.f7) Tryz.func7 rfl (Nat.le_of_ble_eq_true rfl) fun w => ?_
  (refine Gol.seq ?_; apply Gol.region; apply Trc.stp rfl rfl rfl; apply s_box; exact rfl
   exact rfl; dsimp only [Nat.reduceAdd, Nat.reduceMul, Nat.reduceSub, List.nil_append, List.cons_append, nbk, List.map_cons, List.map_nil]; apply Trc.stp rfl rfl rfl; apply s_box; exact rfl; exact rfl; dsimp only [Nat.reduceAdd, Nat.reduceMul, Nat.reduceSub, List.nil_append, List.cons_append, nbk, List.map_cons, List.map_nil]
   apply Trc.stp rfl rfl rfl; apply s_alloc; dsimp only [Nat.reduceAdd, Nat.reduceMul, Nat.reduceSub, List.nil_append, List.cons_append, nbk, List.map_cons, List.map_nil]
   apply Trc.stp rfl rfl rfl; apply s_assign; exact rfl; dsimp only [Nat.reduceAdd, Nat.reduceMul, List.nil_append]
   exact Trc.done _ _ _; exact rfl; refine thn_n ?_; refine Gol.seq ?_; apply Gol.region; apply Trc.stp rfl rfl rfl; apply s_loadW; exact rfl; exact rfl; exact rfl; exact agu_cua _; dsimp only [Nat.reduceAdd, Nat.reduceMul, List.nil_append]
   apply Trc.stp rfl rfl rfl; apply s_loadW; exact rfl; exact rfl; exact rfl; exact agu_cuv _; dsimp only [Nat.reduceAdd, Nat.reduceMul, List.nil_append]
   apply Trc.stp rfl rfl rfl; apply s_call (f := 33) rfl; apply evs.cons rfl; apply evs.cons rfl; exact evs.nil; apply ArgL.cons
   exact arg_clo; apply ArgL.cons; exact arg_clo; exact ArgL.nil; exact hf; exact Nat.le_of_ble_eq_true rfl; dsimp only [Nat.reduceAdd, Nat.reduceMul, Nat.reduceSub, List.nil_append, List.cons_append, nbk, List.map_cons, List.map_nil]
   apply Trc.stp rfl rfl rfl; apply s_assign; exact rfl; dsimp only [Nat.reduceAdd, Nat.reduceMul, List.nil_append]
   exact Trc.done _ _ _; exact rfl; refine thn_n ?_; refine Gol.seq ?_; refine Gol.seq ?_; apply Gol.region
   apply Trc.stp rfl rfl rfl; apply s_move; exact rfl; dsimp only [Nat.reduceAdd, Nat.reduceMul, List.nil_append]
   apply Trc.stp rfl rfl rfl; apply s_lt; exact rfl; exact rfl; dsimp only [Nat.reduceAdd, Nat.reduceMul, List.nil_append]
   exact Trc.done _ _ _; exact rfl; refine thn_n ?_)
  refine Gol.cond_t rfl (by decide) ?_
  (refine Gol.seq ?_; apply Gol.region; apply Trc.stp rfl rfl rfl; apply s_zero; dsimp only [Nat.reduceAdd, Nat.reduceMul, Nat.reduceSub, List.nil_append, List.cons_append, nbk, List.map_cons, List.map_nil]
   apply Trc.stepN rfl rfl; exact wnt_n rfl; apply s_storeW; exact rfl; exact rfl; exact rfl; exact rfl; rfl; exact rfl; dsimp only [Nat.reduceAdd, Nat.reduceMul, Nat.reduceSub, List.nil_append, List.cons_append, nbk, List.map_cons, List.map_nil]
   apply Trc.stp rfl rfl rfl; apply s_assign; exact rfl; dsimp only [Nat.reduceAdd, Nat.reduceMul, List.nil_append]
   exact Trc.done _ _ _; exact rfl; refine thn_n ?_; refine Gol.ret ?_; refine thn_r ?_)
  (apply RetQ.mk (by first | exact .inr rfl | exact .inl rfl); apply res_2 rfl; exact res_cell rfl rfl rfl (agu_cuv _); exact res_tmp rfl; exact out_val)
theorem proveApplied_no (s : Stt) (hs : Sm s) (n : UInt64) (hj : fIx (fun x => n == x) s.applied 0 = -1) : Fresh Tryz.prog 9 [stA s, .v (.agg (nameC n))] (fun _ => .tp [.v (.agg #[.int .i64 0, .int .i64 0, .slice none 0 0]), .v (.int .i64 6)]) [] := by
  have hf := fun fl => idxN_ok s.applied fl n (by have := hs.a; omega)
  rw [hj] at hf
  unfold stA
  refine Fresh.of (fn := Tryz.f9) Tryz.func9 rfl (Nat.le_of_ble_eq_true rfl) fun w => ?_
  (refine Gol.seq ?_; apply Gol.region; apply Trc.stp rfl rfl rfl; apply s_box; exact rfl
   exact rfl; dsimp only [Nat.reduceAdd, Nat.reduceMul, Nat.reduceSub, List.nil_append, List.cons_append, nbk, List.map_cons, List.map_nil]; apply Trc.stp rfl rfl rfl; apply s_box; exact rfl; exact rfl; dsimp only [Nat.reduceAdd, Nat.reduceMul, Nat.reduceSub, List.nil_append, List.cons_append, nbk, List.map_cons, List.map_nil]
   apply Trc.stp rfl rfl rfl; apply s_alloc; dsimp only [Nat.reduceAdd, Nat.reduceMul, Nat.reduceSub, List.nil_append, List.cons_append, nbk, List.map_cons, List.map_nil]
   apply Trc.stp rfl rfl rfl; apply s_assign; exact rfl; dsimp only [Nat.reduceAdd, Nat.reduceMul, List.nil_append]
   exact Trc.done _ _ _; exact rfl; refine thn_n ?_; refine Gol.seq ?_; apply Gol.region; apply Trc.stp rfl rfl rfl; apply s_fieldAddr; exact rfl; dsimp only [Nat.reduceAdd, Nat.reduceMul, List.nil_append]
   apply Trc.stp rfl rfl rfl; apply s_load; exact rfl; exact rfl; exact rfl; dsimp only [Nat.reduceAdd, Nat.reduceMul, List.nil_append]
   apply Trc.stp rfl rfl rfl; apply s_loadW; exact rfl; exact rfl; exact rfl; exact agu_cuv _; dsimp only [Nat.reduceAdd, Nat.reduceMul, List.nil_append]
   apply Trc.stp rfl rfl rfl; apply s_call (f := 37) rfl; apply evs.cons rfl; apply evs.cons rfl
   exact evs.nil; apply ArgL.cons; exact arg_clo; apply ArgL.cons; exact arg_clo; exact ArgL.nil; exact hf _; exact Nat.le_of_ble_eq_true rfl; dsimp only [Nat.reduceAdd, Nat.reduceMul, Nat.reduceSub, List.nil_append, List.cons_append, nbk, List.map_cons, List.map_nil]
   apply Trc.stp rfl rfl rfl; apply s_assign; exact rfl; dsimp only [Nat.reduceAdd, Nat.reduceMul, List.nil_append]
   exact Trc.done _ _ _; exact rfl; refine thn_n ?_; refine Gol.seq ?_; refine Gol.seq ?_; apply Gol.region
   apply Trc.stp rfl rfl rfl; apply s_move; exact rfl; dsimp only [Nat.reduceAdd, Nat.reduceMul, List.nil_append]
   apply Trc.stp rfl rfl rfl; apply s_lt; exact rfl; exact rfl; dsimp only [Nat.reduceAdd, Nat.reduceMul, List.nil_append]
   exact Trc.done _ _ _; exact rfl; refine thn_n ?_)
  refine Gol.cond_t rfl (by decide) ?_
  (refine Gol.seq ?_; apply Gol.region; apply Trc.stp rfl rfl rfl; apply s_zero; dsimp only [Nat.reduceAdd, Nat.reduceMul, Nat.reduceSub, List.nil_append, List.cons_append, nbk, List.map_cons, List.map_nil]
   apply Trc.stepN rfl rfl; exact wnt_n rfl; apply s_storeW; exact rfl; exact rfl; exact rfl; exact rfl; rfl; exact rfl; dsimp only [Nat.reduceAdd, Nat.reduceMul, Nat.reduceSub, List.nil_append, List.cons_append, nbk, List.map_cons, List.map_nil]
   apply Trc.stp rfl rfl rfl; apply s_assign; exact rfl; dsimp only [Nat.reduceAdd, Nat.reduceMul, List.nil_append]
   exact Trc.done _ _ _; exact rfl; refine thn_n ?_; refine Gol.ret ?_; refine thn_r ?_)
  (apply RetQ.mk (by first | exact .inr rfl | exact .inl rfl); apply res_2 rfl; exact res_cell rfl rfl rfl (agu_cuv _); exact res_tmp rfl; exact out_val)
theorem proveApplied_yes (s : Stt) (hs : Sm s) (n : UInt64) (j : Nat) (hj : fIx (fun x => n == x) s.applied 0 = (j : Int)) (hjl : j < s.applied.length) : Fresh Tryz.prog 9 [stA s, .v (.agg (nameC n))] (fun k => .tp [.ag [.v (.int .i64 ((s.cells.length + s.seqs.length + s.locks.length + j : Nat) : Int)), .v (.int .i64 ((leavesN S s).length : Int)), .sl k (depN (s.cells.length + s.seqs.length + s.locks.length + j) (leavesN S s).length)], .v (.int .i64 0)]) [⟨byA (flat (pathN S (leavesN S s) (s.cells.length + s.seqs.length + s.locks.length + j))), 30, 8⟩] := by
  have hn := leavesN_len S s
  have hp := prove_ok S hS s hs (s.cells.length + s.seqs.length + s.locks.length + j) (by omega)
  have hf := fun fl => idxN_ok s.applied fl n (by have := hs.a; omega)
  rw [hj] at hf
  obtain ⟨h1, h2, h3, h4⟩ := hs
  unfold stA at hp ⊢
  refine Fresh.of (fn := Tryz.f9) Tryz.func9 rfl (Nat.le_of_ble_eq_true rfl) fun w => ?_
  (refine Gol.seq ?_; apply Gol.region; apply Trc.stp rfl rfl rfl; apply s_box; exact rfl
   exact rfl; dsimp only [Nat.reduceAdd, Nat.reduceMul, Nat.reduceSub, List.nil_append, List.cons_append, nbk, List.map_cons, List.map_nil]; apply Trc.stp rfl rfl rfl; apply s_box; exact rfl; exact rfl; dsimp only [Nat.reduceAdd, Nat.reduceMul, Nat.reduceSub, List.nil_append, List.cons_append, nbk, List.map_cons, List.map_nil]
   apply Trc.stp rfl rfl rfl; apply s_alloc; dsimp only [Nat.reduceAdd, Nat.reduceMul, Nat.reduceSub, List.nil_append, List.cons_append, nbk, List.map_cons, List.map_nil]
   apply Trc.stp rfl rfl rfl; apply s_assign; exact rfl; dsimp only [Nat.reduceAdd, Nat.reduceMul, List.nil_append]
   exact Trc.done _ _ _; exact rfl; refine thn_n ?_; refine Gol.seq ?_; apply Gol.region; apply Trc.stp rfl rfl rfl; apply s_fieldAddr; exact rfl; dsimp only [Nat.reduceAdd, Nat.reduceMul, List.nil_append]
   apply Trc.stp rfl rfl rfl; apply s_load; exact rfl; exact rfl; exact rfl; dsimp only [Nat.reduceAdd, Nat.reduceMul, List.nil_append]
   apply Trc.stp rfl rfl rfl; apply s_loadW; exact rfl; exact rfl; exact rfl; exact agu_cuv _; dsimp only [Nat.reduceAdd, Nat.reduceMul, List.nil_append]
   apply Trc.stp rfl rfl rfl; apply s_call (f := 37) rfl; apply evs.cons rfl; apply evs.cons rfl
   exact evs.nil; apply ArgL.cons; exact arg_clo; apply ArgL.cons; exact arg_clo; exact ArgL.nil; exact hf _; exact Nat.le_of_ble_eq_true rfl; dsimp only [Nat.reduceAdd, Nat.reduceMul, Nat.reduceSub, List.nil_append, List.cons_append, nbk, List.map_cons, List.map_nil]
   apply Trc.stp rfl rfl rfl; apply s_assign; exact rfl; dsimp only [Nat.reduceAdd, Nat.reduceMul, List.nil_append]
   exact Trc.done _ _ _; exact rfl; refine thn_n ?_; refine Gol.seq ?_; refine Gol.seq ?_; apply Gol.region
   apply Trc.stp rfl rfl rfl; apply s_move; exact rfl; dsimp only [Nat.reduceAdd, Nat.reduceMul, List.nil_append]
   apply Trc.stp rfl rfl rfl; apply s_ltn; exact rfl; exact rfl; dsimp only [Nat.reduceAdd, Nat.reduceMul, List.nil_append]
   exact Trc.done _ _ _; exact rfl; refine thn_n ?_)
  refine Gol.cond_f rfl (by simp) ?_
  (refine Gol.skip ?_; refine thn_n ?_; refine Gol.seq ?_; apply Gol.region; apply Trc.stp rfl rfl rfl; apply s_loadW; exact rfl; exact rfl; exact rfl; exact agu_cua _; dsimp only [Nat.reduceAdd, Nat.reduceMul, List.nil_append]
   apply Trc.stp rfl rfl rfl; apply s_fieldAddr; exact rfl; dsimp only [Nat.reduceAdd, Nat.reduceMul, List.nil_append]
   apply Trc.stp rfl rfl rfl; apply s_load; exact rfl; exact rfl; exact rfl; dsimp only [Nat.reduceAdd, Nat.reduceMul, List.nil_append]
   apply Trc.stp rfl rfl rfl; apply s_len; exact rfl; exact ln_ex; dsimp only [Nat.reduceAdd, Nat.reduceMul, List.nil_append]
   apply Trc.stp rfl rfl rfl; apply s_fieldAddr; exact rfl; dsimp only [Nat.reduceAdd, Nat.reduceMul, List.nil_append]
   apply Trc.stp rfl rfl rfl; apply s_load; exact rfl; exact rfl; exact rfl; dsimp only [Nat.reduceAdd, Nat.reduceMul, List.nil_append]
   apply Trc.stp rfl rfl rfl; apply s_len; exact rfl; exact ln_ex; dsimp only [Nat.reduceAdd, Nat.reduceMul, List.nil_append]
   apply Trc.stp rfl rfl rfl; apply s_addn; exact rfl; exact rfl; omega; dsimp only [Nat.reduceAdd, Nat.reduceMul, List.nil_append]
   apply Trc.stp rfl rfl rfl; apply s_fieldAddr; exact rfl; dsimp only [Nat.reduceAdd, Nat.reduceMul, List.nil_append]
   apply Trc.stp rfl rfl rfl; apply s_load; exact rfl; exact rfl; exact rfl; dsimp only [Nat.reduceAdd, Nat.reduceMul, List.nil_append]
   apply Trc.stp rfl rfl rfl; apply s_len; exact rfl; exact ln_ex; dsimp only [Nat.reduceAdd, Nat.reduceMul, List.nil_append]
   apply Trc.stp rfl rfl rfl; apply s_addn; exact rfl; exact rfl; omega; dsimp only [Nat.reduceAdd, Nat.reduceMul, List.nil_append]
   apply Trc.stp rfl rfl rfl; apply s_move; exact rfl; dsimp only [Nat.reduceAdd, Nat.reduceMul, List.nil_append]
   apply Trc.stp rfl rfl rfl; apply s_addn; exact rfl; exact rfl; omega; dsimp only [Nat.reduceAdd, Nat.reduceMul, List.nil_append]
   apply Trc.stp rfl rfl rfl; apply s_call (f := 34) rfl; apply evs.cons rfl; apply evs.cons rfl; exact evs.nil; apply ArgL.cons
   exact arg_clo; apply ArgL.cons; exact arg_clo; exact ArgL.nil; exact hp; exact Nat.le_of_ble_eq_true rfl; dsimp only [Nat.reduceAdd, Nat.reduceMul, Nat.reduceSub, List.nil_append, List.cons_append, nbk, List.map_cons, List.map_nil]
   apply Trc.stp rfl rfl rfl; apply s_extract; exact rfl; exact rfl; dsimp only [Nat.reduceAdd, Nat.reduceMul, List.nil_append]
   apply Trc.stp rfl rfl rfl; apply s_extract; exact rfl; exact rfl; dsimp only [Nat.reduceAdd, Nat.reduceMul, List.nil_append]
   apply Trc.stepN rfl rfl; exact wnt_n rfl; apply s_storeW; exact rfl; exact rfl; exact rfl; exact rfl; rfl; exact rfl; dsimp only [Nat.reduceAdd, Nat.reduceMul, Nat.reduceSub, List.nil_append, List.cons_append, nbk, List.map_cons, List.map_nil]
   apply Trc.stp rfl rfl rfl; apply s_assign; exact rfl; dsimp only [Nat.reduceAdd, Nat.reduceMul, List.nil_append]
   exact Trc.done _ _ _; exact rfl; refine thn_n ?_; refine Gol.ret ?_)
  (apply RetQ.mkM (by first | exact .inr rfl | exact .inl rfl); apply res_2 rfl; exact res_cell rfl rfl rfl (agu_cua _); exact res_tmp rfl; apply out_ids [200] rfl
   apply OBs.cons; exact rfl; exact inferInstance; exact OBs.nil; intro k; apply Ot.tpL; apply OtL.cons; apply Ot.agL; apply OtL.cons; exact Ot.v inferInstance
   apply OtL.cons; exact Ot.v inferInstance; apply OtL.cons; exact Ot.sl (j := 0) rfl; exact OtL.nil; apply OtL.cons; exact Ot.v inferInstance; exact OtL.nil)
theorem checkCell_ok (root : UInt64) (d : Dl) (i n : Int) (p : List UInt64) (f : Bool) (hn : n ≤ 9223372036854775807) (hd : p.length ≤ 140737488355000) : Fresh Tryz.prog 13 [.v (.agg (nameC root)), .v (.agg (deltaC d.k d.i d.n d.a)), .ag [.v (.int .i64 i), .v (.int .i64 n), .ex p.length f (byA (flat p))]] (fun _ => .v (.bool (folO i n p.length && folR S (leafD S d) i n p == root))) [] := by
  refine Fresh.of (fn := Tryz.f13) Tryz.func13 rfl (Nat.le_of_ble_eq_true rfl) fun w => ?_
  (refine Gol.seq ?_; apply Gol.region; apply Trc.stp rfl rfl rfl; apply s_box; exact rfl
   exact rfl; dsimp only [Nat.reduceAdd, Nat.reduceMul, Nat.reduceSub, List.nil_append, List.cons_append, nbk, List.map_cons, List.map_nil]; apply Trc.stp rfl rfl rfl; apply s_box; exact rfl; exact rfl; dsimp only [Nat.reduceAdd, Nat.reduceMul, Nat.reduceSub, List.nil_append, List.cons_append, nbk, List.map_cons, List.map_nil]
   apply Trc.stp rfl rfl rfl; apply s_box; exact rfl; exact rfl; dsimp only [Nat.reduceAdd, Nat.reduceMul, Nat.reduceSub, List.nil_append, List.cons_append, nbk, List.map_cons, List.map_nil]
   apply Trc.stp rfl rfl rfl; apply s_assign; exact rfl; dsimp only [Nat.reduceAdd, Nat.reduceMul, List.nil_append]
   exact Trc.done _ _ _; exact rfl; refine thn_n ?_; refine Gol.seq ?_; apply Gol.any; kernel_rfl; apply Trc.stp rfl rfl rfl; apply s_loadW; exact rfl; exact rfl; exact rfl; exact agu_cuv _; dsimp only [Nat.reduceAdd, Nat.reduceMul, List.nil_append]
   apply Trc.stp rfl rfl rfl; apply s_loadW; exact rfl; exact rfl; exact rfl; exact agu_cuv _; dsimp only [Nat.reduceAdd, Nat.reduceMul, List.nil_append]
   apply Trc.stp rfl rfl rfl; apply s_call (f := 42) rfl; apply evs.cons rfl; exact evs.nil; apply ArgL.cons; exact arg_clo
   exact ArgL.nil; exact leafCell_ok S hS d; exact Nat.le_of_ble_eq_true rfl; dsimp only [Nat.reduceAdd, Nat.reduceMul, Nat.reduceSub, List.nil_append, List.cons_append, nbk, List.map_cons, List.map_nil]
   apply Trc.stp rfl rfl rfl; apply s_fieldAddr; exact rfl; dsimp only [Nat.reduceAdd, Nat.reduceMul, List.nil_append]
   apply Trc.stp rfl rfl rfl; apply s_load; exact rfl; exact rfl; exact rfl; dsimp only [Nat.reduceAdd, Nat.reduceMul, List.nil_append]
   apply Trc.stp rfl rfl rfl; apply s_fieldAddr; exact rfl; dsimp only [Nat.reduceAdd, Nat.reduceMul, List.nil_append]
   apply Trc.stp rfl rfl rfl; apply s_load; exact rfl; exact rfl; exact rfl; dsimp only [Nat.reduceAdd, Nat.reduceMul, List.nil_append]
   apply Trc.stp rfl rfl rfl; apply s_fieldAddr; exact rfl; dsimp only [Nat.reduceAdd, Nat.reduceMul, List.nil_append]
   apply Trc.stp rfl rfl rfl; apply s_load; exact rfl; exact rfl; exact rfl; dsimp only [Nat.reduceAdd, Nat.reduceMul, List.nil_append]
   apply Trc.stp rfl rfl rfl; apply s_call (f := 41) rfl; apply evs.cons rfl; apply evs.cons rfl; apply evs.cons rfl
   apply evs.cons rfl; apply evs.cons rfl; exact evs.nil; apply ArgL.cons; exact arg_clo; apply ArgL.cons; exact arg_clo; apply ArgL.cons; exact arg_clo
   apply ArgL.cons; exact arg_clo; apply ArgL.cons; exact arg_clo; exact ArgL.nil; exact verify_ok S hS root (leafD S d) i n p _ _ hn rfl hd; exact Nat.le_of_ble_eq_true rfl
   dsimp only [Nat.reduceAdd, Nat.reduceMul, Nat.reduceSub, List.nil_append, List.cons_append, nbk, List.map_cons, List.map_nil]; apply Trc.stp rfl rfl rfl; apply s_assign; exact rfl; dsimp only [Nat.reduceAdd, Nat.reduceMul, List.nil_append]
   exact Trc.done _ _ _; kernel_rfl; exact rfl; refine thn_n ?_; refine Gol.ret ?_)
  (apply RetQ.mk (by first | exact .inr rfl | exact .inl rfl); apply res_1 rfl; exact res_tmp rfl; exact out_val)
theorem checkApplied_ok (root m : UInt64) (i n : Int) (p : List UInt64) (f : Bool) (hn : n ≤ 9223372036854775807) (hd : p.length ≤ 140737488355000) : Fresh Tryz.prog 15 [.v (.agg (nameC root)), .v (.agg (nameC m)), .ag [.v (.int .i64 i), .v (.int .i64 n), .ex p.length f (byA (flat p))]] (fun _ => .v (.bool (folO i n p.length && folR S (leafN S m) i n p == root))) [] := by
  refine Fresh.of (fn := Tryz.f15) Tryz.func15 rfl (Nat.le_of_ble_eq_true rfl) fun w => ?_
  (refine Gol.seq ?_; apply Gol.region; apply Trc.stp rfl rfl rfl; apply s_box; exact rfl
   exact rfl; dsimp only [Nat.reduceAdd, Nat.reduceMul, Nat.reduceSub, List.nil_append, List.cons_append, nbk, List.map_cons, List.map_nil]; apply Trc.stp rfl rfl rfl; apply s_box; exact rfl; exact rfl; dsimp only [Nat.reduceAdd, Nat.reduceMul, Nat.reduceSub, List.nil_append, List.cons_append, nbk, List.map_cons, List.map_nil]
   apply Trc.stp rfl rfl rfl; apply s_box; exact rfl; exact rfl; dsimp only [Nat.reduceAdd, Nat.reduceMul, Nat.reduceSub, List.nil_append, List.cons_append, nbk, List.map_cons, List.map_nil]
   apply Trc.stp rfl rfl rfl; apply s_assign; exact rfl; dsimp only [Nat.reduceAdd, Nat.reduceMul, List.nil_append]
   exact Trc.done _ _ _; exact rfl; refine thn_n ?_; refine Gol.seq ?_; apply Gol.any; kernel_rfl; apply Trc.stp rfl rfl rfl; apply s_loadW; exact rfl; exact rfl; exact rfl; exact agu_cuv _; dsimp only [Nat.reduceAdd, Nat.reduceMul, List.nil_append]
   apply Trc.stp rfl rfl rfl; apply s_loadW; exact rfl; exact rfl; exact rfl; exact agu_cuv _; dsimp only [Nat.reduceAdd, Nat.reduceMul, List.nil_append]
   apply Trc.stp rfl rfl rfl; apply s_call (f := 43) rfl; apply evs.cons rfl; exact evs.nil; apply ArgL.cons
   exact arg_clo; exact ArgL.nil; exact leafApplied_ok S hS m; exact Nat.le_of_ble_eq_true rfl; dsimp only [Nat.reduceAdd, Nat.reduceMul, Nat.reduceSub, List.nil_append, List.cons_append, nbk, List.map_cons, List.map_nil]
   apply Trc.stp rfl rfl rfl; apply s_fieldAddr; exact rfl; dsimp only [Nat.reduceAdd, Nat.reduceMul, List.nil_append]
   apply Trc.stp rfl rfl rfl; apply s_load; exact rfl; exact rfl; exact rfl; dsimp only [Nat.reduceAdd, Nat.reduceMul, List.nil_append]
   apply Trc.stp rfl rfl rfl; apply s_fieldAddr; exact rfl; dsimp only [Nat.reduceAdd, Nat.reduceMul, List.nil_append]
   apply Trc.stp rfl rfl rfl; apply s_load; exact rfl; exact rfl; exact rfl; dsimp only [Nat.reduceAdd, Nat.reduceMul, List.nil_append]
   apply Trc.stp rfl rfl rfl; apply s_fieldAddr; exact rfl; dsimp only [Nat.reduceAdd, Nat.reduceMul, List.nil_append]
   apply Trc.stp rfl rfl rfl; apply s_load; exact rfl; exact rfl; exact rfl; dsimp only [Nat.reduceAdd, Nat.reduceMul, List.nil_append]
   apply Trc.stp rfl rfl rfl; apply s_call (f := 41) rfl; apply evs.cons rfl; apply evs.cons rfl; apply evs.cons rfl
   apply evs.cons rfl; apply evs.cons rfl; exact evs.nil; apply ArgL.cons; exact arg_clo; apply ArgL.cons; exact arg_clo; apply ArgL.cons; exact arg_clo
   apply ArgL.cons; exact arg_clo; apply ArgL.cons; exact arg_clo; exact ArgL.nil; exact verify_ok S hS root (leafN S m) i n p _ _ hn rfl hd; exact Nat.le_of_ble_eq_true rfl
   dsimp only [Nat.reduceAdd, Nat.reduceMul, Nat.reduceSub, List.nil_append, List.cons_append, nbk, List.map_cons, List.map_nil]; apply Trc.stp rfl rfl rfl; apply s_assign; exact rfl; dsimp only [Nat.reduceAdd, Nat.reduceMul, List.nil_append]
   exact Trc.done _ _ _; kernel_rfl; exact rfl; refine thn_n ?_; refine Gol.ret ?_)
  (apply RetQ.mk (by first | exact .inr rfl | exact .inl rfl); apply res_1 rfl; exact res_tmp rfl; exact out_val)
omit hS
theorem refNum_ok (bs : List UInt8) (v : Int) (m n : Nat) (f : Bool) (hw : m ≤ 8) (hn : bs.length = n) (h : n ≤ 1000000) : Fresh Tryz.prog 82 [.ex n f (byA bs), .v (.int .i64 v), .v (.int .i64 (m : Int))] (fun k => .sl k (n + m)) [⟨byA (bs ++ beB (toU64 v) m), 5, 1⟩] := by
  refine Fresh.of (fn := Tryz.f82) Tryz.func82 rfl (Nat.le_of_ble_eq_true rfl) fun w => ?_
  (refine Gol.seq ?_; apply Gol.region; apply Trc.stp rfl rfl rfl; apply s_assign; exact rfl
   dsimp only [Nat.reduceAdd, Nat.reduceMul, List.nil_append]; exact Trc.done _ _ _; exact rfl
   refine thn_n ?_; refine Gol.seq ?_; apply Gol.region; apply Trc.stp rfl rfl rfl; apply s_move
   exact rfl; dsimp only [Nat.reduceAdd, Nat.reduceMul, List.nil_append]; apply Trc.stp rfl rfl rfl; apply s_move; exact rfl; dsimp only [Nat.reduceAdd, Nat.reduceMul, List.nil_append]
   apply Trc.stp rfl rfl rfl; apply s_cu64; exact rfl; dsimp only [Nat.reduceAdd, Nat.reduceMul, List.nil_append]
   apply Trc.stp rfl rfl rfl; apply s_move; exact rfl; dsimp only [Nat.reduceAdd, Nat.reduceMul, List.nil_append]
   apply Trc.stp rfl rfl rfl; apply s_call (f := 112) rfl; apply evs.cons rfl; apply evs.cons rfl; apply evs.cons rfl
   exact evs.nil; apply ArgL.cons; exact arg_clo; apply ArgL.cons; exact arg_clo; apply ArgL.cons; exact arg_clo; exact ArgL.nil; exact refAppUint_n bs (toU64 v) m n _ hw hn (by omega)
   exact Nat.le_of_ble_eq_true rfl; dsimp only [Nat.reduceAdd, Nat.reduceMul, Nat.reduceSub, List.nil_append, List.cons_append, nbk, List.map_cons, List.map_nil]
   apply Trc.stp rfl rfl rfl; apply s_assign; exact rfl; dsimp only [Nat.reduceAdd, Nat.reduceMul, List.nil_append]
   exact Trc.done _ _ _; exact rfl; refine thn_n ?_; refine Gol.ret ?_)
  (apply RetQ.mk (by first | exact .inr rfl | exact .inl rfl); apply res_1 rfl; exact res_tmp rfl; exact out_sl rfl)
theorem refName_ok (bs : List UInt8) (x : UInt64) (n : Nat) (f : Bool) (hn : bs.length = n) (h : n ≤ 1000000) : Fresh Tryz.prog 83 [.ex n f (byA bs), .v (.agg (nameC x))] (fun k => .sl k (n + 8)) [⟨byA (bs ++ nameB x), 5, 1⟩] := by
  refine Fresh.of (fn := Tryz.f83) Tryz.func83 rfl (Nat.le_of_ble_eq_true rfl) fun w => ?_
  (refine Gol.seq ?_; apply Gol.region; apply Trc.stp rfl rfl rfl; apply s_box; exact rfl
   exact rfl; dsimp only [Nat.reduceAdd, Nat.reduceMul, Nat.reduceSub, List.nil_append, List.cons_append, nbk, List.map_cons, List.map_nil]; apply Trc.stp rfl rfl rfl; apply s_assign; exact rfl; dsimp only [Nat.reduceAdd, Nat.reduceMul, List.nil_append]
   exact Trc.done _ _ _; exact rfl; refine thn_n ?_; refine Gol.seq ?_; apply Gol.any; kernel_rfl; apply Trc.stp rfl rfl rfl; apply s_bytesP; exact PV.nil; exact rfl; omega; dsimp only [Nat.reduceAdd, Nat.reduceMul, Nat.reduceSub, List.nil_append, List.cons_append, nbk, List.map_cons, List.map_nil]
   apply Trc.stp rfl rfl rfl; apply s_move; exact rfl; dsimp only [Nat.reduceAdd, Nat.reduceMul, List.nil_append]
   apply Trc.stp rfl rfl rfl; apply s_app; exact rfl; exact rfl; exact rfl; apply rd_ex; simp only [byA_length, List.length_append, List.length_cons, List.length_nil, List.length_take, List.length_drop, List.length_replicate, List.length_map, Nat.mul_one, nameB_length, flat_length, List.length_set, inA_length, dsA_length, lsA_length, dA_length, lA_length] <;> omega
   rfl; exact rfl; exact rfl; exact OneL.one; omega; dsimp only [Nat.reduceAdd, Nat.reduceMul, Nat.reduceSub, List.nil_append, List.cons_append, nbk, List.map_cons, List.map_nil]
   apply Trc.stp rfl rfl rfl; apply s_slA; exact rfl; exact rfl; exact rfl; exact rfl; simp; omega; omega; omega; dsimp only [Nat.reduceAdd, Nat.reduceMul, Nat.reduceSub, List.nil_append, List.cons_append, nbk, List.map_cons, List.map_nil]
   apply Trc.stp rfl rfl rfl; apply s_app; exact rfl; exact rfl; exact rfl; exact rd_name rfl rfl; simp only [byA_length, List.length_append, List.length_cons, List.length_nil, List.length_take, List.length_drop, List.length_replicate, List.length_map, Nat.mul_one, nameB_length, flat_length, List.length_set, inA_length, dsA_length, lsA_length, dA_length, lA_length] <;> omega
   exact rfl; exact rfl; exact OneL.one; omega; dsimp only [Nat.reduceAdd, Nat.reduceMul, Nat.reduceSub, List.nil_append, List.cons_append, nbk, List.map_cons, List.map_nil]
   apply Trc.stp rfl rfl rfl; apply s_assign; exact rfl; dsimp only [Nat.reduceAdd, Nat.reduceMul, List.nil_append]
   exact Trc.done _ _ _; kernel_rfl; exact rfl; refine thn_n ?_; refine Gol.ret ?_)
  simp only [Nat.zero_add, List.nil_append, ← byA_append]
  (apply RetQ.mk (by first | exact .inr rfl | exact .inl rfl); apply res_1 rfl; exact res_tmp rfl; exact out_sl rfl)
include hS
theorem refCellLeaf_ok (d : Dl) : Fresh Tryz.prog 81 [.v (.agg (deltaC d.k d.i d.n d.a))] (fun _ => .v (.agg (nameC (leafD S d)))) [] := by
  have e : [] ++ beB (toU64 d.k) 1 ++ beB (toU64 d.i) 1 ++ nameB d.n ++ beB (toU64 d.a) 8 = bytD d := by rw [byte1, byte1]; simp [bytD]
  have h1 := (refNum_ok [] d.k 1 0 false (by decide) rfl (by decide)).sub sub_nil
  have h2 := fun f => refNum_ok ([] ++ beB (toU64 d.k) 1) d.i 1 1 f (by decide) (by simp [beB_length]) (by decide)
  have h3 := fun f => refName_ok ([] ++ beB (toU64 d.k) 1 ++ beB (toU64 d.i) 1) d.n 2 f (by simp [beB_length]) (by decide)
  have h4 := fun f => refNum_ok ([] ++ beB (toU64 d.k) 1 ++ beB (toU64 d.i) 1 ++ nameB d.n) d.a 8 10 f (by decide) (by simp [beB_length, nameB_length]) (by decide)
  have h5 := fun f => hS.refTagged 0x52 (bytD d) 18 f (by simp [bytD, nameB_length, beB_length]) (by decide)
  rw [e] at h4
  refine Fresh.of (fn := Tryz.f81) Tryz.func81 rfl (Nat.le_of_ble_eq_true rfl) fun w => ?_
  (refine Gol.seq ?_; apply Gol.region; apply Trc.stp rfl rfl rfl; apply s_box; exact rfl
   exact rfl; dsimp only [Nat.reduceAdd, Nat.reduceMul, Nat.reduceSub, List.nil_append, List.cons_append, nbk, List.map_cons, List.map_nil]; apply Trc.stp rfl rfl rfl; apply s_alloc; dsimp only [Nat.reduceAdd, Nat.reduceMul, Nat.reduceSub, List.nil_append, List.cons_append, nbk, List.map_cons, List.map_nil]
   exact Trc.done _ _ _; exact rfl; refine thn_n ?_; refine Gol.seq ?_; apply Gol.any; kernel_rfl; apply Trc.stp rfl rfl rfl; apply s_fieldAddr; exact rfl; dsimp only [Nat.reduceAdd, Nat.reduceMul, List.nil_append]
   apply Trc.stp rfl rfl rfl; apply s_fieldAddr; exact rfl; dsimp only [Nat.reduceAdd, Nat.reduceMul, List.nil_append]
   apply Trc.stp rfl rfl rfl; apply s_load; exact rfl; exact rfl; exact rfl; dsimp only [Nat.reduceAdd, Nat.reduceMul, List.nil_append]
   apply Trc.stp rfl rfl rfl; apply s_call (f := 82) rfl; apply evs.cons rfl; apply evs.cons rfl; apply evs.cons rfl
   exact evs.nil; apply ArgL.cons; exact arg_clo; apply ArgL.cons; exact arg_clo; apply ArgL.cons; exact arg_clo; exact ArgL.nil; exact h1; exact Nat.le_of_ble_eq_true rfl
   dsimp only [Nat.reduceAdd, Nat.reduceMul, Nat.reduceSub, List.nil_append, List.cons_append, nbk, List.map_cons, List.map_nil]; apply Trc.stp rfl rfl rfl; apply s_fieldAddr; exact rfl; dsimp only [Nat.reduceAdd, Nat.reduceMul, List.nil_append]
   apply Trc.stp rfl rfl rfl; apply s_fieldAddr; exact rfl; dsimp only [Nat.reduceAdd, Nat.reduceMul, List.nil_append]
   apply Trc.stp rfl rfl rfl; apply s_load; exact rfl; exact rfl; exact rfl; dsimp only [Nat.reduceAdd, Nat.reduceMul, List.nil_append]
   apply Trc.stp rfl rfl rfl; apply s_call (f := 82) rfl; apply evs.cons rfl; apply evs.cons rfl; apply evs.cons rfl
   exact evs.nil; apply ArgL.cons; exact arg_sl rfl; apply ArgL.cons; exact arg_clo; apply ArgL.cons; exact arg_clo; exact ArgL.nil; exact h2 _; exact Nat.le_of_ble_eq_true rfl
   dsimp only [Nat.reduceAdd, Nat.reduceMul, Nat.reduceSub, List.nil_append, List.cons_append, nbk, List.map_cons, List.map_nil]; apply Trc.stp rfl rfl rfl; apply s_fieldAddr; exact rfl; dsimp only [Nat.reduceAdd, Nat.reduceMul, List.nil_append]
   apply Trc.stp rfl rfl rfl; apply s_fieldAddr; exact rfl; dsimp only [Nat.reduceAdd, Nat.reduceMul, List.nil_append]
   apply Trc.stp rfl rfl rfl; apply s_loadN; exact rfl; exact rfl; exact Nat.le_of_ble_eq_true rfl; exact agu_nm8 rfl; dsimp only [Nat.reduceAdd, Nat.reduceMul, List.nil_append]
   apply Trc.stp rfl rfl rfl; apply s_call (f := 83) rfl; apply evs.cons rfl; apply evs.cons rfl; exact evs.nil
   apply ArgL.cons; exact arg_sl rfl; apply ArgL.cons; exact arg_clo; exact ArgL.nil; exact h3 _; exact Nat.le_of_ble_eq_true rfl; dsimp only [Nat.reduceAdd, Nat.reduceMul, Nat.reduceSub, List.nil_append, List.cons_append, nbk, List.map_cons, List.map_nil]
   apply Trc.stp rfl rfl rfl; apply s_fieldAddr; exact rfl; dsimp only [Nat.reduceAdd, Nat.reduceMul, List.nil_append]
   apply Trc.stp rfl rfl rfl; apply s_load; exact rfl; exact rfl; exact rfl; dsimp only [Nat.reduceAdd, Nat.reduceMul, List.nil_append]
   apply Trc.stp rfl rfl rfl; apply s_call (f := 82) rfl; apply evs.cons rfl; apply evs.cons rfl; apply evs.cons rfl
   exact evs.nil; apply ArgL.cons; exact arg_sl rfl; apply ArgL.cons; exact arg_clo; apply ArgL.cons; exact arg_clo; exact ArgL.nil; exact h4 _; exact Nat.le_of_ble_eq_true rfl
   dsimp only [Nat.reduceAdd, Nat.reduceMul, Nat.reduceSub, List.nil_append, List.cons_append, nbk, List.map_cons, List.map_nil]; apply Trc.stp rfl rfl rfl; apply s_call (f := 78) rfl; apply evs.cons rfl; apply evs.cons rfl; exact evs.nil; apply ArgL.cons
   exact arg_clo; apply ArgL.cons; exact arg_sl rfl; exact ArgL.nil; exact h5 _; exact Nat.le_of_ble_eq_true rfl; dsimp only [Nat.reduceAdd, Nat.reduceMul, Nat.reduceSub, List.nil_append, List.cons_append, nbk, List.map_cons, List.map_nil]
   apply Trc.stepN rfl rfl; exact wnt_n rfl; apply s_storeW; exact rfl; exact rfl; exact rfl; exact rfl; rfl; exact rfl; dsimp only [Nat.reduceAdd, Nat.reduceMul, Nat.reduceSub, List.nil_append, List.cons_append, nbk, List.map_cons, List.map_nil]
   exact Trc.done _ _ _; kernel_rfl; exact rfl; refine thn_n ?_; refine Gol.ret ?_)
  (apply RetQ.mk (by first | exact .inr rfl | exact .inl rfl); apply res_1 rfl; exact res_cell rfl rfl rfl (agu_cuv _); exact out_val)
theorem refAppliedLeaf_ok (n : UInt64) : Fresh Tryz.prog 84 [.v (.agg (nameC n))] (fun _ => .v (.agg (nameC (leafN S n)))) [] := by
  have h1 := (refName_ok [] n 0 false rfl (by decide)).sub sub_nil
  refine Fresh.of (fn := Tryz.f84) Tryz.func84 rfl (Nat.le_of_ble_eq_true rfl) fun w => ?_
  (refine Gol.seq ?_; apply Gol.region; apply Trc.stp rfl rfl rfl; apply s_box; exact rfl
   exact rfl; dsimp only [Nat.reduceAdd, Nat.reduceMul, Nat.reduceSub, List.nil_append, List.cons_append, nbk, List.map_cons, List.map_nil]; apply Trc.stp rfl rfl rfl; apply s_alloc; dsimp only [Nat.reduceAdd, Nat.reduceMul, Nat.reduceSub, List.nil_append, List.cons_append, nbk, List.map_cons, List.map_nil]
   exact Trc.done _ _ _; exact rfl; refine thn_n ?_; refine Gol.seq ?_; apply Gol.region; apply Trc.stp rfl rfl rfl; apply s_loadW; exact rfl; exact rfl; exact rfl; exact agu_cuv _; dsimp only [Nat.reduceAdd, Nat.reduceMul, List.nil_append]
   apply Trc.stp rfl rfl rfl; apply s_call (f := 83) rfl; apply evs.cons rfl; apply evs.cons rfl; exact evs.nil
   apply ArgL.cons; exact arg_clo; apply ArgL.cons; exact arg_clo; exact ArgL.nil; exact h1; exact Nat.le_of_ble_eq_true rfl; dsimp only [Nat.reduceAdd, Nat.reduceMul, Nat.reduceSub, List.nil_append, List.cons_append, nbk, List.map_cons, List.map_nil]
   apply Trc.stp rfl rfl rfl; apply s_call (f := 78) rfl; apply evs.cons rfl; apply evs.cons rfl; exact evs.nil
   apply ArgL.cons; exact arg_clo; apply ArgL.cons; exact arg_sl rfl; exact ArgL.nil; exact hS.refTagged 0x55 (nameB n) 8 _ rfl (by decide); exact Nat.le_of_ble_eq_true rfl
   dsimp only [Nat.reduceAdd, Nat.reduceMul, Nat.reduceSub, List.nil_append, List.cons_append, nbk, List.map_cons, List.map_nil]; apply Trc.stepN rfl rfl
   exact wnt_n rfl; apply s_storeW; exact rfl; exact rfl; exact rfl; exact rfl; rfl; exact rfl; dsimp only [Nat.reduceAdd, Nat.reduceMul, Nat.reduceSub, List.nil_append, List.cons_append, nbk, List.map_cons, List.map_nil]
   exact Trc.done _ _ _; exact rfl; refine thn_n ?_; refine Gol.ret ?_)
  (apply RetQ.mk (by first | exact .inr rfl | exact .inl rfl); apply res_1 rfl; exact res_cell rfl rfl rfl (agu_cuv _); exact out_val)
end
end Go.Proofs.YtkkeeokeihkagaaGreat


/-
  Layer 21: leaves and inclusions of the reference. Conditions: lengths below 2^17.
-/
namespace Go.Proofs.YtkkeeokeihkagaaGreat
open Go.RowKit

section
variable (S : List UInt8 → UInt64)
theorem leaves_cell {s : Stt} {j : Nat} {d : Dl} (h : s.cells[j]? = some d) : (leavesN S s).getD j 0 = leafD S d := by
  have hj := (List.getElem?_eq_some_iff.1 h).1
  have h1 : (lv1 S s s.cells.length)[j]? = some (leafD S d) := by unfold lv1; rw [List.take_length, List.getElem?_map, h]; rfl
  have l1 : j < (lv1 S s s.cells.length).length := (List.getElem?_eq_some_iff.1 h1).1
  have h2 : (lv2 S s s.seqs.length)[j]? = some (leafD S d) := by unfold lv2; rw [List.getElem?_append_left l1]; exact h1
  have l2 := (List.getElem?_eq_some_iff.1 h2).1
  have h3 : (lv3 S s s.locks.length)[j]? = some (leafD S d) := by unfold lv3; rw [List.getElem?_append_left l2]; exact h2
  have l3 := (List.getElem?_eq_some_iff.1 h3).1
  have h4 : (lv4 S s s.applied.length)[j]? = some (leafD S d) := by unfold lv4; rw [List.getElem?_append_left l3]; exact h3
  have l4 := (List.getElem?_eq_some_iff.1 h4).1
  rw [List.getD_eq_getElem?_getD]
  unfold leavesN
  rw [List.getElem?_append_left l4, h4]
  rfl
theorem leaves_applied {s : Stt} {j : Nat} {n : UInt64} (h : s.applied[j]? = some n) : (leavesN S s).getD (s.cells.length + s.seqs.length + s.locks.length + j) 0 = leafN S n := by
  have hj := (List.getElem?_eq_some_iff.1 h).1
  have hl3 : (lv3 S s s.locks.length).length = s.cells.length + s.seqs.length + s.locks.length := by simp [lv3, lv2, lv1]; omega
  have h4 : (lv4 S s s.applied.length)[s.cells.length + s.seqs.length + s.locks.length + j]? = some (leafN S n) := by
    unfold lv4
    rw [List.getElem?_append_right (by omega), hl3, show s.cells.length + s.seqs.length + s.locks.length + j - (s.cells.length + s.seqs.length + s.locks.length) = j by omega, List.take_length, List.getElem?_map, h]
    rfl
  have l4 := (List.getElem?_eq_some_iff.1 h4).1
  rw [List.getD_eq_getElem?_getD]
  unfold leavesN
  rw [List.getElem?_append_left l4, h4]
  rfl
variable (hS : HashF S)
include hS

theorem refLeaves_ok (s : Stt) (hs : Sm s) : Fresh Tryz.prog 40 [stA s] (fun k => .sl k (leavesN S s).length) [⟨byA (flat (leavesN S s)), 30, 8⟩] := by
  obtain ⟨h1, h2, h3, h4⟩ := hs
  unfold stA
  refine Fresh.of (fn := Tryz.f40) Tryz.func40 rfl (Nat.le_of_ble_eq_true rfl) fun w => ?_
  (refine Gol.seq ?_; apply Gol.region; apply Trc.stp rfl rfl rfl; apply s_box; exact rfl
   exact rfl; dsimp only [Nat.reduceAdd, Nat.reduceMul, Nat.reduceSub, List.nil_append, List.cons_append, nbk, List.map_cons, List.map_nil]; apply Trc.stp rfl rfl rfl; apply s_assign; exact rfl; dsimp only [Nat.reduceAdd, Nat.reduceMul, List.nil_append]
   exact Trc.done _ _ _; exact rfl; refine thn_n ?_; refine Gol.seq ?_; apply Gol.region; apply Trc.stp rfl rfl rfl; apply s_assign; exact rfl; dsimp only [Nat.reduceAdd, Nat.reduceMul, List.nil_append]
   exact Trc.done _ _ _; exact rfl; refine thn_n ?_; refine Gol.seq ?_; refine Gol.seq ?_; apply Gol.region
   apply Trc.stp rfl rfl rfl; apply s_assign; exact rfl; dsimp only [Nat.reduceAdd, Nat.reduceMul, List.nil_append]
   exact Trc.done _ _ _; exact rfl; refine thn_n ?_; refine Gol.block ?_)
  refine Gol.le (Le.nilOwn (i := 3) 30 8 rfl) ?_
  refine Gol.loop (ι := Nat) (fun j => j ≤ s.cells.length) (fun j => s.cells.length - j) 200 (fun j => [(199, some ⟨byA (flat (lv1 S s j)), 30, 8⟩), (0, some ⟨[.ex s.cells.length false (dsA s.cells), .ex s.seqs.length false (inA s.seqs), .ex s.locks.length false (lsA s.locks), .ex s.applied.length false (byA (flat s.applied)), .v (.int .i64 s.guilty)], 28, 5⟩)]) (fun j => [(4, .v (.int .i64 (j : Int))), (3, .sl 199 (lv1 S s j).length), (1, .pt 0 0)]) 0 (Nat.zero_le _) ?_ ?_
  · (apply Le.mk3' [(199, 32)]; apply RnT3.c; exact rfl; apply Rn3.r; exact Rn.v rfl; apply RnT3.c; exact rfl; apply Rn3.r; exact Rn.sl rfl rfl; apply RnT3.c
     exact rfl; apply Rn3.r; exact Rn.pt rfl rfl; exact RnT3.n; apply RnH3.c; exact rfl; exact rfl; apply RnC.cl; rfl; exact inferInstance; exact rfl; exact rfl
     apply RnH3.c; exact rfl; exact rfl; apply RnC.cl; rfl; exact inferInstance; exact rfl; exact rfl; exact RnH3.n; exact rfl)
  intro j hj
  have hLj := lv1_len S s j
  (refine Gol.seq ?_; refine Gol.seq ?_; apply Gol.region; apply Trc.stp rfl rfl rfl; apply s_move
   exact rfl; dsimp only [Nat.reduceAdd, Nat.reduceMul, List.nil_append]; apply Trc.stp rfl rfl rfl; apply s_fieldAddr; exact rfl; dsimp only [Nat.reduceAdd, Nat.reduceMul, List.nil_append]
   apply Trc.stp rfl rfl rfl; apply s_load; exact rfl; exact rfl; exact rfl; dsimp only [Nat.reduceAdd, Nat.reduceMul, List.nil_append]
   apply Trc.stp rfl rfl rfl; apply s_len; exact rfl; exact ln_ex; dsimp only [Nat.reduceAdd, Nat.reduceMul, List.nil_append]
   apply Trc.stp rfl rfl rfl; apply s_ltn; exact rfl; exact rfl; dsimp only [Nat.reduceAdd, Nat.reduceMul, List.nil_append]
   exact Trc.done _ _ _; exact rfl; refine thn_n ?_)
  refine Gol.cond rfl (fun h => ?_) (fun h => ?_)
  · have hlt : j < s.cells.length := of_decide_eq_true h
    obtain ⟨d, hd⟩ : ∃ d, s.cells[j]? = some d := ⟨s.cells[j], List.getElem?_eq_getElem hlt⟩
    have hN := lv1_next S hd
    (refine Gol.skip ?_; refine thn_n ?_; refine Gol.seq ?_; refine Gol.block ?_; apply Gol.region
     apply Trc.stp rfl rfl rfl; apply s_move; exact rfl; dsimp only [Nat.reduceAdd, Nat.reduceMul, List.nil_append]
     apply Trc.stp rfl rfl rfl; apply s_fieldAddr; exact rfl; dsimp only [Nat.reduceAdd, Nat.reduceMul, List.nil_append]
     apply Trc.stp rfl rfl rfl; apply s_load; exact rfl; exact rfl; exact rfl; dsimp only [Nat.reduceAdd, Nat.reduceMul, List.nil_append]
     apply Trc.stp rfl rfl rfl; apply s_move; exact rfl; dsimp only [Nat.reduceAdd, Nat.reduceMul, List.nil_append]
     apply Trc.stp rfl rfl rfl; apply s_ixe; exact rfl; exact rfl; omega; exact ds_ne (by omega); dsimp only [Nat.reduceAdd, Nat.reduceMul, List.nil_append]
     apply Trc.stp rfl rfl rfl; apply s_loadEN; exact rfl; simp only [byA_length, List.length_append, List.length_cons, List.length_nil, List.length_take, List.length_drop, List.length_replicate, List.length_map, Nat.mul_one, nameB_length, flat_length, List.length_set, inA_length, dsA_length, lsA_length, dA_length, lA_length] <;> omega
     exact agu_d (by assumption); dsimp only [Nat.reduceAdd, Nat.reduceMul, List.nil_append]
     apply Trc.stp rfl rfl rfl; apply s_call (f := 81) rfl; apply evs.cons rfl; exact evs.nil; apply ArgL.cons
     exact arg_clo; exact ArgL.nil; exact refCellLeaf_ok S hS d; exact Nat.le_of_ble_eq_true rfl; dsimp only [Nat.reduceAdd, Nat.reduceMul, Nat.reduceSub, List.nil_append, List.cons_append, nbk, List.map_cons, List.map_nil]
     apply Trc.stp rfl rfl rfl; apply s_lit; apply PA.cons; exact rfl; exact rfl; exact rfl; exact PA.nil; exact rfl; omega
     dsimp only [Nat.reduceAdd, Nat.reduceMul, Nat.reduceSub, List.nil_append, List.cons_append, nbk, List.map_cons, List.map_nil]; apply Trc.stp rfl rfl rfl; apply s_app; exact rfl; exact rfl; exact rfl; apply rd_sl rfl; rfl; simp only [byA_length, List.length_append, List.length_cons, List.length_nil, List.length_take, List.length_drop, List.length_replicate, List.length_map, Nat.mul_one, nameB_length, flat_length, List.length_set, inA_length, dsA_length, lsA_length, dA_length, lA_length] <;> omega
     exact rfl; exact rfl; rfl; omega; dsimp only [Nat.reduceAdd, Nat.reduceMul, Nat.reduceSub, List.nil_append, List.cons_append, nbk, List.map_cons, List.map_nil]
     apply Trc.stp rfl rfl rfl; apply s_assign; exact rfl; dsimp only [Nat.reduceAdd, Nat.reduceMul, List.nil_append]
     exact Trc.done _ _ _; exact rfl; refine inBlk_n ?_; refine thn_n ?_; apply Gol.region; apply Trc.stp rfl rfl rfl; apply s_move; exact rfl; dsimp only [Nat.reduceAdd, Nat.reduceMul, List.nil_append]
     apply Trc.stp rfl rfl rfl; apply s_addn; exact rfl; exact rfl; simp <;> omega; dsimp only [Nat.reduceAdd, Nat.reduceMul, List.nil_append]
     apply Trc.stp rfl rfl rfl; apply s_assign; exact rfl; dsimp only [Nat.reduceAdd, Nat.reduceMul, List.nil_append]
     exact Trc.done _ _ _; exact rfl)
    refine rnd_n (j + 1) (by omega) (by omega) ?_
    rw [hN, List.length_append, List.length_singleton]
    (apply Le.mk3' [(199, 304)]; apply RnT3.c; exact rfl; apply Rn3.r; exact Rn.v rfl; apply RnT3.c; exact rfl; apply Rn3.r; exact Rn.sl rfl rfl; apply RnT3.c
     exact rfl; apply Rn3.r; exact Rn.pt rfl rfl; exact RnT3.n; apply RnH3.c; exact rfl; exact rfl; apply RnC.cl; exact grow_eq2; exact inferInstance; exact rfl
     exact rfl; apply RnH3.c; exact rfl; exact rfl; apply RnC.cl; rfl; exact inferInstance; exact rfl; exact rfl; exact RnH3.n; exact rfl)
  have hge1 : ¬ j < s.cells.length := of_decide_eq_false h
  obtain rfl : j = s.cells.length := by omega
  (refine Gol.exit ?_; refine thn_x ?_; refine rnd_x ?_; refine inBlk_hit ?_; refine thn_n ?_
   refine Gol.seq ?_; refine Gol.seq ?_; apply Gol.region; apply Trc.stp rfl rfl rfl; apply s_assign
   exact rfl; dsimp only [Nat.reduceAdd, Nat.reduceMul, List.nil_append]; exact Trc.done _ _ _
   exact rfl; refine thn_n ?_; refine Gol.block ?_)
  refine Gol.loop (ι := Nat) (fun j => j ≤ s.seqs.length) (fun j => s.seqs.length - j) 200 (fun j => [(199, some ⟨byA (flat (lv2 S s j)), 30, 8⟩), (0, some ⟨[.ex s.cells.length false (dsA s.cells), .ex s.seqs.length false (inA s.seqs), .ex s.locks.length false (lsA s.locks), .ex s.applied.length false (byA (flat s.applied)), .v (.int .i64 s.guilty)], 28, 5⟩)]) (fun j => [(5, .v (.int .i64 (j : Int))), (3, .sl 199 (lv2 S s j).length), (1, .pt 0 0)]) 0 (Nat.zero_le _) ?_ ?_
  · rw [show lv2 S s 0 = lv1 S s s.cells.length by simp [lv2]]
    (apply Le.mk3' []; apply RnT3.c; exact rfl; apply Rn3.r; exact Rn.v rfl; apply RnT3.c; exact rfl; apply Rn3.r; exact Rn.sl rfl rfl; apply RnT3.c; exact rfl
     apply Rn3.r; exact Rn.pt rfl rfl; exact RnT3.n; apply RnH3.c; exact rfl; exact rfl; apply RnC.cl; rfl; exact inferInstance; exact rfl; exact rfl; apply RnH3.c
     exact rfl; exact rfl; apply RnC.cl; rfl; exact inferInstance; exact rfl; exact rfl; exact RnH3.n; exact rfl)
  intro j hj
  have hLj := lv2_len S s j
  (refine Gol.seq ?_; refine Gol.seq ?_; apply Gol.region; apply Trc.stp rfl rfl rfl; apply s_move
   exact rfl; dsimp only [Nat.reduceAdd, Nat.reduceMul, List.nil_append]; apply Trc.stp rfl rfl rfl; apply s_fieldAddr; exact rfl; dsimp only [Nat.reduceAdd, Nat.reduceMul, List.nil_append]
   apply Trc.stp rfl rfl rfl; apply s_load; exact rfl; exact rfl; exact rfl; dsimp only [Nat.reduceAdd, Nat.reduceMul, List.nil_append]
   apply Trc.stp rfl rfl rfl; apply s_len; exact rfl; exact ln_ex; dsimp only [Nat.reduceAdd, Nat.reduceMul, List.nil_append]
   apply Trc.stp rfl rfl rfl; apply s_ltn; exact rfl; exact rfl; dsimp only [Nat.reduceAdd, Nat.reduceMul, List.nil_append]
   exact Trc.done _ _ _; exact rfl; refine thn_n ?_)
  refine Gol.cond rfl (fun h => ?_) (fun h => ?_)
  · have hlt : j < s.seqs.length := of_decide_eq_true h
    have hne : inA s.seqs ≠ [] := fun e => by have := inA_length s.seqs; rw [e] at this; simp at this; omega
    have hN := lv2_next S (s := s) (j := j)
    have e : [] ++ beB (toU64 (j : Int)) 1 ++ beB (toU64 (s.seqs.getD j 0)) 1 = [toU8 (j : Int), toU8 (s.seqs.getD j 0)] := by rw [byte1, byte1]; rfl
    have n1 := (refNum_ok [] (j : Int) 1 0 false (by decide) rfl (by decide)).sub sub_nil
    have n2 := fun f => refNum_ok ([] ++ beB (toU64 (j : Int)) 1) (s.seqs.getD j 0) 1 1 f (by decide) (by simp [beB_length]) (by decide)
    rw [e] at n2
    (refine Gol.skip ?_; refine thn_n ?_; refine Gol.seq ?_; refine Gol.block ?_; apply Gol.any
     kernel_rfl; apply Trc.stp rfl rfl rfl; apply s_move; exact rfl; dsimp only [Nat.reduceAdd, Nat.reduceMul, List.nil_append]
     apply Trc.stp rfl rfl rfl; apply s_move; exact rfl; dsimp only [Nat.reduceAdd, Nat.reduceMul, List.nil_append]
     apply Trc.stp rfl rfl rfl; apply s_call (f := 82) rfl; apply evs.cons rfl; apply evs.cons rfl; apply evs.cons rfl
     exact evs.nil; apply ArgL.cons; exact arg_clo; apply ArgL.cons; exact arg_clo; apply ArgL.cons; exact arg_clo; exact ArgL.nil; exact n1; exact Nat.le_of_ble_eq_true rfl
     dsimp only [Nat.reduceAdd, Nat.reduceMul, Nat.reduceSub, List.nil_append, List.cons_append, nbk, List.map_cons, List.map_nil]; apply Trc.stp rfl rfl rfl; apply s_fieldAddr; exact rfl; dsimp only [Nat.reduceAdd, Nat.reduceMul, List.nil_append]
     apply Trc.stp rfl rfl rfl; apply s_load; exact rfl; exact rfl; exact rfl; dsimp only [Nat.reduceAdd, Nat.reduceMul, List.nil_append]
     apply Trc.stp rfl rfl rfl; apply s_move; exact rfl; dsimp only [Nat.reduceAdd, Nat.reduceMul, List.nil_append]
     apply Trc.stp rfl rfl rfl; apply s_ixe; exact rfl; exact rfl; omega; assumption; dsimp only [Nat.reduceAdd, Nat.reduceMul, List.nil_append]
     apply Trc.stp rfl rfl rfl; apply s_loadE; exact rfl; apply in_get0; assumption; dsimp only [Nat.reduceAdd, Nat.reduceMul, List.nil_append]
     apply Trc.stp rfl rfl rfl; apply s_call (f := 82) rfl; apply evs.cons rfl; apply evs.cons rfl; apply evs.cons rfl
     exact evs.nil; apply ArgL.cons; exact arg_sl rfl; apply ArgL.cons; exact arg_clo; apply ArgL.cons; exact arg_clo; exact ArgL.nil; exact n2 _; exact Nat.le_of_ble_eq_true rfl
     dsimp only [Nat.reduceAdd, Nat.reduceMul, Nat.reduceSub, List.nil_append, List.cons_append, nbk, List.map_cons, List.map_nil]; apply Trc.stp rfl rfl rfl; apply s_call (f := 78) rfl; apply evs.cons rfl; apply evs.cons rfl; exact evs.nil; apply ArgL.cons
     exact arg_clo; apply ArgL.cons; exact arg_sl rfl; exact ArgL.nil; exact hS.refTagged 0x53 [toU8 (j : Int), toU8 (s.seqs.getD j 0)] 2 _ rfl (by decide)
     exact Nat.le_of_ble_eq_true rfl; dsimp only [Nat.reduceAdd, Nat.reduceMul, Nat.reduceSub, List.nil_append, List.cons_append, nbk, List.map_cons, List.map_nil]
     apply Trc.stp rfl rfl rfl; apply s_lit; apply PA.cons; exact rfl; exact rfl; exact rfl; exact PA.nil; exact rfl; omega
     dsimp only [Nat.reduceAdd, Nat.reduceMul, Nat.reduceSub, List.nil_append, List.cons_append, nbk, List.map_cons, List.map_nil]; apply Trc.stp rfl rfl rfl; apply s_app; exact rfl; exact rfl; exact rfl; apply rd_sl rfl; rfl; simp only [byA_length, List.length_append, List.length_cons, List.length_nil, List.length_take, List.length_drop, List.length_replicate, List.length_map, Nat.mul_one, nameB_length, flat_length, List.length_set, inA_length, dsA_length, lsA_length, dA_length, lA_length] <;> omega
     exact rfl; exact rfl; rfl; omega; dsimp only [Nat.reduceAdd, Nat.reduceMul, Nat.reduceSub, List.nil_append, List.cons_append, nbk, List.map_cons, List.map_nil]
     apply Trc.stp rfl rfl rfl; apply s_assign; exact rfl; dsimp only [Nat.reduceAdd, Nat.reduceMul, List.nil_append]
     exact Trc.done _ _ _; kernel_rfl; exact rfl; refine inBlk_n ?_; refine thn_n ?_; apply Gol.region; apply Trc.stp rfl rfl rfl; apply s_move; exact rfl; dsimp only [Nat.reduceAdd, Nat.reduceMul, List.nil_append]
     apply Trc.stp rfl rfl rfl; apply s_addn; exact rfl; exact rfl; simp <;> omega; dsimp only [Nat.reduceAdd, Nat.reduceMul, List.nil_append]
     apply Trc.stp rfl rfl rfl; apply s_assign; exact rfl; dsimp only [Nat.reduceAdd, Nat.reduceMul, List.nil_append]
     exact Trc.done _ _ _; exact rfl)
    refine rnd_n (j + 1) (by omega) (by omega) ?_
    rw [hN, List.length_append, List.length_singleton]
    (apply Le.mk3' [(199, 328)]; apply RnT3.c; exact rfl; apply Rn3.r; exact Rn.v rfl; apply RnT3.c; exact rfl; apply Rn3.r; exact Rn.sl rfl rfl; apply RnT3.c
     exact rfl; apply Rn3.r; exact Rn.pt rfl rfl; exact RnT3.n; apply RnH3.c; exact rfl; exact rfl; apply RnC.cl; exact grow_eq2; exact inferInstance; exact rfl
     exact rfl; apply RnH3.c; exact rfl; exact rfl; apply RnC.cl; rfl; exact inferInstance; exact rfl; exact rfl; exact RnH3.n; exact rfl)
  have hge2 : ¬ j < s.seqs.length := of_decide_eq_false h
  obtain rfl : j = s.seqs.length := by omega
  (refine Gol.exit ?_; refine thn_x ?_; refine rnd_x ?_; refine inBlk_hit ?_; refine thn_n ?_
   refine Gol.seq ?_; refine Gol.seq ?_; apply Gol.region; apply Trc.stp rfl rfl rfl; apply s_assign
   exact rfl; dsimp only [Nat.reduceAdd, Nat.reduceMul, List.nil_append]; exact Trc.done _ _ _
   exact rfl; refine thn_n ?_; refine Gol.block ?_)
  refine Gol.loop (ι := Nat) (fun j => j ≤ s.locks.length) (fun j => s.locks.length - j) 200 (fun j => [(199, some ⟨byA (flat (lv3 S s j)), 30, 8⟩), (0, some ⟨[.ex s.cells.length false (dsA s.cells), .ex s.seqs.length false (inA s.seqs), .ex s.locks.length false (lsA s.locks), .ex s.applied.length false (byA (flat s.applied)), .v (.int .i64 s.guilty)], 28, 5⟩)]) (fun j => [(6, .v (.int .i64 (j : Int))), (3, .sl 199 (lv3 S s j).length), (1, .pt 0 0)]) 0 (Nat.zero_le _) ?_ ?_
  · rw [show lv3 S s 0 = lv2 S s s.seqs.length by simp [lv3]]
    (apply Le.mk3' []; apply RnT3.c; exact rfl; apply Rn3.r; exact Rn.v rfl; apply RnT3.c; exact rfl; apply Rn3.r; exact Rn.sl rfl rfl; apply RnT3.c; exact rfl
     apply Rn3.r; exact Rn.pt rfl rfl; exact RnT3.n; apply RnH3.c; exact rfl; exact rfl; apply RnC.cl; rfl; exact inferInstance; exact rfl; exact rfl; apply RnH3.c
     exact rfl; exact rfl; apply RnC.cl; rfl; exact inferInstance; exact rfl; exact rfl; exact RnH3.n; exact rfl)
  intro j hj
  have hLj := lv3_len S s j
  (refine Gol.seq ?_; refine Gol.seq ?_; apply Gol.region; apply Trc.stp rfl rfl rfl; apply s_move
   exact rfl; dsimp only [Nat.reduceAdd, Nat.reduceMul, List.nil_append]; apply Trc.stp rfl rfl rfl; apply s_fieldAddr; exact rfl; dsimp only [Nat.reduceAdd, Nat.reduceMul, List.nil_append]
   apply Trc.stp rfl rfl rfl; apply s_load; exact rfl; exact rfl; exact rfl; dsimp only [Nat.reduceAdd, Nat.reduceMul, List.nil_append]
   apply Trc.stp rfl rfl rfl; apply s_len; exact rfl; exact ln_ex; dsimp only [Nat.reduceAdd, Nat.reduceMul, List.nil_append]
   apply Trc.stp rfl rfl rfl; apply s_ltn; exact rfl; exact rfl; dsimp only [Nat.reduceAdd, Nat.reduceMul, List.nil_append]
   exact Trc.done _ _ _; exact rfl; refine thn_n ?_)
  refine Gol.cond rfl (fun h => ?_) (fun h => ?_)
  · have hlt : j < s.locks.length := of_decide_eq_true h
    obtain ⟨d, hd⟩ : ∃ d, s.locks[j]? = some d := ⟨s.locks[j], List.getElem?_eq_getElem hlt⟩
    have hN := lv3_next S hd
    have e : [] ++ nameB d.n ++ nameB d.h ++ beB (toU64 d.o) 1 ++ beB (toU64 d.t) 1 ++ beB (toU64 d.u) 2 = bytL d := by rw [byte1, byte1]; simp [bytL]
    have n1 := (refName_ok [] d.n 0 false rfl (by decide)).sub sub_nil
    have n2 := fun f => refName_ok ([] ++ nameB d.n) d.h 8 f rfl (by decide)
    have n3 := fun f => refNum_ok ([] ++ nameB d.n ++ nameB d.h) d.o 1 16 f (by decide) rfl (by decide)
    have n4 := fun f => refNum_ok ([] ++ nameB d.n ++ nameB d.h ++ beB (toU64 d.o) 1) d.t 1 17 f (by decide) (by simp [beB_length, nameB_length]) (by decide)
    have n5 := fun f => refNum_ok ([] ++ nameB d.n ++ nameB d.h ++ beB (toU64 d.o) 1 ++ beB (toU64 d.t) 1) d.u 2 18 f (by decide) (by simp [beB_length, nameB_length]) (by decide)
    have n6 := fun f => hS.refTagged 0x54 (bytL d) 20 f (by simp [bytL, nameB_length, beB_length]) (by decide)
    rw [e] at n5
    (refine Gol.skip ?_; refine thn_n ?_; refine Gol.seq ?_; refine Gol.block ?_; refine Gol.seq ?_
     apply Gol.region; apply Trc.stp rfl rfl rfl; apply s_fieldAddr; exact rfl; dsimp only [Nat.reduceAdd, Nat.reduceMul, List.nil_append]
     apply Trc.stp rfl rfl rfl; apply s_load; exact rfl; exact rfl; exact rfl; dsimp only [Nat.reduceAdd, Nat.reduceMul, List.nil_append]
     apply Trc.stp rfl rfl rfl; apply s_move; exact rfl; dsimp only [Nat.reduceAdd, Nat.reduceMul, List.nil_append]
     apply Trc.stp rfl rfl rfl; apply s_ixe; exact rfl; exact rfl; omega; exact ls_ne (by omega); dsimp only [Nat.reduceAdd, Nat.reduceMul, List.nil_append]
     apply Trc.stp rfl rfl rfl; apply s_loadEN; exact rfl; simp only [byA_length, List.length_append, List.length_cons, List.length_nil, List.length_take, List.length_drop, List.length_replicate, List.length_map, Nat.mul_one, nameB_length, flat_length, List.length_set, inA_length, dsA_length, lsA_length, dA_length, lA_length] <;> omega
     exact agu_l (by assumption); dsimp only [Nat.reduceAdd, Nat.reduceMul, List.nil_append]
     apply Trc.stp rfl rfl rfl; apply s_alloc; dsimp only [Nat.reduceAdd, Nat.reduceMul, Nat.reduceSub, List.nil_append, List.cons_append, nbk, List.map_cons, List.map_nil]
     apply Trc.stepN rfl rfl; exact wnt_n rfl; apply s_storeW; exact rfl; exact rfl; exact rfl; exact rfl; rfl; exact rfl; dsimp only [Nat.reduceAdd, Nat.reduceMul, Nat.reduceSub, List.nil_append, List.cons_append, nbk, List.map_cons, List.map_nil]
     exact Trc.done _ _ _; exact rfl; refine thn_n ?_; apply Gol.any; kernel_rfl; apply Trc.stp rfl rfl rfl
     apply s_move; exact rfl; dsimp only [Nat.reduceAdd, Nat.reduceMul, List.nil_append]
     apply Trc.stp rfl rfl rfl; apply s_fieldAddr; exact rfl; dsimp only [Nat.reduceAdd, Nat.reduceMul, List.nil_append]
     apply Trc.stp rfl rfl rfl; apply s_loadN; exact rfl; exact rfl; exact Nat.le_of_ble_eq_true rfl; exact agu_nm8 rfl; dsimp only [Nat.reduceAdd, Nat.reduceMul, List.nil_append]
     apply Trc.stp rfl rfl rfl; apply s_call (f := 83) rfl; apply evs.cons rfl; apply evs.cons rfl; exact evs.nil
     apply ArgL.cons; exact arg_clo; apply ArgL.cons; exact arg_clo; exact ArgL.nil; exact n1; exact Nat.le_of_ble_eq_true rfl; dsimp only [Nat.reduceAdd, Nat.reduceMul, Nat.reduceSub, List.nil_append, List.cons_append, nbk, List.map_cons, List.map_nil]
     apply Trc.stp rfl rfl rfl; apply s_fieldAddr; exact rfl; dsimp only [Nat.reduceAdd, Nat.reduceMul, List.nil_append]
     apply Trc.stp rfl rfl rfl; apply s_loadN; exact rfl; exact rfl; exact Nat.le_of_ble_eq_true rfl; exact agu_nm8 rfl; dsimp only [Nat.reduceAdd, Nat.reduceMul, List.nil_append]
     apply Trc.stp rfl rfl rfl; apply s_call (f := 83) rfl; apply evs.cons rfl; apply evs.cons rfl; exact evs.nil
     apply ArgL.cons; exact arg_sl rfl; apply ArgL.cons; exact arg_clo; exact ArgL.nil; exact n2 _; exact Nat.le_of_ble_eq_true rfl; dsimp only [Nat.reduceAdd, Nat.reduceMul, Nat.reduceSub, List.nil_append, List.cons_append, nbk, List.map_cons, List.map_nil]
     apply Trc.stp rfl rfl rfl; apply s_fieldAddr; exact rfl; dsimp only [Nat.reduceAdd, Nat.reduceMul, List.nil_append]
     apply Trc.stp rfl rfl rfl; apply s_load; exact rfl; exact rfl; exact rfl; dsimp only [Nat.reduceAdd, Nat.reduceMul, List.nil_append]
     apply Trc.stp rfl rfl rfl; apply s_call (f := 82) rfl; apply evs.cons rfl; apply evs.cons rfl; apply evs.cons rfl
     exact evs.nil; apply ArgL.cons; exact arg_sl rfl; apply ArgL.cons; exact arg_clo; apply ArgL.cons; exact arg_clo; exact ArgL.nil; exact n3 _; exact Nat.le_of_ble_eq_true rfl
     dsimp only [Nat.reduceAdd, Nat.reduceMul, Nat.reduceSub, List.nil_append, List.cons_append, nbk, List.map_cons, List.map_nil]; apply Trc.stp rfl rfl rfl; apply s_fieldAddr; exact rfl; dsimp only [Nat.reduceAdd, Nat.reduceMul, List.nil_append]
     apply Trc.stp rfl rfl rfl; apply s_load; exact rfl; exact rfl; exact rfl; dsimp only [Nat.reduceAdd, Nat.reduceMul, List.nil_append]
     apply Trc.stp rfl rfl rfl; apply s_call (f := 82) rfl; apply evs.cons rfl; apply evs.cons rfl; apply evs.cons rfl
     exact evs.nil; apply ArgL.cons; exact arg_sl rfl; apply ArgL.cons; exact arg_clo; apply ArgL.cons; exact arg_clo; exact ArgL.nil; exact n4 _; exact Nat.le_of_ble_eq_true rfl
     dsimp only [Nat.reduceAdd, Nat.reduceMul, Nat.reduceSub, List.nil_append, List.cons_append, nbk, List.map_cons, List.map_nil]; apply Trc.stp rfl rfl rfl; apply s_fieldAddr; exact rfl; dsimp only [Nat.reduceAdd, Nat.reduceMul, List.nil_append]
     apply Trc.stp rfl rfl rfl; apply s_load; exact rfl; exact rfl; exact rfl; dsimp only [Nat.reduceAdd, Nat.reduceMul, List.nil_append]
     apply Trc.stp rfl rfl rfl; apply s_call (f := 82) rfl; apply evs.cons rfl; apply evs.cons rfl; apply evs.cons rfl
     exact evs.nil; apply ArgL.cons; exact arg_sl rfl; apply ArgL.cons; exact arg_clo; apply ArgL.cons; exact arg_clo; exact ArgL.nil; exact n5 _; exact Nat.le_of_ble_eq_true rfl
     dsimp only [Nat.reduceAdd, Nat.reduceMul, Nat.reduceSub, List.nil_append, List.cons_append, nbk, List.map_cons, List.map_nil]; apply Trc.stp rfl rfl rfl; apply s_call (f := 78) rfl; apply evs.cons rfl; apply evs.cons rfl; exact evs.nil; apply ArgL.cons
     exact arg_clo; apply ArgL.cons; exact arg_sl rfl; exact ArgL.nil; exact n6 _; exact Nat.le_of_ble_eq_true rfl; dsimp only [Nat.reduceAdd, Nat.reduceMul, Nat.reduceSub, List.nil_append, List.cons_append, nbk, List.map_cons, List.map_nil]
     apply Trc.stp rfl rfl rfl; apply s_lit; apply PA.cons; exact rfl; exact rfl; exact rfl; exact PA.nil; exact rfl; omega
     dsimp only [Nat.reduceAdd, Nat.reduceMul, Nat.reduceSub, List.nil_append, List.cons_append, nbk, List.map_cons, List.map_nil]; apply Trc.stp rfl rfl rfl; apply s_app; exact rfl; exact rfl; exact rfl; apply rd_sl rfl; rfl; simp only [byA_length, List.length_append, List.length_cons, List.length_nil, List.length_take, List.length_drop, List.length_replicate, List.length_map, Nat.mul_one, nameB_length, flat_length, List.length_set, inA_length, dsA_length, lsA_length, dA_length, lA_length] <;> omega
     exact rfl; exact rfl; rfl; omega; dsimp only [Nat.reduceAdd, Nat.reduceMul, Nat.reduceSub, List.nil_append, List.cons_append, nbk, List.map_cons, List.map_nil]
     apply Trc.stp rfl rfl rfl; apply s_assign; exact rfl; dsimp only [Nat.reduceAdd, Nat.reduceMul, List.nil_append]
     exact Trc.done _ _ _; kernel_rfl; exact rfl; refine inBlk_n ?_; refine thn_n ?_; apply Gol.region; apply Trc.stp rfl rfl rfl; apply s_move; exact rfl; dsimp only [Nat.reduceAdd, Nat.reduceMul, List.nil_append]
     apply Trc.stp rfl rfl rfl; apply s_addn; exact rfl; exact rfl; simp <;> omega; dsimp only [Nat.reduceAdd, Nat.reduceMul, List.nil_append]
     apply Trc.stp rfl rfl rfl; apply s_assign; exact rfl; dsimp only [Nat.reduceAdd, Nat.reduceMul, List.nil_append]
     exact Trc.done _ _ _; exact rfl)
    refine rnd_n (j + 1) (by omega) (by omega) ?_
    rw [hN, List.length_append, List.length_singleton]
    (apply Le.mk3' [(199, 440)]; apply RnT3.c; exact rfl; apply Rn3.r; exact Rn.v rfl; apply RnT3.c; exact rfl; apply Rn3.r; exact Rn.sl rfl rfl; apply RnT3.c
     exact rfl; apply Rn3.r; exact Rn.pt rfl rfl; exact RnT3.n; apply RnH3.c; exact rfl; exact rfl; apply RnC.cl; exact grow_eq2; exact inferInstance; exact rfl
     exact rfl; apply RnH3.c; exact rfl; exact rfl; apply RnC.cl; rfl; exact inferInstance; exact rfl; exact rfl; exact RnH3.n; exact rfl)
  have hge3 : ¬ j < s.locks.length := of_decide_eq_false h
  obtain rfl : j = s.locks.length := by omega
  (refine Gol.exit ?_; refine thn_x ?_; refine rnd_x ?_; refine inBlk_hit ?_; refine thn_n ?_
   refine Gol.seq ?_; refine Gol.seq ?_; apply Gol.region; apply Trc.stp rfl rfl rfl; apply s_assign
   exact rfl; dsimp only [Nat.reduceAdd, Nat.reduceMul, List.nil_append]; exact Trc.done _ _ _
   exact rfl; refine thn_n ?_; refine Gol.block ?_)
  refine Gol.loop (ι := Nat) (fun j => j ≤ s.applied.length) (fun j => s.applied.length - j) 200 (fun j => [(199, some ⟨byA (flat (lv4 S s j)), 30, 8⟩), (0, some ⟨[.ex s.cells.length false (dsA s.cells), .ex s.seqs.length false (inA s.seqs), .ex s.locks.length false (lsA s.locks), .ex s.applied.length false (byA (flat s.applied)), .v (.int .i64 s.guilty)], 28, 5⟩)]) (fun j => [(8, .v (.int .i64 (j : Int))), (3, .sl 199 (lv4 S s j).length), (1, .pt 0 0)]) 0 (Nat.zero_le _) ?_ ?_
  · rw [show lv4 S s 0 = lv3 S s s.locks.length by simp [lv4]]
    (apply Le.mk3' []; apply RnT3.c; exact rfl; apply Rn3.r; exact Rn.v rfl; apply RnT3.c; exact rfl; apply Rn3.r; exact Rn.sl rfl rfl; apply RnT3.c; exact rfl
     apply Rn3.r; exact Rn.pt rfl rfl; exact RnT3.n; apply RnH3.c; exact rfl; exact rfl; apply RnC.cl; rfl; exact inferInstance; exact rfl; exact rfl; apply RnH3.c
     exact rfl; exact rfl; apply RnC.cl; rfl; exact inferInstance; exact rfl; exact rfl; exact RnH3.n; exact rfl)
  intro j hj
  have hLj := lv4_len S s j
  (refine Gol.seq ?_; refine Gol.seq ?_; apply Gol.region; apply Trc.stp rfl rfl rfl; apply s_move
   exact rfl; dsimp only [Nat.reduceAdd, Nat.reduceMul, List.nil_append]; apply Trc.stp rfl rfl rfl; apply s_fieldAddr; exact rfl; dsimp only [Nat.reduceAdd, Nat.reduceMul, List.nil_append]
   apply Trc.stp rfl rfl rfl; apply s_load; exact rfl; exact rfl; exact rfl; dsimp only [Nat.reduceAdd, Nat.reduceMul, List.nil_append]
   apply Trc.stp rfl rfl rfl; apply s_len; exact rfl; exact ln_ex; dsimp only [Nat.reduceAdd, Nat.reduceMul, List.nil_append]
   apply Trc.stp rfl rfl rfl; apply s_ltn; exact rfl; exact rfl; dsimp only [Nat.reduceAdd, Nat.reduceMul, List.nil_append]
   exact Trc.done _ _ _; exact rfl; refine thn_n ?_)
  refine Gol.cond rfl (fun h => ?_) (fun h => ?_)
  · have hlt : j < s.applied.length := of_decide_eq_true h
    have hd : s.applied[j]? = some (s.applied.getD j 0) := by rw [List.getD_eq_getElem?_getD, List.getElem?_eq_getElem hlt]; rfl
    have hN := lv4_next S hd
    (refine Gol.skip ?_; refine thn_n ?_; refine Gol.seq ?_; refine Gol.block ?_; apply Gol.region
     apply Trc.stp rfl rfl rfl; apply s_move; exact rfl; dsimp only [Nat.reduceAdd, Nat.reduceMul, List.nil_append]
     apply Trc.stp rfl rfl rfl; apply s_fieldAddr; exact rfl; dsimp only [Nat.reduceAdd, Nat.reduceMul, List.nil_append]
     apply Trc.stp rfl rfl rfl; apply s_load; exact rfl; exact rfl; exact rfl; dsimp only [Nat.reduceAdd, Nat.reduceMul, List.nil_append]
     apply Trc.stp rfl rfl rfl; apply s_move; exact rfl; dsimp only [Nat.reduceAdd, Nat.reduceMul, List.nil_append]
     apply Trc.stp rfl rfl rfl; apply s_ixe; exact rfl; exact rfl; omega; exact flat_ne (by omega); dsimp only [Nat.reduceAdd, Nat.reduceMul, List.nil_append]
     apply Trc.stp rfl rfl rfl; apply s_loadEN; exact rfl; simp only [byA_length, List.length_append, List.length_cons, List.length_nil, List.length_take, List.length_drop, List.length_replicate, List.length_map, Nat.mul_one, nameB_length, flat_length, List.length_set, inA_length, dsA_length, lsA_length, dA_length, lA_length] <;> omega
     exact agu_nm (by omega); dsimp only [Nat.reduceAdd, Nat.reduceMul, List.nil_append]
     apply Trc.stp rfl rfl rfl; apply s_call (f := 84) rfl; apply evs.cons rfl; exact evs.nil; apply ArgL.cons
     exact arg_clo; exact ArgL.nil; exact refAppliedLeaf_ok S hS _; exact Nat.le_of_ble_eq_true rfl; dsimp only [Nat.reduceAdd, Nat.reduceMul, Nat.reduceSub, List.nil_append, List.cons_append, nbk, List.map_cons, List.map_nil]
     apply Trc.stp rfl rfl rfl; apply s_lit; apply PA.cons; exact rfl; exact rfl; exact rfl; exact PA.nil; exact rfl; omega
     dsimp only [Nat.reduceAdd, Nat.reduceMul, Nat.reduceSub, List.nil_append, List.cons_append, nbk, List.map_cons, List.map_nil]; apply Trc.stp rfl rfl rfl; apply s_app; exact rfl; exact rfl; exact rfl; apply rd_sl rfl; rfl; simp only [byA_length, List.length_append, List.length_cons, List.length_nil, List.length_take, List.length_drop, List.length_replicate, List.length_map, Nat.mul_one, nameB_length, flat_length, List.length_set, inA_length, dsA_length, lsA_length, dA_length, lA_length] <;> omega
     exact rfl; exact rfl; rfl; omega; dsimp only [Nat.reduceAdd, Nat.reduceMul, Nat.reduceSub, List.nil_append, List.cons_append, nbk, List.map_cons, List.map_nil]
     apply Trc.stp rfl rfl rfl; apply s_assign; exact rfl; dsimp only [Nat.reduceAdd, Nat.reduceMul, List.nil_append]
     exact Trc.done _ _ _; exact rfl; refine inBlk_n ?_; refine thn_n ?_; apply Gol.region; apply Trc.stp rfl rfl rfl; apply s_move; exact rfl; dsimp only [Nat.reduceAdd, Nat.reduceMul, List.nil_append]
     apply Trc.stp rfl rfl rfl; apply s_addn; exact rfl; exact rfl; simp <;> omega; dsimp only [Nat.reduceAdd, Nat.reduceMul, List.nil_append]
     apply Trc.stp rfl rfl rfl; apply s_assign; exact rfl; dsimp only [Nat.reduceAdd, Nat.reduceMul, List.nil_append]
     exact Trc.done _ _ _; exact rfl)
    refine rnd_n (j + 1) (by omega) (by omega) ?_
    rw [hN, List.length_append, List.length_singleton]
    (apply Le.mk3' [(199, 304)]; apply RnT3.c; exact rfl; apply Rn3.r; exact Rn.v rfl; apply RnT3.c; exact rfl; apply Rn3.r; exact Rn.sl rfl rfl; apply RnT3.c
     exact rfl; apply Rn3.r; exact Rn.pt rfl rfl; exact RnT3.n; apply RnH3.c; exact rfl; exact rfl; apply RnC.cl; exact grow_eq2; exact inferInstance; exact rfl
     exact rfl; apply RnH3.c; exact rfl; exact rfl; apply RnC.cl; rfl; exact inferInstance; exact rfl; exact rfl; exact RnH3.n; exact rfl)
  have hge4 : ¬ j < s.applied.length := of_decide_eq_false h
  obtain rfl : j = s.applied.length := by omega
  (refine Gol.exit ?_; refine thn_x ?_; refine rnd_x ?_; refine inBlk_hit ?_; refine thn_n ?_
   refine Gol.seq ?_; apply Gol.region; apply Trc.stp rfl rfl rfl; apply s_move; exact rfl
   dsimp only [Nat.reduceAdd, Nat.reduceMul, List.nil_append]; apply Trc.stp rfl rfl rfl; apply s_fieldAddr; exact rfl; dsimp only [Nat.reduceAdd, Nat.reduceMul, List.nil_append]
   apply Trc.stp rfl rfl rfl; apply s_load; exact rfl; exact rfl; exact rfl; dsimp only [Nat.reduceAdd, Nat.reduceMul, List.nil_append]
   apply Trc.stp rfl rfl rfl; apply s_call (f := 82) rfl; apply evs.cons rfl; apply evs.cons rfl; apply evs.cons rfl
   exact evs.nil; apply ArgL.cons; exact arg_clo; apply ArgL.cons; exact arg_clo; apply ArgL.cons; exact arg_clo; exact ArgL.nil; exact (refNum_ok [] s.guilty 2 0 false (by decide) rfl (by decide)).sub sub_nil
   exact Nat.le_of_ble_eq_true rfl; dsimp only [Nat.reduceAdd, Nat.reduceMul, Nat.reduceSub, List.nil_append, List.cons_append, nbk, List.map_cons, List.map_nil]
   apply Trc.stp rfl rfl rfl; apply s_call (f := 78) rfl; apply evs.cons rfl; apply evs.cons rfl; exact evs.nil
   apply ArgL.cons; exact arg_clo; apply ArgL.cons; exact arg_sl rfl; exact ArgL.nil; exact hS.refTagged 0x56 (beB (toU64 s.guilty) 2) 2 _ (beB_length _ _) (by decide)
   exact Nat.le_of_ble_eq_true rfl; dsimp only [Nat.reduceAdd, Nat.reduceMul, Nat.reduceSub, List.nil_append, List.cons_append, nbk, List.map_cons, List.map_nil]
   apply Trc.stp rfl rfl rfl; apply s_lit; apply PA.cons; exact rfl; exact rfl; exact rfl; exact PA.nil; exact rfl; omega
   dsimp only [Nat.reduceAdd, Nat.reduceMul, Nat.reduceSub, List.nil_append, List.cons_append, nbk, List.map_cons, List.map_nil]; apply Trc.stp rfl rfl rfl; apply s_app; exact rfl; exact rfl; exact rfl; apply rd_sl rfl; rfl; simp only [byA_length, List.length_append, List.length_cons, List.length_nil, List.length_take, List.length_drop, List.length_replicate, List.length_map, Nat.mul_one, nameB_length, flat_length, List.length_set, inA_length, dsA_length, lsA_length, dA_length, lA_length] <;> omega
   exact rfl; exact rfl; rfl; omega; dsimp only [Nat.reduceAdd, Nat.reduceMul, Nat.reduceSub, List.nil_append, List.cons_append, nbk, List.map_cons, List.map_nil]
   apply Trc.stp rfl rfl rfl; apply s_assign; exact rfl; dsimp only [Nat.reduceAdd, Nat.reduceMul, List.nil_append]
   exact Trc.done _ _ _; exact rfl; refine thn_n ?_; refine Gol.ret ?_)
  rw [grow_eq2, show (lv4 S s s.applied.length).length + 1 = (leavesN S s).length by simp [leavesN]]
  (apply RetQ.mk (by first | exact .inr rfl | exact .inl rfl); apply res_1 rfl; exact res_tmp rfl; exact out_sl rfl)
theorem refRootS_ok (s : Stt) (hs : Sm s) : Fresh Tryz.prog 12 [stA s] (fun _ => .v (.agg (nameC (rootN S (leavesN S s))))) [] := by
  have hl := refLeaves_ok S hS s hs
  have hn := leavesN_len S s
  obtain ⟨h1, h2, h3, h4⟩ := hs
  unfold stA at hl ⊢
  refine Fresh.of (fn := Tryz.f12) Tryz.func12 rfl (Nat.le_of_ble_eq_true rfl) fun w => ?_
  (refine Gol.seq ?_; apply Gol.region; apply Trc.stp rfl rfl rfl; apply s_box; exact rfl
   exact rfl; dsimp only [Nat.reduceAdd, Nat.reduceMul, Nat.reduceSub, List.nil_append, List.cons_append, nbk, List.map_cons, List.map_nil]; apply Trc.stp rfl rfl rfl; apply s_alloc; dsimp only [Nat.reduceAdd, Nat.reduceMul, Nat.reduceSub, List.nil_append, List.cons_append, nbk, List.map_cons, List.map_nil]
   exact Trc.done _ _ _; exact rfl; refine thn_n ?_; refine Gol.seq ?_; apply Gol.region; apply Trc.stp rfl rfl rfl; apply s_loadW; exact rfl; exact rfl; exact rfl; exact agu_cua _; dsimp only [Nat.reduceAdd, Nat.reduceMul, List.nil_append]
   apply Trc.stp rfl rfl rfl; apply s_call (f := 40) rfl; apply evs.cons rfl; exact evs.nil; apply ArgL.cons
   exact arg_clo; exact ArgL.nil; exact hl; exact Nat.le_of_ble_eq_true rfl; dsimp only [Nat.reduceAdd, Nat.reduceMul, Nat.reduceSub, List.nil_append, List.cons_append, nbk, List.map_cons, List.map_nil]
   apply Trc.stp rfl rfl rfl; apply s_call (f := 39) rfl; apply evs.cons rfl; exact evs.nil; apply ArgL.cons
   exact arg_sl rfl; exact ArgL.nil; exact refRoot_ok S hS _ _ _ rfl (by omega); exact Nat.le_of_ble_eq_true rfl; dsimp only [Nat.reduceAdd, Nat.reduceMul, Nat.reduceSub, List.nil_append, List.cons_append, nbk, List.map_cons, List.map_nil]
   apply Trc.stepN rfl rfl; exact wnt_n rfl; apply s_storeW; exact rfl; exact rfl; exact rfl; exact rfl; rfl; exact rfl; dsimp only [Nat.reduceAdd, Nat.reduceMul, Nat.reduceSub, List.nil_append, List.cons_append, nbk, List.map_cons, List.map_nil]
   exact Trc.done _ _ _; exact rfl; refine thn_n ?_; refine Gol.ret ?_)
  (apply RetQ.mk (by first | exact .inr rfl | exact .inl rfl); apply res_1 rfl; exact res_cell rfl rfl rfl (agu_cuv _); exact out_val)
theorem refInc_ok (s : Stt) (hs : Sm s) (a : Nat) (ha : a < (leavesN S s).length) : Fresh Tryz.prog 36 [stA s, .v (.int .i64 (a : Int))] (fun k => .ag [.v (.int .i64 (a : Int)), .v (.int .i64 ((leavesN S s).length : Int)), .sl k (depN a (leavesN S s).length)]) [⟨byA (flat (pathN S (leavesN S s) a)), 30, 8⟩] := by
  have hl := refLeaves_ok S hS s hs
  have hn := leavesN_len S s
  obtain ⟨h1, h2, h3, h4⟩ := hs
  unfold stA at hl ⊢
  generalize leavesN S s = L at hl hn ha
  refine Fresh.of (fn := Tryz.f36) Tryz.func36 rfl (Nat.le_of_ble_eq_true rfl) fun w => ?_
  (refine Gol.seq ?_; apply Gol.region; apply Trc.stp rfl rfl rfl; apply s_box; exact rfl
   exact rfl; dsimp only [Nat.reduceAdd, Nat.reduceMul, Nat.reduceSub, List.nil_append, List.cons_append, nbk, List.map_cons, List.map_nil]; apply Trc.stp rfl rfl rfl; apply s_alloc; dsimp only [Nat.reduceAdd, Nat.reduceMul, Nat.reduceSub, List.nil_append, List.cons_append, nbk, List.map_cons, List.map_nil]
   exact Trc.done _ _ _; exact rfl; refine thn_n ?_; refine Gol.seq ?_; apply Gol.region; apply Trc.stp rfl rfl rfl; apply s_loadW; exact rfl; exact rfl; exact rfl; exact agu_cua _; dsimp only [Nat.reduceAdd, Nat.reduceMul, List.nil_append]
   apply Trc.stp rfl rfl rfl; apply s_call (f := 40) rfl; apply evs.cons rfl; exact evs.nil; apply ArgL.cons
   exact arg_clo; exact ArgL.nil; exact hl; exact Nat.le_of_ble_eq_true rfl; dsimp only [Nat.reduceAdd, Nat.reduceMul, Nat.reduceSub, List.nil_append, List.cons_append, nbk, List.map_cons, List.map_nil]
   apply Trc.stp rfl rfl rfl; apply s_assign; exact rfl; dsimp only [Nat.reduceAdd, Nat.reduceMul, List.nil_append]
   exact Trc.done _ _ _; exact rfl; refine thn_n ?_; refine Gol.seq ?_; apply Gol.region; apply Trc.stp rfl rfl rfl; apply s_move; exact rfl; dsimp only [Nat.reduceAdd, Nat.reduceMul, List.nil_append]
   apply Trc.stp rfl rfl rfl; apply s_move; exact rfl; dsimp only [Nat.reduceAdd, Nat.reduceMul, List.nil_append]
   apply Trc.stp rfl rfl rfl; apply s_call (f := 77) rfl; apply evs.cons rfl; apply evs.cons rfl; exact evs.nil
   apply ArgL.cons; exact arg_sl rfl; apply ArgL.cons; exact arg_clo; exact ArgL.nil; exact refPath_yes S hS _ L a _ rfl ha (by omega); exact Nat.le_of_ble_eq_true rfl
   dsimp only [Nat.reduceAdd, Nat.reduceMul, Nat.reduceSub, List.nil_append, List.cons_append, nbk, List.map_cons, List.map_nil]; apply Trc.stp rfl rfl rfl; apply s_move; exact rfl; dsimp only [Nat.reduceAdd, Nat.reduceMul, List.nil_append]
   apply Trc.stp rfl rfl rfl; apply s_extract; exact rfl; exact rfl; dsimp only [Nat.reduceAdd, Nat.reduceMul, List.nil_append]
   apply Trc.stp rfl rfl rfl; apply s_extract; exact rfl; exact rfl; dsimp only [Nat.reduceAdd, Nat.reduceMul, List.nil_append]
   apply Trc.stp rfl rfl rfl; apply s_assign; exact rfl; dsimp only [Nat.reduceAdd, Nat.reduceMul, List.nil_append]
   apply Trc.stp rfl rfl rfl; apply s_assign; exact rfl; dsimp only [Nat.reduceAdd, Nat.reduceMul, List.nil_append]
   exact Trc.done _ _ _; exact rfl; refine thn_n ?_; refine Gol.seq ?_; apply Gol.region; apply Trc.stp rfl rfl rfl; apply s_move; exact rfl; dsimp only [Nat.reduceAdd, Nat.reduceMul, List.nil_append]
   apply Trc.stp rfl rfl rfl; apply s_move; exact rfl; dsimp only [Nat.reduceAdd, Nat.reduceMul, List.nil_append]
   apply Trc.stp rfl rfl rfl; apply s_len; exact rfl; exact ln_sl; dsimp only [Nat.reduceAdd, Nat.reduceMul, List.nil_append]
   apply Trc.stp rfl rfl rfl; apply s_move; exact rfl; dsimp only [Nat.reduceAdd, Nat.reduceMul, List.nil_append]
   apply Trc.stp rfl rfl rfl; apply s_bld; exact rfl; (focus (dsimp only [splB, cuB, spl, cu, Value.cells, nameC, List.map, List.take, List.drop, List.append, List.length, List.cons_append, List.nil_append, Nat.reduceAdd, List.take_succ_cons, List.take_zero, List.drop_succ_cons, List.drop_zero, List.take_nil, List.drop_nil, List.append_nil, List.length_cons, List.length_nil]; done))
   dsimp only [Nat.reduceAdd, Nat.reduceMul, Nat.reduceSub, List.nil_append, List.cons_append, nbk, List.map_cons, List.map_nil]; apply Trc.stepN rfl rfl
   exact wnt_n rfl; apply s_storeW; exact rfl; exact rfl; exact rfl; exact rfl; rfl; exact rfl; dsimp only [Nat.reduceAdd, Nat.reduceMul, Nat.reduceSub, List.nil_append, List.cons_append, nbk, List.map_cons, List.map_nil]
   exact Trc.done _ _ _; exact rfl; refine thn_n ?_; refine Gol.ret ?_)
  (apply RetQ.mkM (by first | exact .inr rfl | exact .inl rfl); apply res_1 rfl; exact res_cell rfl rfl rfl (agu_cua _); apply out_ids [56] rfl; apply OBs.cons
   exact rfl; exact inferInstance; exact OBs.nil; intro k; apply Ot.agL; apply OtL.cons; exact Ot.v inferInstance; apply OtL.cons; exact Ot.v inferInstance
   apply OtL.cons; exact Ot.sl (j := 0) rfl; exact OtL.nil)
theorem refProveCell_yes (s : Stt) (hs : Sm s) (k i : Int) (n : UInt64) (j : Nat) (hj : fIx (eqC k i n) s.cells 0 = (j : Int)) (hjl : j < s.cells.length) : Fresh Tryz.prog 8 [stA s, .v (.agg (cellC k i n))] (fun k => .tp [.ag [.v (.int .i64 (j : Int)), .v (.int .i64 ((leavesN S s).length : Int)), .sl k (depN j (leavesN S s).length)], .v (.int .i64 0)]) [⟨byA (flat (pathN S (leavesN S s) j)), 30, 8⟩] := by
  have hn := leavesN_len S s
  have hp := refInc_ok S hS s hs j (by omega)
  have hf := at_ok s k i n (by have := hs.c; omega)
  rw [hj] at hf
  unfold stA at hp hf ⊢
  refine Fresh.of (fn := Tryz.f8) Tryz.func8 rfl (Nat.le_of_ble_eq_true rfl) fun w => ?_
  (refine Gol.seq ?_; apply Gol.region; apply Trc.stp rfl rfl rfl; apply s_box; exact rfl
   exact rfl; dsimp only [Nat.reduceAdd, Nat.reduceMul, Nat.reduceSub, List.nil_append, List.cons_append, nbk, List.map_cons, List.map_nil]; apply Trc.stp rfl rfl rfl; apply s_box; exact rfl; exact rfl; dsimp only [Nat.reduceAdd, Nat.reduceMul, Nat.reduceSub, List.nil_append, List.cons_append, nbk, List.map_cons, List.map_nil]
   apply Trc.stp rfl rfl rfl; apply s_alloc; dsimp only [Nat.reduceAdd, Nat.reduceMul, Nat.reduceSub, List.nil_append, List.cons_append, nbk, List.map_cons, List.map_nil]
   apply Trc.stp rfl rfl rfl; apply s_assign; exact rfl; dsimp only [Nat.reduceAdd, Nat.reduceMul, List.nil_append]
   exact Trc.done _ _ _; exact rfl; refine thn_n ?_; refine Gol.seq ?_; apply Gol.region; apply Trc.stp rfl rfl rfl; apply s_loadW; exact rfl; exact rfl; exact rfl; exact agu_cua _; dsimp only [Nat.reduceAdd, Nat.reduceMul, List.nil_append]
   apply Trc.stp rfl rfl rfl; apply s_loadW; exact rfl; exact rfl; exact rfl; exact agu_cuv _; dsimp only [Nat.reduceAdd, Nat.reduceMul, List.nil_append]
   apply Trc.stp rfl rfl rfl; apply s_call (f := 35) rfl; apply evs.cons rfl; apply evs.cons rfl; exact evs.nil
   apply ArgL.cons; exact arg_clo; apply ArgL.cons; exact arg_clo; exact ArgL.nil; exact hf; exact Nat.le_of_ble_eq_true rfl; dsimp only [Nat.reduceAdd, Nat.reduceMul, Nat.reduceSub, List.nil_append, List.cons_append, nbk, List.map_cons, List.map_nil]
   apply Trc.stp rfl rfl rfl; apply s_assign; exact rfl; dsimp only [Nat.reduceAdd, Nat.reduceMul, List.nil_append]
   exact Trc.done _ _ _; exact rfl; refine thn_n ?_; refine Gol.seq ?_; refine Gol.seq ?_; apply Gol.region
   apply Trc.stp rfl rfl rfl; apply s_move; exact rfl; dsimp only [Nat.reduceAdd, Nat.reduceMul, List.nil_append]
   apply Trc.stp rfl rfl rfl; apply s_ltn; exact rfl; exact rfl; dsimp only [Nat.reduceAdd, Nat.reduceMul, List.nil_append]
   exact Trc.done _ _ _; exact rfl; refine thn_n ?_)
  refine Gol.cond_f rfl (by simp) ?_
  (refine Gol.skip ?_; refine thn_n ?_; refine Gol.seq ?_; apply Gol.region; apply Trc.stp rfl rfl rfl; apply s_loadW; exact rfl; exact rfl; exact rfl; exact agu_cua _; dsimp only [Nat.reduceAdd, Nat.reduceMul, List.nil_append]
   apply Trc.stp rfl rfl rfl; apply s_move; exact rfl; dsimp only [Nat.reduceAdd, Nat.reduceMul, List.nil_append]
   apply Trc.stp rfl rfl rfl; apply s_call (f := 36) rfl; apply evs.cons rfl; apply evs.cons rfl; exact evs.nil
   apply ArgL.cons; exact arg_clo; apply ArgL.cons; exact arg_clo; exact ArgL.nil; exact hp; exact Nat.le_of_ble_eq_true rfl; dsimp only [Nat.reduceAdd, Nat.reduceMul, Nat.reduceSub, List.nil_append, List.cons_append, nbk, List.map_cons, List.map_nil]
   apply Trc.stepN rfl rfl; exact wnt_n rfl; apply s_storeW; exact rfl; exact rfl; exact rfl; exact rfl; rfl; exact rfl; dsimp only [Nat.reduceAdd, Nat.reduceMul, Nat.reduceSub, List.nil_append, List.cons_append, nbk, List.map_cons, List.map_nil]
   apply Trc.stp rfl rfl rfl; apply s_assign; exact rfl; dsimp only [Nat.reduceAdd, Nat.reduceMul, List.nil_append]
   exact Trc.done _ _ _; exact rfl; refine thn_n ?_; refine Gol.ret ?_)
  (apply RetQ.mkM (by first | exact .inr rfl | exact .inl rfl); apply res_2 rfl; exact res_cell rfl rfl rfl (agu_cua _); exact res_tmp rfl; apply out_ids [96] rfl
   apply OBs.cons; exact rfl; exact inferInstance; exact OBs.nil; intro k; apply Ot.tpL; apply OtL.cons; apply Ot.agL; apply OtL.cons; exact Ot.v inferInstance
   apply OtL.cons; exact Ot.v inferInstance; apply OtL.cons; exact Ot.sl (j := 0) rfl; exact OtL.nil; apply OtL.cons; exact Ot.v inferInstance; exact OtL.nil)
omit hS in
theorem refProveCell_no (s : Stt) (hs : Sm s) (k i : Int) (n : UInt64) (hj : fIx (eqC k i n) s.cells 0 = -1) : Fresh Tryz.prog 8 [stA s, .v (.agg (cellC k i n))] (fun _ => .tp [.v (.agg #[.int .i64 0, .int .i64 0, .slice none 0 0]), .v (.int .i64 6)]) [] := by
  have hf := at_ok s k i n (by have := hs.c; omega)
  rw [hj] at hf
  unfold stA at hf ⊢
  refine Fresh.of (fn := Tryz.f8) Tryz.func8 rfl (Nat.le_of_ble_eq_true rfl) fun w => ?_
  (refine Gol.seq ?_; apply Gol.region; apply Trc.stp rfl rfl rfl; apply s_box; exact rfl
   exact rfl; dsimp only [Nat.reduceAdd, Nat.reduceMul, Nat.reduceSub, List.nil_append, List.cons_append, nbk, List.map_cons, List.map_nil]; apply Trc.stp rfl rfl rfl; apply s_box; exact rfl; exact rfl; dsimp only [Nat.reduceAdd, Nat.reduceMul, Nat.reduceSub, List.nil_append, List.cons_append, nbk, List.map_cons, List.map_nil]
   apply Trc.stp rfl rfl rfl; apply s_alloc; dsimp only [Nat.reduceAdd, Nat.reduceMul, Nat.reduceSub, List.nil_append, List.cons_append, nbk, List.map_cons, List.map_nil]
   apply Trc.stp rfl rfl rfl; apply s_assign; exact rfl; dsimp only [Nat.reduceAdd, Nat.reduceMul, List.nil_append]
   exact Trc.done _ _ _; exact rfl; refine thn_n ?_; refine Gol.seq ?_; apply Gol.region; apply Trc.stp rfl rfl rfl; apply s_loadW; exact rfl; exact rfl; exact rfl; exact agu_cua _; dsimp only [Nat.reduceAdd, Nat.reduceMul, List.nil_append]
   apply Trc.stp rfl rfl rfl; apply s_loadW; exact rfl; exact rfl; exact rfl; exact agu_cuv _; dsimp only [Nat.reduceAdd, Nat.reduceMul, List.nil_append]
   apply Trc.stp rfl rfl rfl; apply s_call (f := 35) rfl; apply evs.cons rfl; apply evs.cons rfl; exact evs.nil
   apply ArgL.cons; exact arg_clo; apply ArgL.cons; exact arg_clo; exact ArgL.nil; exact hf; exact Nat.le_of_ble_eq_true rfl; dsimp only [Nat.reduceAdd, Nat.reduceMul, Nat.reduceSub, List.nil_append, List.cons_append, nbk, List.map_cons, List.map_nil]
   apply Trc.stp rfl rfl rfl; apply s_assign; exact rfl; dsimp only [Nat.reduceAdd, Nat.reduceMul, List.nil_append]
   exact Trc.done _ _ _; exact rfl; refine thn_n ?_; refine Gol.seq ?_; refine Gol.seq ?_; apply Gol.region
   apply Trc.stp rfl rfl rfl; apply s_move; exact rfl; dsimp only [Nat.reduceAdd, Nat.reduceMul, List.nil_append]
   apply Trc.stp rfl rfl rfl; apply s_lt; exact rfl; exact rfl; dsimp only [Nat.reduceAdd, Nat.reduceMul, List.nil_append]
   exact Trc.done _ _ _; exact rfl; refine thn_n ?_)
  refine Gol.cond_t rfl (by decide) ?_
  (refine Gol.seq ?_; apply Gol.region; apply Trc.stp rfl rfl rfl; apply s_zero; dsimp only [Nat.reduceAdd, Nat.reduceMul, Nat.reduceSub, List.nil_append, List.cons_append, nbk, List.map_cons, List.map_nil]
   apply Trc.stepN rfl rfl; exact wnt_n rfl; apply s_storeW; exact rfl; exact rfl; exact rfl; exact rfl; rfl; exact rfl; dsimp only [Nat.reduceAdd, Nat.reduceMul, Nat.reduceSub, List.nil_append, List.cons_append, nbk, List.map_cons, List.map_nil]
   apply Trc.stp rfl rfl rfl; apply s_assign; exact rfl; dsimp only [Nat.reduceAdd, Nat.reduceMul, List.nil_append]
   exact Trc.done _ _ _; exact rfl; refine thn_n ?_; refine Gol.ret ?_; refine thn_r ?_)
  (apply RetQ.mk (by first | exact .inr rfl | exact .inl rfl); apply res_2 rfl; exact res_cell rfl rfl rfl (agu_cuv _); exact res_tmp rfl; exact out_val)
theorem refProveApplied_yes (s : Stt) (hs : Sm s) (n : UInt64) (j : Nat) (hj : fIx (fun x => n == x) s.applied 0 = (j : Int)) (hjl : j < s.applied.length) : Fresh Tryz.prog 10 [stA s, .v (.agg (nameC n))] (fun k => .tp [.ag [.v (.int .i64 ((s.cells.length + s.seqs.length + s.locks.length + j : Nat) : Int)), .v (.int .i64 ((leavesN S s).length : Int)), .sl k (depN (s.cells.length + s.seqs.length + s.locks.length + j) (leavesN S s).length)], .v (.int .i64 0)]) [⟨byA (flat (pathN S (leavesN S s) (s.cells.length + s.seqs.length + s.locks.length + j))), 30, 8⟩] := by
  have hn := leavesN_len S s
  have hp := refInc_ok S hS s hs (s.cells.length + s.seqs.length + s.locks.length + j) (by omega)
  obtain ⟨h1, h2, h3, h4⟩ := hs
  unfold stA at hp ⊢
  refine Fresh.of (fn := Tryz.f10) Tryz.func10 rfl (Nat.le_of_ble_eq_true rfl) fun w => ?_
  (refine Gol.seq ?_; apply Gol.region; apply Trc.stp rfl rfl rfl; apply s_box; exact rfl
   exact rfl; dsimp only [Nat.reduceAdd, Nat.reduceMul, Nat.reduceSub, List.nil_append, List.cons_append, nbk, List.map_cons, List.map_nil]; apply Trc.stp rfl rfl rfl; apply s_box; exact rfl; exact rfl; dsimp only [Nat.reduceAdd, Nat.reduceMul, Nat.reduceSub, List.nil_append, List.cons_append, nbk, List.map_cons, List.map_nil]
   apply Trc.stp rfl rfl rfl; apply s_alloc; dsimp only [Nat.reduceAdd, Nat.reduceMul, Nat.reduceSub, List.nil_append, List.cons_append, nbk, List.map_cons, List.map_nil]
   apply Trc.stp rfl rfl rfl; apply s_assign; exact rfl; dsimp only [Nat.reduceAdd, Nat.reduceMul, List.nil_append]
   exact Trc.done _ _ _; exact rfl; refine thn_n ?_; refine Gol.seq ?_; refine Gol.seq ?_; apply Gol.region
   apply Trc.stp rfl rfl rfl; apply s_assign; exact rfl; dsimp only [Nat.reduceAdd, Nat.reduceMul, List.nil_append]
   exact Trc.done _ _ _; exact rfl; refine thn_n ?_; refine Gol.block ?_)
  refine Gol.loop (ι := Nat) (fun i => i ≤ s.applied.length ∧ fIx (fun x => n == x) (s.applied.drop i) i = fIx (fun x => n == x) s.applied 0) (fun i => s.applied.length - i) 1000 (fun _ => [(0, some ⟨[.ex s.cells.length false (dsA s.cells), .ex s.seqs.length false (inA s.seqs), .ex s.locks.length false (lsA s.locks), .ex s.applied.length false (byA (flat s.applied)), .v (.int .i64 s.guilty)], 28, 5⟩), (8, some ⟨cu (.v (.agg (nameC n))), 30, 8⟩), (16, some ⟨[.v (.int .i64 0), .v (.int .i64 0), .v (.slice none 0 0)], 36, 3⟩)]) (fun i => [(6, .v (.int .i64 (i : Int))), (2, .pt 0 0), (3, .pt 8 0), (4, .pt 16 0)]) 0 ⟨Nat.zero_le _, rfl⟩ ?_ ?_
  · (apply Le.mk3' []; apply RnT3.c; exact rfl; apply Rn3.r; exact Rn.v rfl; apply RnT3.c; exact rfl; apply Rn3.r; exact Rn.pt rfl rfl; apply RnT3.c; exact rfl
     apply Rn3.r; exact Rn.pt rfl rfl; apply RnT3.c; exact rfl; apply Rn3.r; exact Rn.pt rfl rfl; exact RnT3.n; apply RnH3.c; exact rfl; exact rfl; apply RnC.cl
     rfl; exact inferInstance; exact rfl; exact rfl; apply RnH3.c; exact rfl; exact rfl; apply RnC.cl; rfl; exact inferInstance; exact rfl; exact rfl; apply RnH3.c
     exact rfl; exact rfl; apply RnC.cl; rfl; exact inferInstance; exact rfl; exact rfl; exact RnH3.n; exact rfl)
  rintro i ⟨g1, g2⟩
  rw [hj] at g2
  (refine Gol.seq ?_; refine Gol.seq ?_; apply Gol.region; apply Trc.stp rfl rfl rfl; apply s_move
   exact rfl; dsimp only [Nat.reduceAdd, Nat.reduceMul, List.nil_append]; apply Trc.stp rfl rfl rfl; apply s_fieldAddr; exact rfl; dsimp only [Nat.reduceAdd, Nat.reduceMul, List.nil_append]
   apply Trc.stp rfl rfl rfl; apply s_load; exact rfl; exact rfl; exact rfl; dsimp only [Nat.reduceAdd, Nat.reduceMul, List.nil_append]
   apply Trc.stp rfl rfl rfl; apply s_len; exact rfl; exact ln_ex; dsimp only [Nat.reduceAdd, Nat.reduceMul, List.nil_append]
   apply Trc.stp rfl rfl rfl; apply s_ltn; exact rfl; exact rfl; dsimp only [Nat.reduceAdd, Nat.reduceMul, List.nil_append]
   exact Trc.done _ _ _; exact rfl; refine thn_n ?_)
  refine Gol.cond rfl (fun h => ?_) (fun h => ?_)
  · have hlt : i < s.applied.length := of_decide_eq_true h
    have hd : s.applied[i]? = some (s.applied.getD i 0) := by rw [List.getD_eq_getElem?_getD, List.getElem?_eq_getElem hlt]; rfl
    (refine Gol.skip ?_; refine thn_n ?_; refine Gol.seq ?_; refine Gol.block ?_; refine Gol.seq ?_
     apply Gol.any; kernel_rfl; apply Trc.stp rfl rfl rfl; apply s_fieldAddr; exact rfl; dsimp only [Nat.reduceAdd, Nat.reduceMul, List.nil_append]
     apply Trc.stp rfl rfl rfl; apply s_load; exact rfl; exact rfl; exact rfl; dsimp only [Nat.reduceAdd, Nat.reduceMul, List.nil_append]
     apply Trc.stp rfl rfl rfl; apply s_move; exact rfl; dsimp only [Nat.reduceAdd, Nat.reduceMul, List.nil_append]
     apply Trc.stp rfl rfl rfl; apply s_ixe; exact rfl; exact rfl; omega; exact flat_ne (by omega); dsimp only [Nat.reduceAdd, Nat.reduceMul, List.nil_append]
     apply Trc.stp rfl rfl rfl; apply s_loadEN; exact rfl; simp only [byA_length, List.length_append, List.length_cons, List.length_nil, List.length_take, List.length_drop, List.length_replicate, List.length_map, Nat.mul_one, nameB_length, flat_length, List.length_set, inA_length, dsA_length, lsA_length, dA_length, lA_length] <;> omega
     exact agu_nm (by omega); dsimp only [Nat.reduceAdd, Nat.reduceMul, List.nil_append]
     apply Trc.stp rfl rfl rfl; apply s_loadW; exact rfl; exact rfl; exact rfl; exact agu_cuv _; dsimp only [Nat.reduceAdd, Nat.reduceMul, List.nil_append]
     apply Trc.stp rfl rfl rfl; apply s_eqN; exact rfl; exact rfl; dsimp only [Nat.reduceAdd, Nat.reduceMul, List.nil_append]
     exact Trc.done _ _ _; kernel_rfl; exact rfl; refine thn_n ?_)
    refine Gol.cond rfl (fun h => ?_) (fun h => ?_)
    · have hq : (n == s.applied.getD i 0) = true := by rw [beq_iff_eq] at h ⊢; exact h.symm
      rw [fIx_hit hd hq] at g2
      have hij : i = j := by omega
      subst hij
      (refine Gol.seq ?_; apply Gol.region; apply Trc.stp rfl rfl rfl; apply s_loadW; exact rfl
       exact rfl; exact rfl; exact agu_cua _; dsimp only [Nat.reduceAdd, Nat.reduceMul, List.nil_append]
       apply Trc.stp rfl rfl rfl; apply s_fieldAddr; exact rfl; dsimp only [Nat.reduceAdd, Nat.reduceMul, List.nil_append]
       apply Trc.stp rfl rfl rfl; apply s_load; exact rfl; exact rfl; exact rfl; dsimp only [Nat.reduceAdd, Nat.reduceMul, List.nil_append]
       apply Trc.stp rfl rfl rfl; apply s_len; exact rfl; exact ln_ex; dsimp only [Nat.reduceAdd, Nat.reduceMul, List.nil_append]
       apply Trc.stp rfl rfl rfl; apply s_fieldAddr; exact rfl; dsimp only [Nat.reduceAdd, Nat.reduceMul, List.nil_append]
       apply Trc.stp rfl rfl rfl; apply s_load; exact rfl; exact rfl; exact rfl; dsimp only [Nat.reduceAdd, Nat.reduceMul, List.nil_append]
       apply Trc.stp rfl rfl rfl; apply s_len; exact rfl; exact ln_ex; dsimp only [Nat.reduceAdd, Nat.reduceMul, List.nil_append]
       apply Trc.stp rfl rfl rfl; apply s_addn; exact rfl; exact rfl; omega; dsimp only [Nat.reduceAdd, Nat.reduceMul, List.nil_append]
       apply Trc.stp rfl rfl rfl; apply s_fieldAddr; exact rfl; dsimp only [Nat.reduceAdd, Nat.reduceMul, List.nil_append]
       apply Trc.stp rfl rfl rfl; apply s_load; exact rfl; exact rfl; exact rfl; dsimp only [Nat.reduceAdd, Nat.reduceMul, List.nil_append]
       apply Trc.stp rfl rfl rfl; apply s_len; exact rfl; exact ln_ex; dsimp only [Nat.reduceAdd, Nat.reduceMul, List.nil_append]
       apply Trc.stp rfl rfl rfl; apply s_addn; exact rfl; exact rfl; omega; dsimp only [Nat.reduceAdd, Nat.reduceMul, List.nil_append]
       apply Trc.stp rfl rfl rfl; apply s_move; exact rfl; dsimp only [Nat.reduceAdd, Nat.reduceMul, List.nil_append]
       apply Trc.stp rfl rfl rfl; apply s_addn; exact rfl; exact rfl; omega; dsimp only [Nat.reduceAdd, Nat.reduceMul, List.nil_append]
       apply Trc.stp rfl rfl rfl; apply s_call (f := 36) rfl; apply evs.cons rfl; apply evs.cons rfl; exact evs.nil
       apply ArgL.cons; exact arg_clo; apply ArgL.cons; exact arg_clo; exact ArgL.nil; exact hp; exact Nat.le_of_ble_eq_true rfl; dsimp only [Nat.reduceAdd, Nat.reduceMul, Nat.reduceSub, List.nil_append, List.cons_append, nbk, List.map_cons, List.map_nil]
       apply Trc.stepN rfl rfl; exact wnt_n rfl; apply s_storeW; exact rfl; exact rfl; exact rfl; exact rfl; rfl; exact rfl; dsimp only [Nat.reduceAdd, Nat.reduceMul, Nat.reduceSub, List.nil_append, List.cons_append, nbk, List.map_cons, List.map_nil]
       apply Trc.stp rfl rfl rfl; apply s_assign; exact rfl; dsimp only [Nat.reduceAdd, Nat.reduceMul, List.nil_append]
       exact Trc.done _ _ _; exact rfl; refine thn_n ?_; refine Gol.ret ?_; refine inBlk_r ?_; refine thn_r ?_
       refine rnd_r ?_; refine inBlk_r ?_; refine thn_r ?_)
      (apply RetQ.mkM (by first | exact .inr rfl | exact .inl rfl); apply res_2 rfl; exact res_cell rfl rfl rfl (agu_cua _); exact res_tmp rfl; apply out_ids [1208] rfl
       apply OBs.cons; exact rfl; exact inferInstance; exact OBs.nil; intro k; apply Ot.tpL; apply OtL.cons; apply Ot.agL; apply OtL.cons; exact Ot.v inferInstance
       apply OtL.cons; exact Ot.v inferInstance; apply OtL.cons; exact Ot.sl (j := 0) rfl; exact OtL.nil; apply OtL.cons; exact Ot.v inferInstance; exact OtL.nil)
    · have hq : (n == s.applied.getD i 0) = false := by rw [beq_eq_false_iff_ne] at h ⊢; exact fun e => h e.symm
      (refine Gol.skip ?_; refine inBlk_n ?_; refine thn_n ?_; apply Gol.region; apply Trc.stp rfl rfl rfl; apply s_move; exact rfl; dsimp only [Nat.reduceAdd, Nat.reduceMul, List.nil_append]
       apply Trc.stp rfl rfl rfl; apply s_addn; exact rfl; exact rfl; simp <;> omega; dsimp only [Nat.reduceAdd, Nat.reduceMul, List.nil_append]
       apply Trc.stp rfl rfl rfl; apply s_assign; exact rfl; dsimp only [Nat.reduceAdd, Nat.reduceMul, List.nil_append]
       exact Trc.done _ _ _; exact rfl)
      refine rnd_n (i + 1) ⟨by omega, by rw [hj, ← g2, fIx_miss hd hq]⟩ (by omega) ?_
      (apply Le.mk3' []; apply RnT3.c; exact rfl; apply Rn3.r; exact Rn.v rfl; apply RnT3.c; exact rfl; apply Rn3.r; exact Rn.pt rfl rfl; apply RnT3.c; exact rfl
       apply Rn3.r; exact Rn.pt rfl rfl; apply RnT3.c; exact rfl; apply Rn3.r; exact Rn.pt rfl rfl; exact RnT3.n; apply RnH3.c; exact rfl; exact rfl; apply RnC.cl
       rfl; exact inferInstance; exact rfl; exact rfl; apply RnH3.c; exact rfl; exact rfl; apply RnC.cl; rfl; exact inferInstance; exact rfl; exact rfl; apply RnH3.c
       exact rfl; exact rfl; apply RnC.cl; rfl; exact inferInstance; exact rfl; exact rfl; exact RnH3.n; exact rfl)
  · have hge : ¬ i < s.applied.length := of_decide_eq_false h
    rw [List.drop_of_length_le (by omega)] at g2
    simp only [fIx] at g2
    omega
omit hS in
theorem refProveApplied_no (s : Stt) (hs : Sm s) (n : UInt64) (hj : fIx (fun x => n == x) s.applied 0 = -1) : Fresh Tryz.prog 10 [stA s, .v (.agg (nameC n))] (fun _ => .tp [.v (.agg #[.int .i64 0, .int .i64 0, .slice none 0 0]), .v (.int .i64 6)]) [] := by
  obtain ⟨h1, h2, h3, h4⟩ := hs
  have hno : ∀ a ∈ s.applied, (n == a) = false := by
    rcases fIx_cases (fun x => n == x) s.applied with ⟨_, _, _, q⟩ | ⟨j, e, f1, f2, f3, f4, f5, f6⟩
    · exact q
    · rw [f4] at hj; omega
  unfold stA
  refine Fresh.of (fn := Tryz.f10) Tryz.func10 rfl (Nat.le_of_ble_eq_true rfl) fun w => ?_
  (refine Gol.seq ?_; apply Gol.region; apply Trc.stp rfl rfl rfl; apply s_box; exact rfl
   exact rfl; dsimp only [Nat.reduceAdd, Nat.reduceMul, Nat.reduceSub, List.nil_append, List.cons_append, nbk, List.map_cons, List.map_nil]; apply Trc.stp rfl rfl rfl; apply s_box; exact rfl; exact rfl; dsimp only [Nat.reduceAdd, Nat.reduceMul, Nat.reduceSub, List.nil_append, List.cons_append, nbk, List.map_cons, List.map_nil]
   apply Trc.stp rfl rfl rfl; apply s_alloc; dsimp only [Nat.reduceAdd, Nat.reduceMul, Nat.reduceSub, List.nil_append, List.cons_append, nbk, List.map_cons, List.map_nil]
   apply Trc.stp rfl rfl rfl; apply s_assign; exact rfl; dsimp only [Nat.reduceAdd, Nat.reduceMul, List.nil_append]
   exact Trc.done _ _ _; exact rfl; refine thn_n ?_; refine Gol.seq ?_; refine Gol.seq ?_; apply Gol.region
   apply Trc.stp rfl rfl rfl; apply s_assign; exact rfl; dsimp only [Nat.reduceAdd, Nat.reduceMul, List.nil_append]
   exact Trc.done _ _ _; exact rfl; refine thn_n ?_; refine Gol.block ?_)
  refine Gol.loop (ι := Nat) (fun i => i ≤ s.applied.length ∧ fIx (fun x => n == x) (s.applied.drop i) i = fIx (fun x => n == x) s.applied 0) (fun i => s.applied.length - i) 1000 (fun _ => [(0, some ⟨[.ex s.cells.length false (dsA s.cells), .ex s.seqs.length false (inA s.seqs), .ex s.locks.length false (lsA s.locks), .ex s.applied.length false (byA (flat s.applied)), .v (.int .i64 s.guilty)], 28, 5⟩), (8, some ⟨cu (.v (.agg (nameC n))), 30, 8⟩), (16, some ⟨[.v (.int .i64 0), .v (.int .i64 0), .v (.slice none 0 0)], 36, 3⟩)]) (fun i => [(6, .v (.int .i64 (i : Int))), (2, .pt 0 0), (3, .pt 8 0), (4, .pt 16 0)]) 0 ⟨Nat.zero_le _, rfl⟩ ?_ ?_
  · (apply Le.mk3' []; apply RnT3.c; exact rfl; apply Rn3.r; exact Rn.v rfl; apply RnT3.c; exact rfl; apply Rn3.r; exact Rn.pt rfl rfl; apply RnT3.c; exact rfl
     apply Rn3.r; exact Rn.pt rfl rfl; apply RnT3.c; exact rfl; apply Rn3.r; exact Rn.pt rfl rfl; exact RnT3.n; apply RnH3.c; exact rfl; exact rfl; apply RnC.cl
     rfl; exact inferInstance; exact rfl; exact rfl; apply RnH3.c; exact rfl; exact rfl; apply RnC.cl; rfl; exact inferInstance; exact rfl; exact rfl; apply RnH3.c
     exact rfl; exact rfl; apply RnC.cl; rfl; exact inferInstance; exact rfl; exact rfl; exact RnH3.n; exact rfl)
  rintro i ⟨g1, g2⟩
  (refine Gol.seq ?_; refine Gol.seq ?_; apply Gol.region; apply Trc.stp rfl rfl rfl; apply s_move
   exact rfl; dsimp only [Nat.reduceAdd, Nat.reduceMul, List.nil_append]; apply Trc.stp rfl rfl rfl; apply s_fieldAddr; exact rfl; dsimp only [Nat.reduceAdd, Nat.reduceMul, List.nil_append]
   apply Trc.stp rfl rfl rfl; apply s_load; exact rfl; exact rfl; exact rfl; dsimp only [Nat.reduceAdd, Nat.reduceMul, List.nil_append]
   apply Trc.stp rfl rfl rfl; apply s_len; exact rfl; exact ln_ex; dsimp only [Nat.reduceAdd, Nat.reduceMul, List.nil_append]
   apply Trc.stp rfl rfl rfl; apply s_ltn; exact rfl; exact rfl; dsimp only [Nat.reduceAdd, Nat.reduceMul, List.nil_append]
   exact Trc.done _ _ _; exact rfl; refine thn_n ?_)
  refine Gol.cond rfl (fun h => ?_) (fun h => ?_)
  · have hlt : i < s.applied.length := of_decide_eq_true h
    have hd : s.applied[i]? = some (s.applied.getD i 0) := by rw [List.getD_eq_getElem?_getD, List.getElem?_eq_getElem hlt]; rfl
    have hq := hno _ (List.mem_of_getElem? hd)
    have hq' : (s.applied.getD i 0 == n) = false := by rw [beq_eq_false_iff_ne] at hq ⊢; exact fun e => hq e.symm
    (refine Gol.skip ?_; refine thn_n ?_; refine Gol.seq ?_; refine Gol.block ?_; refine Gol.seq ?_
     apply Gol.any; kernel_rfl; apply Trc.stp rfl rfl rfl; apply s_fieldAddr; exact rfl; dsimp only [Nat.reduceAdd, Nat.reduceMul, List.nil_append]
     apply Trc.stp rfl rfl rfl; apply s_load; exact rfl; exact rfl; exact rfl; dsimp only [Nat.reduceAdd, Nat.reduceMul, List.nil_append]
     apply Trc.stp rfl rfl rfl; apply s_move; exact rfl; dsimp only [Nat.reduceAdd, Nat.reduceMul, List.nil_append]
     apply Trc.stp rfl rfl rfl; apply s_ixe; exact rfl; exact rfl; omega; exact flat_ne (by omega); dsimp only [Nat.reduceAdd, Nat.reduceMul, List.nil_append]
     apply Trc.stp rfl rfl rfl; apply s_loadEN; exact rfl; simp only [byA_length, List.length_append, List.length_cons, List.length_nil, List.length_take, List.length_drop, List.length_replicate, List.length_map, Nat.mul_one, nameB_length, flat_length, List.length_set, inA_length, dsA_length, lsA_length, dA_length, lA_length] <;> omega
     exact agu_nm (by omega); dsimp only [Nat.reduceAdd, Nat.reduceMul, List.nil_append]
     apply Trc.stp rfl rfl rfl; apply s_loadW; exact rfl; exact rfl; exact rfl; exact agu_cuv _; dsimp only [Nat.reduceAdd, Nat.reduceMul, List.nil_append]
     apply Trc.stp rfl rfl rfl; apply s_eqN; exact rfl; exact rfl; dsimp only [Nat.reduceAdd, Nat.reduceMul, List.nil_append]
     exact Trc.done _ _ _; kernel_rfl; exact rfl; refine thn_n ?_)
    refine Gol.cond_f rfl hq' ?_
    (refine Gol.skip ?_; refine inBlk_n ?_; refine thn_n ?_; apply Gol.region; apply Trc.stp rfl rfl rfl; apply s_move; exact rfl; dsimp only [Nat.reduceAdd, Nat.reduceMul, List.nil_append]
     apply Trc.stp rfl rfl rfl; apply s_addn; exact rfl; exact rfl; simp <;> omega; dsimp only [Nat.reduceAdd, Nat.reduceMul, List.nil_append]
     apply Trc.stp rfl rfl rfl; apply s_assign; exact rfl; dsimp only [Nat.reduceAdd, Nat.reduceMul, List.nil_append]
     exact Trc.done _ _ _; exact rfl)
    refine rnd_n (i + 1) ⟨by omega, by rw [← g2, fIx_miss hd hq]⟩ (by omega) ?_
    (apply Le.mk3' []; apply RnT3.c; exact rfl; apply Rn3.r; exact Rn.v rfl; apply RnT3.c; exact rfl; apply Rn3.r; exact Rn.pt rfl rfl; apply RnT3.c; exact rfl
     apply Rn3.r; exact Rn.pt rfl rfl; apply RnT3.c; exact rfl; apply Rn3.r; exact Rn.pt rfl rfl; exact RnT3.n; apply RnH3.c; exact rfl; exact rfl; apply RnC.cl
     rfl; exact inferInstance; exact rfl; exact rfl; apply RnH3.c; exact rfl; exact rfl; apply RnC.cl; rfl; exact inferInstance; exact rfl; exact rfl; apply RnH3.c
     exact rfl; exact rfl; apply RnC.cl; rfl; exact inferInstance; exact rfl; exact rfl; exact RnH3.n; exact rfl)
  · (refine Gol.exit ?_; refine thn_x ?_; refine rnd_x ?_; refine inBlk_hit ?_; refine thn_n ?_
     refine Gol.seq ?_; apply Gol.region; apply Trc.stp rfl rfl rfl; apply s_zero; dsimp only [Nat.reduceAdd, Nat.reduceMul, Nat.reduceSub, List.nil_append, List.cons_append, nbk, List.map_cons, List.map_nil]
     apply Trc.stepN rfl rfl; exact wnt_n rfl; apply s_storeW; exact rfl; exact rfl; exact rfl; exact rfl; rfl; exact rfl; dsimp only [Nat.reduceAdd, Nat.reduceMul, Nat.reduceSub, List.nil_append, List.cons_append, nbk, List.map_cons, List.map_nil]
     apply Trc.stp rfl rfl rfl; apply s_assign; exact rfl; dsimp only [Nat.reduceAdd, Nat.reduceMul, List.nil_append]
     exact Trc.done _ _ _; exact rfl; refine thn_n ?_; refine Gol.ret ?_)
    (apply RetQ.mk (by first | exact .inr rfl | exact .inl rfl); apply res_2 rfl; exact res_cell rfl rfl rfl (agu_cuv _); exact res_tmp rfl; exact out_val)
end
theorem sameInc_ok (i n : Int) (p : List UInt64) (f g : Bool) (hp : p.length ≤ 10000000) : Fresh Tryz.prog 11 [.ag [.v (.int .i64 i), .v (.int .i64 n), .ex p.length f (byA (flat p))], .ag [.v (.int .i64 i), .v (.int .i64 n), .ex p.length g (byA (flat p))]] (fun _ => .v (.bool true)) [] := by
  have e1 : decide (i = i) = true := by simp
  have e2 : decide (n = n) = true := by simp
  refine Fresh.of (fn := Tryz.f11) Tryz.func11 rfl (Nat.le_of_ble_eq_true rfl) fun w => ?_
  (refine Gol.seq ?_; apply Gol.region; apply Trc.stp rfl rfl rfl; apply s_box; exact rfl
   exact rfl; dsimp only [Nat.reduceAdd, Nat.reduceMul, Nat.reduceSub, List.nil_append, List.cons_append, nbk, List.map_cons, List.map_nil]; apply Trc.stp rfl rfl rfl; apply s_box; exact rfl; exact rfl; dsimp only [Nat.reduceAdd, Nat.reduceMul, Nat.reduceSub, List.nil_append, List.cons_append, nbk, List.map_cons, List.map_nil]
   apply Trc.stp rfl rfl rfl; apply s_assign; exact rfl; dsimp only [Nat.reduceAdd, Nat.reduceMul, List.nil_append]
   exact Trc.done _ _ _; exact rfl; refine thn_n ?_; refine Gol.seq ?_; apply Gol.region; apply Trc.stp rfl rfl rfl; apply s_fieldAddr; exact rfl; dsimp only [Nat.reduceAdd, Nat.reduceMul, List.nil_append]
   apply Trc.stp rfl rfl rfl; apply s_load; exact rfl; exact rfl; exact rfl; dsimp only [Nat.reduceAdd, Nat.reduceMul, List.nil_append]
   apply Trc.stp rfl rfl rfl; apply s_fieldAddr; exact rfl; dsimp only [Nat.reduceAdd, Nat.reduceMul, List.nil_append]
   apply Trc.stp rfl rfl rfl; apply s_load; exact rfl; exact rfl; exact rfl; dsimp only [Nat.reduceAdd, Nat.reduceMul, List.nil_append]
   apply Trc.stp rfl rfl rfl; apply s_eq; exact rfl; exact rfl; dsimp only [Nat.reduceAdd, Nat.reduceMul, List.nil_append]
   apply Trc.stp rfl rfl rfl; apply s_move; exact rfl; dsimp only [Nat.reduceAdd, Nat.reduceMul, List.nil_append]
   apply Trc.step rfl rfl; apply wnt_g; exact rfl; exact rfl; exact rfl; (focus (simp only [*]; rfl)); apply s_fieldAddr; exact rfl; dsimp only [Nat.reduceAdd, Nat.reduceMul, List.nil_append]
   apply Trc.step rfl rfl; apply wnt_g; exact rfl; exact rfl; exact rfl; (focus (simp only [*]; rfl)); apply s_load; exact rfl; exact rfl
   exact rfl; dsimp only [Nat.reduceAdd, Nat.reduceMul, List.nil_append]; apply Trc.step rfl rfl
   apply wnt_g; exact rfl; exact rfl; exact rfl; (focus (simp only [*]; rfl)); apply s_fieldAddr; exact rfl; dsimp only [Nat.reduceAdd, Nat.reduceMul, List.nil_append]
   apply Trc.step rfl rfl; apply wnt_g; exact rfl; exact rfl; exact rfl; (focus (simp only [*]; rfl)); apply s_load; exact rfl; exact rfl
   exact rfl; dsimp only [Nat.reduceAdd, Nat.reduceMul, List.nil_append]; apply Trc.step rfl rfl
   apply wnt_g; exact rfl; exact rfl; exact rfl; (focus (simp only [*]; rfl)); apply s_eq; exact rfl; exact rfl; dsimp only [Nat.reduceAdd, Nat.reduceMul, List.nil_append]
   apply Trc.stp rfl rfl rfl; apply s_pick_t; exact rfl; assumption; exact rfl; dsimp only [Nat.reduceAdd, Nat.reduceMul, List.nil_append]
   apply Trc.stp rfl rfl rfl; apply s_move; exact rfl; dsimp only [Nat.reduceAdd, Nat.reduceMul, List.nil_append]
   apply Trc.step rfl rfl; apply wnt_g; exact rfl; exact rfl; exact rfl; (focus (simp only [*]; rfl)); apply s_fieldAddr; exact rfl; dsimp only [Nat.reduceAdd, Nat.reduceMul, List.nil_append]
   apply Trc.step rfl rfl; apply wnt_g; exact rfl; exact rfl; exact rfl; (focus (simp only [*]; rfl)); apply s_load; exact rfl; exact rfl
   exact rfl; dsimp only [Nat.reduceAdd, Nat.reduceMul, List.nil_append]; apply Trc.step rfl rfl
   apply wnt_g; exact rfl; exact rfl; exact rfl; (focus (simp only [*]; rfl)); apply s_fieldAddr; exact rfl; dsimp only [Nat.reduceAdd, Nat.reduceMul, List.nil_append]
   apply Trc.step rfl rfl; apply wnt_g; exact rfl; exact rfl; exact rfl; (focus (simp only [*]; rfl)); apply s_load; exact rfl; exact rfl
   exact rfl; dsimp only [Nat.reduceAdd, Nat.reduceMul, List.nil_append]; apply Trc.step rfl rfl
   apply wnt_g; exact rfl; exact rfl; exact rfl; (focus (simp only [*]; rfl)); apply s_call (f := 38) rfl; apply evs.cons rfl
   apply evs.cons rfl; exact evs.nil; apply ArgL.cons; exact arg_clo; apply ArgL.cons; exact arg_clo; exact ArgL.nil; exact sameN_ok p _ _ hp; exact Nat.le_of_ble_eq_true rfl
   dsimp only [Nat.reduceAdd, Nat.reduceMul, Nat.reduceSub, List.nil_append, List.cons_append, nbk, List.map_cons, List.map_nil]; apply Trc.stp rfl rfl rfl; apply s_pick_t; exact rfl; assumption; exact rfl; dsimp only [Nat.reduceAdd, Nat.reduceMul, List.nil_append]
   apply Trc.stp rfl rfl rfl; apply s_assign; exact rfl; dsimp only [Nat.reduceAdd, Nat.reduceMul, List.nil_append]
   exact Trc.done _ _ _; exact rfl; refine thn_n ?_; refine Gol.ret ?_)
  (apply RetQ.mk (by first | exact .inr rfl | exact .inl rfl); apply res_1 rfl; exact res_tmp rfl; exact out_val)
theorem sameN0_ok : Fresh Tryz.prog 38 [.v (.slice none 0 0), .v (.slice none 0 0)] (fun _ => .v (.bool true)) [] := by
  refine (sameN_ok [] false false (by decide)).sub fun E xs h => ?_
  obtain ⟨x, zs, rfl, h1, h⟩ := h.cons_inv
  obtain ⟨y, zs, rfl, h2, h⟩ := h.cons_inv
  exact RVs.cons (rv_nil h1) (RVs.cons (rv_nil h2) h)
theorem sameInc0_ok : Fresh Tryz.prog 11 [.v (.agg #[.int .i64 0, .int .i64 0, .slice none 0 0]), .v (.agg #[.int .i64 0, .int .i64 0, .slice none 0 0])] (fun _ => .v (.bool true)) [] := by
  refine Fresh.of (fn := Tryz.f11) Tryz.func11 rfl (Nat.le_of_ble_eq_true rfl) fun w => ?_
  (refine Gol.seq ?_; apply Gol.region; apply Trc.stp rfl rfl rfl; apply s_box; exact rfl
   exact rfl; dsimp only [Nat.reduceAdd, Nat.reduceMul, Nat.reduceSub, List.nil_append, List.cons_append, nbk, List.map_cons, List.map_nil]; apply Trc.stp rfl rfl rfl; apply s_box; exact rfl; exact rfl; dsimp only [Nat.reduceAdd, Nat.reduceMul, Nat.reduceSub, List.nil_append, List.cons_append, nbk, List.map_cons, List.map_nil]
   apply Trc.stp rfl rfl rfl; apply s_assign; exact rfl; dsimp only [Nat.reduceAdd, Nat.reduceMul, List.nil_append]
   exact Trc.done _ _ _; exact rfl; refine thn_n ?_; refine Gol.seq ?_; apply Gol.region; apply Trc.stp rfl rfl rfl; apply s_fieldAddr; exact rfl; dsimp only [Nat.reduceAdd, Nat.reduceMul, List.nil_append]
   apply Trc.stp rfl rfl rfl; apply s_load; exact rfl; exact rfl; exact rfl; dsimp only [Nat.reduceAdd, Nat.reduceMul, List.nil_append]
   apply Trc.stp rfl rfl rfl; apply s_fieldAddr; exact rfl; dsimp only [Nat.reduceAdd, Nat.reduceMul, List.nil_append]
   apply Trc.stp rfl rfl rfl; apply s_load; exact rfl; exact rfl; exact rfl; dsimp only [Nat.reduceAdd, Nat.reduceMul, List.nil_append]
   apply Trc.stp rfl rfl rfl; apply s_eqn; exact rfl; exact rfl; dsimp only [Nat.reduceAdd, Nat.reduceMul, List.nil_append]
   apply Trc.stp rfl rfl rfl; apply s_move; exact rfl; dsimp only [Nat.reduceAdd, Nat.reduceMul, List.nil_append]
   apply Trc.step rfl rfl; apply wnt_g; exact rfl; exact rfl; exact rfl; rfl; apply s_fieldAddr; exact rfl; dsimp only [Nat.reduceAdd, Nat.reduceMul, List.nil_append]
   apply Trc.step rfl rfl; apply wnt_g; exact rfl; exact rfl; exact rfl; rfl; apply s_load; exact rfl; exact rfl; exact rfl; dsimp only [Nat.reduceAdd, Nat.reduceMul, List.nil_append]
   apply Trc.step rfl rfl; apply wnt_g; exact rfl; exact rfl; exact rfl; rfl; apply s_fieldAddr; exact rfl; dsimp only [Nat.reduceAdd, Nat.reduceMul, List.nil_append]
   apply Trc.step rfl rfl; apply wnt_g; exact rfl; exact rfl; exact rfl; rfl; apply s_load; exact rfl; exact rfl; exact rfl; dsimp only [Nat.reduceAdd, Nat.reduceMul, List.nil_append]
   apply Trc.step rfl rfl; apply wnt_g; exact rfl; exact rfl; exact rfl; rfl; apply s_eqn; exact rfl; exact rfl; dsimp only [Nat.reduceAdd, Nat.reduceMul, List.nil_append]
   apply Trc.stp rfl rfl rfl; apply s_pick_t; exact rfl; rfl; exact rfl; dsimp only [Nat.reduceAdd, Nat.reduceMul, List.nil_append]
   apply Trc.stp rfl rfl rfl; apply s_move; exact rfl; dsimp only [Nat.reduceAdd, Nat.reduceMul, List.nil_append]
   apply Trc.step rfl rfl; apply wnt_g; exact rfl; exact rfl; exact rfl; rfl; apply s_fieldAddr; exact rfl; dsimp only [Nat.reduceAdd, Nat.reduceMul, List.nil_append]
   apply Trc.step rfl rfl; apply wnt_g; exact rfl; exact rfl; exact rfl; rfl; apply s_load; exact rfl; exact rfl; exact rfl; dsimp only [Nat.reduceAdd, Nat.reduceMul, List.nil_append]
   apply Trc.step rfl rfl; apply wnt_g; exact rfl; exact rfl; exact rfl; rfl; apply s_fieldAddr; exact rfl; dsimp only [Nat.reduceAdd, Nat.reduceMul, List.nil_append]
   apply Trc.step rfl rfl; apply wnt_g; exact rfl; exact rfl; exact rfl; rfl; apply s_load; exact rfl; exact rfl; exact rfl; dsimp only [Nat.reduceAdd, Nat.reduceMul, List.nil_append]
   apply Trc.step rfl rfl; apply wnt_g; exact rfl; exact rfl; exact rfl; rfl; apply s_call (f := 38) rfl; apply evs.cons rfl
   apply evs.cons rfl; exact evs.nil; apply ArgL.cons; exact arg_clo; apply ArgL.cons; exact arg_clo; exact ArgL.nil; exact sameN0_ok; exact Nat.le_of_ble_eq_true rfl
   dsimp only [Nat.reduceAdd, Nat.reduceMul, Nat.reduceSub, List.nil_append, List.cons_append, nbk, List.map_cons, List.map_nil]; apply Trc.stp rfl rfl rfl; apply s_pick_t; exact rfl; rfl; exact rfl; dsimp only [Nat.reduceAdd, Nat.reduceMul, List.nil_append]
   apply Trc.stp rfl rfl rfl; apply s_assign; exact rfl; dsimp only [Nat.reduceAdd, Nat.reduceMul, List.nil_append]
   exact Trc.done _ _ _; exact rfl; refine thn_n ?_; refine Gol.ret ?_)
  (apply RetQ.mk (by first | exact .inr rfl | exact .inl rfl); apply res_1 rfl; exact res_tmp rfl; exact out_val)
end Go.Proofs.YtkkeeokeihkagaaGreat


/-
  Layer 21: Validate accepts a valid state. Conditions: lengths below 2^17.
-/
namespace Go.Proofs.YtkkeeokeihkagaaGreat
open Go.RowKit

def okCell (k i : Int) (n : UInt64) : Prop := (k = 1 ∧ 0 ≤ i ∧ i ≤ 15 ∧ n = 0) ∨ (k = 2 ∧ i = 0) ∨ (k = 3 ∧ 0 ≤ i ∧ i ≤ 9 ∧ n = 0) ∨ (k = 4 ∧ i = 0 ∧ n = 0)
def okEnt (d : Dl) : Prop := okCell d.k d.i d.n ∧ d.a ≠ 0 ∧ -1125899906842624 ≤ d.a ∧ d.a ≤ 1125899906842624
def okLk (d : Lk) : Prop := 0 ≤ d.o ∧ d.o ≤ 15 ∧ 0 ≤ d.t ∧ d.t ≤ 15 ∧ 1 ≤ d.u ∧ d.u ≤ 1000
/-- each element and the next -/
def Asc {α : Type} (r : α → α → Prop) (l : List α) : Prop := ∀ (i : Nat) x y, l[i]? = some x → l[i + 1]? = some y → r x y
def ltD (x y : Dl) : Prop := cmpC x.k x.i x.n y.k y.i y.n < 0
structure ValidS (s : Stt) : Prop where
  ent : ∀ d ∈ s.cells, okEnt d
  asc : Asc ltD s.cells
  q1 : 1 ≤ s.seqs.length
  q16 : s.seqs.length ≤ 16
  sq : ∀ q ∈ s.seqs, 0 ≤ q ∧ q ≤ 32
  lk : ∀ d ∈ s.locks, okLk d
  ascL : Asc (fun x y : Lk => cmpN x.n y.n < 0) s.locks
  ascA : Asc (fun x y : UInt64 => cmpN x y < 0) s.applied
  g0 : 0 ≤ s.guilty
  g1 : s.guilty ≤ 1023
theorem validCell_yes (k i : Int) (n : UInt64) (h : okCell k i n) : Fresh Tryz.prog 57 [.v (.agg (cellC k i n))] (fun _ => .v (.bool true)) [] := by
  rcases h with ⟨rfl, h1, h2, rfl⟩ | ⟨rfl, rfl⟩ | ⟨rfl, h1, h2, rfl⟩ | ⟨rfl, rfl, rfl⟩
  · apply Fresh.bool
    · refine Fresh.of (fn := Tryz.f57) Tryz.func57 rfl (Nat.le_of_ble_eq_true rfl) fun w => ?_
      (refine Gol.seq ?_; apply Gol.region; apply Trc.stp rfl rfl rfl; apply s_box; exact rfl
       exact rfl; dsimp only [Nat.reduceAdd, Nat.reduceMul, Nat.reduceSub, List.nil_append, List.cons_append, nbk, List.map_cons, List.map_nil]; apply Trc.stp rfl rfl rfl; apply s_assign; exact rfl; dsimp only [Nat.reduceAdd, Nat.reduceMul, List.nil_append]
       exact Trc.done _ _ _; exact rfl; refine thn_n ?_; refine Gol.seq ?_; apply Gol.region; apply Trc.stp rfl rfl rfl; apply s_assign; exact rfl; dsimp only [Nat.reduceAdd, Nat.reduceMul, List.nil_append]
       exact Trc.done _ _ _; exact rfl; refine thn_n ?_; refine Gol.seq ?_; refine Gol.seq ?_; apply Gol.region
       apply Trc.stp rfl rfl rfl; apply s_fieldAddr; exact rfl; dsimp only [Nat.reduceAdd, Nat.reduceMul, List.nil_append]
       apply Trc.stp rfl rfl rfl; apply s_load; exact rfl; exact rfl; exact rfl; dsimp only [Nat.reduceAdd, Nat.reduceMul, List.nil_append]
       exact Trc.done _ _ _; exact rfl; refine thn_n ?_; refine Gol.block ?_; refine Gol.seq ?_; apply Gol.region
       apply Trc.stp rfl rfl rfl; apply s_eqn; exact rfl; exact rfl; dsimp only [Nat.reduceAdd, Nat.reduceMul, List.nil_append]
       apply Trc.stp rfl rfl rfl; apply s_assign; exact rfl; dsimp only [Nat.reduceAdd, Nat.reduceMul, List.nil_append]
       exact Trc.done _ _ _; exact rfl; refine thn_n ?_)
      refine Gol.cond_t rfl (by decide) ?_
      (apply Gol.region; apply Trc.stp rfl rfl rfl; apply s_assign; exact rfl; dsimp only [Nat.reduceAdd, Nat.reduceMul, List.nil_append]
       exact Trc.done _ _ _; exact rfl; refine inBlk_n ?_; refine thn_n ?_; refine Gol.seq ?_; apply Gol.region
       apply Trc.stp rfl rfl rfl; apply s_fieldAddr; exact rfl; dsimp only [Nat.reduceAdd, Nat.reduceMul, List.nil_append]
       apply Trc.stp rfl rfl rfl; apply s_load; exact rfl; exact rfl; exact rfl; dsimp only [Nat.reduceAdd, Nat.reduceMul, List.nil_append]
       apply Trc.stp rfl rfl rfl; apply s_ge; exact rfl; exact rfl; dsimp only [Nat.reduceAdd, Nat.reduceMul, List.nil_append]
       apply Trc.stp rfl rfl rfl; apply s_move; exact rfl; dsimp only [Nat.reduceAdd, Nat.reduceMul, List.nil_append]
       apply Trc.step rfl rfl; apply wnt_g; exact rfl; exact rfl; exact rfl; (focus (simp only [*]; rfl)); apply s_fieldAddr; exact rfl; dsimp only [Nat.reduceAdd, Nat.reduceMul, List.nil_append]
       apply Trc.step rfl rfl; apply wnt_g; exact rfl; exact rfl; exact rfl; (focus (simp only [*]; rfl)); apply s_load; exact rfl; exact rfl
       exact rfl; dsimp only [Nat.reduceAdd, Nat.reduceMul, List.nil_append]; apply Trc.step rfl rfl
       apply wnt_g; exact rfl; exact rfl; exact rfl; (focus (simp only [*]; rfl)); apply s_move; exact rfl; dsimp only [Nat.reduceAdd, Nat.reduceMul, List.nil_append]
       apply Trc.step rfl rfl; apply wnt_g; exact rfl; exact rfl; exact rfl; (focus (simp only [*]; rfl)); apply s_le; exact rfl; exact rfl
       dsimp only [Nat.reduceAdd, Nat.reduceMul, List.nil_append]; apply Trc.stp rfl rfl rfl; apply s_pick_t; exact rfl; (focus (simp only [*]; rfl)); exact rfl; dsimp only [Nat.reduceAdd, Nat.reduceMul, List.nil_append]
       apply Trc.stp rfl rfl rfl; apply s_move; exact rfl; dsimp only [Nat.reduceAdd, Nat.reduceMul, List.nil_append]
       apply Trc.step rfl rfl; apply wnt_g; exact rfl; exact rfl; exact rfl; (focus (simp only [*]; rfl)); apply s_fieldAddr; exact rfl; dsimp only [Nat.reduceAdd, Nat.reduceMul, List.nil_append]
       apply Trc.step rfl rfl; apply wnt_g; exact rfl; exact rfl; exact rfl; (focus (simp only [*]; rfl)); apply s_load; exact rfl; exact rfl
       exact rfl; dsimp only [Nat.reduceAdd, Nat.reduceMul, List.nil_append]; apply Trc.step rfl rfl
       apply wnt_g; exact rfl; exact rfl; exact rfl; (focus (simp only [*]; rfl)); apply s_eqn; exact rfl; exact rfl; dsimp only [Nat.reduceAdd, Nat.reduceMul, List.nil_append]
       apply Trc.step rfl rfl; apply wnt_g; exact rfl; exact rfl; exact rfl; (focus (simp only [*]; rfl)); apply s_move; exact rfl; dsimp only [Nat.reduceAdd, Nat.reduceMul, List.nil_append]
       apply Trc.step rfl rfl; apply wnt_g; exact rfl; exact rfl; exact rfl; rfl; apply s_fieldAddr; exact rfl; dsimp only [Nat.reduceAdd, Nat.reduceMul, List.nil_append]
       apply Trc.step rfl rfl; apply wnt_g; exact rfl; exact rfl; exact rfl; rfl; apply s_loadN; exact rfl; exact rfl; exact Nat.le_of_ble_eq_true rfl
       exact agu_nm8 rfl; dsimp only [Nat.reduceAdd, Nat.reduceMul, List.nil_append]; apply Trc.step rfl rfl
       apply wnt_g; exact rfl; exact rfl; exact rfl; rfl; apply s_zero; dsimp only [Nat.reduceAdd, Nat.reduceMul, Nat.reduceSub, List.nil_append, List.cons_append, nbk, List.map_cons, List.map_nil]
       apply Trc.step rfl rfl; apply wnt_g; exact rfl; exact rfl; exact rfl; rfl; apply s_eqN; exact rfl; exact rfl; dsimp only [Nat.reduceAdd, Nat.reduceMul, List.nil_append]
       apply Trc.step rfl rfl; apply wnt_g; exact rfl; exact rfl; exact rfl; (focus (simp only [*]; rfl)); apply s_pick_f; exact rfl; rfl; exact rfl
       dsimp only [Nat.reduceAdd, Nat.reduceMul, List.nil_append]; apply Trc.stp rfl rfl rfl; apply s_pick_t; exact rfl; (focus (simp only [*]; rfl)); exact rfl; dsimp only [Nat.reduceAdd, Nat.reduceMul, List.nil_append]
       apply Trc.stp rfl rfl rfl; apply s_assign; exact rfl; dsimp only [Nat.reduceAdd, Nat.reduceMul, List.nil_append]
       exact Trc.done _ _ _; exact rfl; refine thn_n ?_; refine Gol.ret ?_)
      (apply RetQ.mk (by first | exact .inr rfl | exact .inl rfl); apply res_1 rfl; exact res_tmp rfl; exact out_val)
    · simp
  · apply Fresh.bool
    · refine Fresh.of (fn := Tryz.f57) Tryz.func57 rfl (Nat.le_of_ble_eq_true rfl) fun w => ?_
      (refine Gol.seq ?_; apply Gol.region; apply Trc.stp rfl rfl rfl; apply s_box; exact rfl
       exact rfl; dsimp only [Nat.reduceAdd, Nat.reduceMul, Nat.reduceSub, List.nil_append, List.cons_append, nbk, List.map_cons, List.map_nil]; apply Trc.stp rfl rfl rfl; apply s_assign; exact rfl; dsimp only [Nat.reduceAdd, Nat.reduceMul, List.nil_append]
       exact Trc.done _ _ _; exact rfl; refine thn_n ?_; refine Gol.seq ?_; apply Gol.region; apply Trc.stp rfl rfl rfl; apply s_assign; exact rfl; dsimp only [Nat.reduceAdd, Nat.reduceMul, List.nil_append]
       exact Trc.done _ _ _; exact rfl; refine thn_n ?_; refine Gol.seq ?_; refine Gol.seq ?_; apply Gol.region
       apply Trc.stp rfl rfl rfl; apply s_fieldAddr; exact rfl; dsimp only [Nat.reduceAdd, Nat.reduceMul, List.nil_append]
       apply Trc.stp rfl rfl rfl; apply s_load; exact rfl; exact rfl; exact rfl; dsimp only [Nat.reduceAdd, Nat.reduceMul, List.nil_append]
       exact Trc.done _ _ _; exact rfl; refine thn_n ?_; refine Gol.block ?_; refine Gol.seq ?_; apply Gol.region
       apply Trc.stp rfl rfl rfl; apply s_eqn; exact rfl; exact rfl; dsimp only [Nat.reduceAdd, Nat.reduceMul, List.nil_append]
       apply Trc.stp rfl rfl rfl; apply s_assign; exact rfl; dsimp only [Nat.reduceAdd, Nat.reduceMul, List.nil_append]
       exact Trc.done _ _ _; exact rfl; refine thn_n ?_)
      refine Gol.cond_f rfl (by decide) ?_
      (refine Gol.seq ?_; apply Gol.region; apply Trc.stp rfl rfl rfl; apply s_eqn; exact rfl
       exact rfl; dsimp only [Nat.reduceAdd, Nat.reduceMul, List.nil_append]; apply Trc.stp rfl rfl rfl; apply s_assign; exact rfl; dsimp only [Nat.reduceAdd, Nat.reduceMul, List.nil_append]
       exact Trc.done _ _ _; exact rfl; refine thn_n ?_)
      refine Gol.cond_f rfl (by decide) ?_
      (refine Gol.seq ?_; refine Gol.seq ?_; apply Gol.region; apply Trc.stp rfl rfl rfl; apply s_eqn
       exact rfl; exact rfl; dsimp only [Nat.reduceAdd, Nat.reduceMul, List.nil_append]; apply Trc.stp rfl rfl rfl; apply s_assign; exact rfl; dsimp only [Nat.reduceAdd, Nat.reduceMul, List.nil_append]
       exact Trc.done _ _ _; exact rfl; refine thn_n ?_)
      refine Gol.cond_t rfl (by decide) ?_
      (refine Gol.skip ?_; refine thn_n ?_)
      refine Gol.cond_t rfl (by decide) ?_
      (refine Gol.skip ?_; refine inBlk_n ?_; refine thn_n ?_; refine Gol.seq ?_; apply Gol.region
       apply Trc.stp rfl rfl rfl; apply s_fieldAddr; exact rfl; dsimp only [Nat.reduceAdd, Nat.reduceMul, List.nil_append]
       apply Trc.stp rfl rfl rfl; apply s_load; exact rfl; exact rfl; exact rfl; dsimp only [Nat.reduceAdd, Nat.reduceMul, List.nil_append]
       apply Trc.stp rfl rfl rfl; apply s_gen; exact rfl; exact rfl; dsimp only [Nat.reduceAdd, Nat.reduceMul, List.nil_append]
       apply Trc.stp rfl rfl rfl; apply s_move; exact rfl; dsimp only [Nat.reduceAdd, Nat.reduceMul, List.nil_append]
       apply Trc.step rfl rfl; apply wnt_g; exact rfl; exact rfl; exact rfl; rfl; apply s_fieldAddr; exact rfl; dsimp only [Nat.reduceAdd, Nat.reduceMul, List.nil_append]
       apply Trc.step rfl rfl; apply wnt_g; exact rfl; exact rfl; exact rfl; rfl; apply s_load; exact rfl; exact rfl; exact rfl; dsimp only [Nat.reduceAdd, Nat.reduceMul, List.nil_append]
       apply Trc.step rfl rfl; apply wnt_g; exact rfl; exact rfl; exact rfl; rfl; apply s_move; exact rfl; dsimp only [Nat.reduceAdd, Nat.reduceMul, List.nil_append]
       apply Trc.step rfl rfl; apply wnt_g; exact rfl; exact rfl; exact rfl; rfl; apply s_len'; exact rfl; exact rfl; dsimp only [Nat.reduceAdd, Nat.reduceMul, List.nil_append]
       apply Trc.stp rfl rfl rfl; apply s_pick_t; exact rfl; rfl; exact rfl; dsimp only [Nat.reduceAdd, Nat.reduceMul, List.nil_append]
       apply Trc.stp rfl rfl rfl; apply s_move; exact rfl; dsimp only [Nat.reduceAdd, Nat.reduceMul, List.nil_append]
       apply Trc.step rfl rfl; apply wnt_g; exact rfl; exact rfl; exact rfl; rfl; apply s_fieldAddr; exact rfl; dsimp only [Nat.reduceAdd, Nat.reduceMul, List.nil_append]
       apply Trc.step rfl rfl; apply wnt_g; exact rfl; exact rfl; exact rfl; rfl; apply s_load; exact rfl; exact rfl; exact rfl; dsimp only [Nat.reduceAdd, Nat.reduceMul, List.nil_append]
       apply Trc.step rfl rfl; apply wnt_g; exact rfl; exact rfl; exact rfl; rfl; apply s_eqn; exact rfl; exact rfl; dsimp only [Nat.reduceAdd, Nat.reduceMul, List.nil_append]
       apply Trc.step rfl rfl; apply wnt_g; exact rfl; exact rfl; exact rfl; rfl; apply s_move; exact rfl; dsimp only [Nat.reduceAdd, Nat.reduceMul, List.nil_append]
       apply Trc.skip rfl rfl; apply wnt_g; exact rfl; exact rfl; exact rfl; rfl; dsimp only [Nat.reduceAdd, Nat.reduceMul, List.nil_append]
       apply Trc.skip rfl rfl; apply wnt_g; exact rfl; exact rfl; exact rfl; rfl; dsimp only [Nat.reduceAdd, Nat.reduceMul, List.nil_append]
       apply Trc.skip rfl rfl; apply wnt_g; exact rfl; exact rfl; exact rfl; rfl; dsimp only [Nat.reduceAdd, Nat.reduceMul, List.nil_append]
       apply Trc.skip rfl rfl; apply wnt_g; exact rfl; exact rfl; exact rfl; rfl; dsimp only [Nat.reduceAdd, Nat.reduceMul, List.nil_append]
       apply Trc.step rfl rfl; apply wnt_g; exact rfl; exact rfl; exact rfl; rfl; apply s_pick_t; exact rfl; rfl; exact rfl; dsimp only [Nat.reduceAdd, Nat.reduceMul, List.nil_append]
       apply Trc.stp rfl rfl rfl; apply s_pick_t; exact rfl; rfl; exact rfl; dsimp only [Nat.reduceAdd, Nat.reduceMul, List.nil_append]
       apply Trc.stp rfl rfl rfl; apply s_assign; exact rfl; dsimp only [Nat.reduceAdd, Nat.reduceMul, List.nil_append]
       exact Trc.done _ _ _; exact rfl; refine thn_n ?_; refine Gol.ret ?_)
      (apply RetQ.mk (by first | exact .inr rfl | exact .inl rfl); apply res_1 rfl; exact res_tmp rfl; exact out_val)
    · simp
  · apply Fresh.bool
    · refine Fresh.of (fn := Tryz.f57) Tryz.func57 rfl (Nat.le_of_ble_eq_true rfl) fun w => ?_
      (refine Gol.seq ?_; apply Gol.region; apply Trc.stp rfl rfl rfl; apply s_box; exact rfl
       exact rfl; dsimp only [Nat.reduceAdd, Nat.reduceMul, Nat.reduceSub, List.nil_append, List.cons_append, nbk, List.map_cons, List.map_nil]; apply Trc.stp rfl rfl rfl; apply s_assign; exact rfl; dsimp only [Nat.reduceAdd, Nat.reduceMul, List.nil_append]
       exact Trc.done _ _ _; exact rfl; refine thn_n ?_; refine Gol.seq ?_; apply Gol.region; apply Trc.stp rfl rfl rfl; apply s_assign; exact rfl; dsimp only [Nat.reduceAdd, Nat.reduceMul, List.nil_append]
       exact Trc.done _ _ _; exact rfl; refine thn_n ?_; refine Gol.seq ?_; refine Gol.seq ?_; apply Gol.region
       apply Trc.stp rfl rfl rfl; apply s_fieldAddr; exact rfl; dsimp only [Nat.reduceAdd, Nat.reduceMul, List.nil_append]
       apply Trc.stp rfl rfl rfl; apply s_load; exact rfl; exact rfl; exact rfl; dsimp only [Nat.reduceAdd, Nat.reduceMul, List.nil_append]
       exact Trc.done _ _ _; exact rfl; refine thn_n ?_; refine Gol.block ?_; refine Gol.seq ?_; apply Gol.region
       apply Trc.stp rfl rfl rfl; apply s_eqn; exact rfl; exact rfl; dsimp only [Nat.reduceAdd, Nat.reduceMul, List.nil_append]
       apply Trc.stp rfl rfl rfl; apply s_assign; exact rfl; dsimp only [Nat.reduceAdd, Nat.reduceMul, List.nil_append]
       exact Trc.done _ _ _; exact rfl; refine thn_n ?_)
      refine Gol.cond_f rfl (by decide) ?_
      (refine Gol.seq ?_; apply Gol.region; apply Trc.stp rfl rfl rfl; apply s_eqn; exact rfl
       exact rfl; dsimp only [Nat.reduceAdd, Nat.reduceMul, List.nil_append]; apply Trc.stp rfl rfl rfl; apply s_assign; exact rfl; dsimp only [Nat.reduceAdd, Nat.reduceMul, List.nil_append]
       exact Trc.done _ _ _; exact rfl; refine thn_n ?_)
      refine Gol.cond_t rfl (by decide) ?_
      (apply Gol.region; apply Trc.stp rfl rfl rfl; apply s_assign; exact rfl; dsimp only [Nat.reduceAdd, Nat.reduceMul, List.nil_append]
       exact Trc.done _ _ _; exact rfl; refine inBlk_n ?_; refine thn_n ?_; refine Gol.seq ?_; apply Gol.region
       apply Trc.stp rfl rfl rfl; apply s_fieldAddr; exact rfl; dsimp only [Nat.reduceAdd, Nat.reduceMul, List.nil_append]
       apply Trc.stp rfl rfl rfl; apply s_load; exact rfl; exact rfl; exact rfl; dsimp only [Nat.reduceAdd, Nat.reduceMul, List.nil_append]
       apply Trc.stp rfl rfl rfl; apply s_ge; exact rfl; exact rfl; dsimp only [Nat.reduceAdd, Nat.reduceMul, List.nil_append]
       apply Trc.stp rfl rfl rfl; apply s_move; exact rfl; dsimp only [Nat.reduceAdd, Nat.reduceMul, List.nil_append]
       apply Trc.step rfl rfl; apply wnt_g; exact rfl; exact rfl; exact rfl; (focus (simp only [*]; rfl)); apply s_fieldAddr; exact rfl; dsimp only [Nat.reduceAdd, Nat.reduceMul, List.nil_append]
       apply Trc.step rfl rfl; apply wnt_g; exact rfl; exact rfl; exact rfl; (focus (simp only [*]; rfl)); apply s_load; exact rfl; exact rfl
       exact rfl; dsimp only [Nat.reduceAdd, Nat.reduceMul, List.nil_append]; apply Trc.step rfl rfl
       apply wnt_g; exact rfl; exact rfl; exact rfl; (focus (simp only [*]; rfl)); apply s_move; exact rfl; dsimp only [Nat.reduceAdd, Nat.reduceMul, List.nil_append]
       apply Trc.step rfl rfl; apply wnt_g; exact rfl; exact rfl; exact rfl; (focus (simp only [*]; rfl)); apply s_le; exact rfl; exact rfl
       dsimp only [Nat.reduceAdd, Nat.reduceMul, List.nil_append]; apply Trc.stp rfl rfl rfl; apply s_pick_t; exact rfl; (focus (simp only [*]; rfl)); exact rfl; dsimp only [Nat.reduceAdd, Nat.reduceMul, List.nil_append]
       apply Trc.stp rfl rfl rfl; apply s_move; exact rfl; dsimp only [Nat.reduceAdd, Nat.reduceMul, List.nil_append]
       apply Trc.step rfl rfl; apply wnt_g; exact rfl; exact rfl; exact rfl; (focus (simp only [*]; rfl)); apply s_fieldAddr; exact rfl; dsimp only [Nat.reduceAdd, Nat.reduceMul, List.nil_append]
       apply Trc.step rfl rfl; apply wnt_g; exact rfl; exact rfl; exact rfl; (focus (simp only [*]; rfl)); apply s_load; exact rfl; exact rfl
       exact rfl; dsimp only [Nat.reduceAdd, Nat.reduceMul, List.nil_append]; apply Trc.step rfl rfl
       apply wnt_g; exact rfl; exact rfl; exact rfl; (focus (simp only [*]; rfl)); apply s_eqn; exact rfl; exact rfl; dsimp only [Nat.reduceAdd, Nat.reduceMul, List.nil_append]
       apply Trc.step rfl rfl; apply wnt_g; exact rfl; exact rfl; exact rfl; (focus (simp only [*]; rfl)); apply s_move; exact rfl; dsimp only [Nat.reduceAdd, Nat.reduceMul, List.nil_append]
       apply Trc.step rfl rfl; apply wnt_g; exact rfl; exact rfl; exact rfl; rfl; apply s_fieldAddr; exact rfl; dsimp only [Nat.reduceAdd, Nat.reduceMul, List.nil_append]
       apply Trc.step rfl rfl; apply wnt_g; exact rfl; exact rfl; exact rfl; rfl; apply s_loadN; exact rfl; exact rfl; exact Nat.le_of_ble_eq_true rfl
       exact agu_nm8 rfl; dsimp only [Nat.reduceAdd, Nat.reduceMul, List.nil_append]; apply Trc.step rfl rfl
       apply wnt_g; exact rfl; exact rfl; exact rfl; rfl; apply s_zero; dsimp only [Nat.reduceAdd, Nat.reduceMul, Nat.reduceSub, List.nil_append, List.cons_append, nbk, List.map_cons, List.map_nil]
       apply Trc.step rfl rfl; apply wnt_g; exact rfl; exact rfl; exact rfl; rfl; apply s_eqN; exact rfl; exact rfl; dsimp only [Nat.reduceAdd, Nat.reduceMul, List.nil_append]
       apply Trc.step rfl rfl; apply wnt_g; exact rfl; exact rfl; exact rfl; (focus (simp only [*]; rfl)); apply s_pick_f; exact rfl; rfl; exact rfl
       dsimp only [Nat.reduceAdd, Nat.reduceMul, List.nil_append]; apply Trc.stp rfl rfl rfl; apply s_pick_t; exact rfl; (focus (simp only [*]; rfl)); exact rfl; dsimp only [Nat.reduceAdd, Nat.reduceMul, List.nil_append]
       apply Trc.stp rfl rfl rfl; apply s_assign; exact rfl; dsimp only [Nat.reduceAdd, Nat.reduceMul, List.nil_append]
       exact Trc.done _ _ _; exact rfl; refine thn_n ?_; refine Gol.ret ?_)
      (apply RetQ.mk (by first | exact .inr rfl | exact .inl rfl); apply res_1 rfl; exact res_tmp rfl; exact out_val)
    · simp
  · apply Fresh.bool
    · refine Fresh.of (fn := Tryz.f57) Tryz.func57 rfl (Nat.le_of_ble_eq_true rfl) fun w => ?_
      (refine Gol.seq ?_; apply Gol.region; apply Trc.stp rfl rfl rfl; apply s_box; exact rfl
       exact rfl; dsimp only [Nat.reduceAdd, Nat.reduceMul, Nat.reduceSub, List.nil_append, List.cons_append, nbk, List.map_cons, List.map_nil]; apply Trc.stp rfl rfl rfl; apply s_assign; exact rfl; dsimp only [Nat.reduceAdd, Nat.reduceMul, List.nil_append]
       exact Trc.done _ _ _; exact rfl; refine thn_n ?_; refine Gol.seq ?_; apply Gol.region; apply Trc.stp rfl rfl rfl; apply s_assign; exact rfl; dsimp only [Nat.reduceAdd, Nat.reduceMul, List.nil_append]
       exact Trc.done _ _ _; exact rfl; refine thn_n ?_; refine Gol.seq ?_; refine Gol.seq ?_; apply Gol.region
       apply Trc.stp rfl rfl rfl; apply s_fieldAddr; exact rfl; dsimp only [Nat.reduceAdd, Nat.reduceMul, List.nil_append]
       apply Trc.stp rfl rfl rfl; apply s_load; exact rfl; exact rfl; exact rfl; dsimp only [Nat.reduceAdd, Nat.reduceMul, List.nil_append]
       exact Trc.done _ _ _; exact rfl; refine thn_n ?_; refine Gol.block ?_; refine Gol.seq ?_; apply Gol.region
       apply Trc.stp rfl rfl rfl; apply s_eqn; exact rfl; exact rfl; dsimp only [Nat.reduceAdd, Nat.reduceMul, List.nil_append]
       apply Trc.stp rfl rfl rfl; apply s_assign; exact rfl; dsimp only [Nat.reduceAdd, Nat.reduceMul, List.nil_append]
       exact Trc.done _ _ _; exact rfl; refine thn_n ?_)
      refine Gol.cond_f rfl (by decide) ?_
      (refine Gol.seq ?_; apply Gol.region; apply Trc.stp rfl rfl rfl; apply s_eqn; exact rfl
       exact rfl; dsimp only [Nat.reduceAdd, Nat.reduceMul, List.nil_append]; apply Trc.stp rfl rfl rfl; apply s_assign; exact rfl; dsimp only [Nat.reduceAdd, Nat.reduceMul, List.nil_append]
       exact Trc.done _ _ _; exact rfl; refine thn_n ?_)
      refine Gol.cond_f rfl (by decide) ?_
      (refine Gol.seq ?_; refine Gol.seq ?_; apply Gol.region; apply Trc.stp rfl rfl rfl; apply s_eqn
       exact rfl; exact rfl; dsimp only [Nat.reduceAdd, Nat.reduceMul, List.nil_append]; apply Trc.stp rfl rfl rfl; apply s_assign; exact rfl; dsimp only [Nat.reduceAdd, Nat.reduceMul, List.nil_append]
       exact Trc.done _ _ _; exact rfl; refine thn_n ?_)
      refine Gol.cond_f rfl (by decide) ?_
      (apply Gol.region; apply Trc.stp rfl rfl rfl; apply s_eqn; exact rfl; exact rfl; dsimp only [Nat.reduceAdd, Nat.reduceMul, List.nil_append]
       apply Trc.stp rfl rfl rfl; apply s_assign; exact rfl; dsimp only [Nat.reduceAdd, Nat.reduceMul, List.nil_append]
       exact Trc.done _ _ _; exact rfl; refine thn_n ?_)
      refine Gol.cond_t rfl (by decide) ?_
      (refine Gol.skip ?_; refine inBlk_n ?_; refine thn_n ?_; refine Gol.seq ?_; apply Gol.region
       apply Trc.stp rfl rfl rfl; apply s_fieldAddr; exact rfl; dsimp only [Nat.reduceAdd, Nat.reduceMul, List.nil_append]
       apply Trc.stp rfl rfl rfl; apply s_load; exact rfl; exact rfl; exact rfl; dsimp only [Nat.reduceAdd, Nat.reduceMul, List.nil_append]
       apply Trc.stp rfl rfl rfl; apply s_gen; exact rfl; exact rfl; dsimp only [Nat.reduceAdd, Nat.reduceMul, List.nil_append]
       apply Trc.stp rfl rfl rfl; apply s_move; exact rfl; dsimp only [Nat.reduceAdd, Nat.reduceMul, List.nil_append]
       apply Trc.step rfl rfl; apply wnt_g; exact rfl; exact rfl; exact rfl; rfl; apply s_fieldAddr; exact rfl; dsimp only [Nat.reduceAdd, Nat.reduceMul, List.nil_append]
       apply Trc.step rfl rfl; apply wnt_g; exact rfl; exact rfl; exact rfl; rfl; apply s_load; exact rfl; exact rfl; exact rfl; dsimp only [Nat.reduceAdd, Nat.reduceMul, List.nil_append]
       apply Trc.step rfl rfl; apply wnt_g; exact rfl; exact rfl; exact rfl; rfl; apply s_move; exact rfl; dsimp only [Nat.reduceAdd, Nat.reduceMul, List.nil_append]
       apply Trc.step rfl rfl; apply wnt_g; exact rfl; exact rfl; exact rfl; rfl; apply s_len'; exact rfl; exact rfl; dsimp only [Nat.reduceAdd, Nat.reduceMul, List.nil_append]
       apply Trc.stp rfl rfl rfl; apply s_pick_t; exact rfl; rfl; exact rfl; dsimp only [Nat.reduceAdd, Nat.reduceMul, List.nil_append]
       apply Trc.stp rfl rfl rfl; apply s_move; exact rfl; dsimp only [Nat.reduceAdd, Nat.reduceMul, List.nil_append]
       apply Trc.step rfl rfl; apply wnt_g; exact rfl; exact rfl; exact rfl; rfl; apply s_fieldAddr; exact rfl; dsimp only [Nat.reduceAdd, Nat.reduceMul, List.nil_append]
       apply Trc.step rfl rfl; apply wnt_g; exact rfl; exact rfl; exact rfl; rfl; apply s_load; exact rfl; exact rfl; exact rfl; dsimp only [Nat.reduceAdd, Nat.reduceMul, List.nil_append]
       apply Trc.step rfl rfl; apply wnt_g; exact rfl; exact rfl; exact rfl; rfl; apply s_eqn; exact rfl; exact rfl; dsimp only [Nat.reduceAdd, Nat.reduceMul, List.nil_append]
       apply Trc.step rfl rfl; apply wnt_g; exact rfl; exact rfl; exact rfl; rfl; apply s_move; exact rfl; dsimp only [Nat.reduceAdd, Nat.reduceMul, List.nil_append]
       apply Trc.step rfl rfl; apply wnt_g; exact rfl; exact rfl; exact rfl; rfl; apply s_fieldAddr; exact rfl; dsimp only [Nat.reduceAdd, Nat.reduceMul, List.nil_append]
       apply Trc.step rfl rfl; apply wnt_g; exact rfl; exact rfl; exact rfl; rfl; apply s_loadN; exact rfl; exact rfl; decide; exact agu_nm8 rfl
       dsimp only [Nat.reduceAdd, Nat.reduceMul, List.nil_append]; apply Trc.step rfl rfl
       apply wnt_g; exact rfl; exact rfl; exact rfl; rfl; apply s_zero; dsimp only [Nat.reduceAdd, Nat.reduceMul, Nat.reduceSub, List.nil_append, List.cons_append, nbk, List.map_cons, List.map_nil]
       apply Trc.step rfl rfl; apply wnt_g; exact rfl; exact rfl; exact rfl; rfl; apply s_eqN; exact rfl; exact rfl; dsimp only [Nat.reduceAdd, Nat.reduceMul, List.nil_append]
       apply Trc.step rfl rfl; apply wnt_g; exact rfl; exact rfl; exact rfl; rfl; apply s_pick_f; exact rfl; rfl; exact rfl; dsimp only [Nat.reduceAdd, Nat.reduceMul, List.nil_append]
       apply Trc.stp rfl rfl rfl; apply s_pick_t; exact rfl; rfl; exact rfl; dsimp only [Nat.reduceAdd, Nat.reduceMul, List.nil_append]
       apply Trc.stp rfl rfl rfl; apply s_assign; exact rfl; dsimp only [Nat.reduceAdd, Nat.reduceMul, List.nil_append]
       exact Trc.done _ _ _; exact rfl; refine thn_n ?_; refine Gol.ret ?_)
      (apply RetQ.mk (by first | exact .inr rfl | exact .inl rfl); apply res_1 rfl; exact res_tmp rfl; exact out_val)
    · simp
theorem badCell_no (d : Dl) (h : okEnt d) : Fresh Tryz.prog 56 [.v (.agg (deltaC d.k d.i d.n d.a))] (fun _ => .v (.bool false)) [] := by
  obtain ⟨h1, h2, h3, h4⟩ := h
  have g1 : ¬ 1125899906842624 < d.a := by omega
  have g2 : ¬ d.a < -1125899906842624 := by omega
  apply Fresh.bool
  · refine Fresh.of (fn := Tryz.f56) Tryz.func56 rfl (Nat.le_of_ble_eq_true rfl) fun w => ?_
    (refine Gol.seq ?_; apply Gol.region; apply Trc.stp rfl rfl rfl; apply s_box; exact rfl
     exact rfl; dsimp only [Nat.reduceAdd, Nat.reduceMul, Nat.reduceSub, List.nil_append, List.cons_append, nbk, List.map_cons, List.map_nil]; apply Trc.stp rfl rfl rfl; apply s_assign; exact rfl; dsimp only [Nat.reduceAdd, Nat.reduceMul, List.nil_append]
     exact Trc.done _ _ _; exact rfl; refine thn_n ?_; refine Gol.seq ?_; apply Gol.region; apply Trc.stp rfl rfl rfl; apply s_fieldAddr; exact rfl; dsimp only [Nat.reduceAdd, Nat.reduceMul, List.nil_append]
     apply Trc.stp rfl rfl rfl; apply s_loadN; exact rfl; exact rfl; exact Nat.le_of_ble_eq_true rfl; exact agu_cell rfl; dsimp only [Nat.reduceAdd, Nat.reduceMul, List.nil_append]
     apply Trc.stp rfl rfl rfl; apply s_call (f := 57) rfl; apply evs.cons rfl; exact evs.nil; apply ArgL.cons; exact arg_clo
     exact ArgL.nil; exact validCell_yes _ _ _ h1; exact Nat.le_of_ble_eq_true rfl; dsimp only [Nat.reduceAdd, Nat.reduceMul, Nat.reduceSub, List.nil_append, List.cons_append, nbk, List.map_cons, List.map_nil]
     apply Trc.stp rfl rfl rfl; apply s_not; exact rfl; dsimp only [Nat.reduceAdd, Nat.reduceMul, List.nil_append]
     apply Trc.stp rfl rfl rfl; apply s_move; exact rfl; dsimp only [Nat.reduceAdd, Nat.reduceMul, List.nil_append]
     apply Trc.step rfl rfl; apply wnt_g; exact rfl; exact rfl; exact rfl; rfl; apply s_fieldAddr; exact rfl; dsimp only [Nat.reduceAdd, Nat.reduceMul, List.nil_append]
     apply Trc.step rfl rfl; apply wnt_g; exact rfl; exact rfl; exact rfl; rfl; apply s_load; exact rfl; exact rfl; exact rfl; dsimp only [Nat.reduceAdd, Nat.reduceMul, List.nil_append]
     apply Trc.step rfl rfl; apply wnt_g; exact rfl; exact rfl; exact rfl; rfl; apply s_eq; exact rfl; exact rfl; dsimp only [Nat.reduceAdd, Nat.reduceMul, List.nil_append]
     apply Trc.stp rfl rfl rfl; apply s_pick_f; exact rfl; rfl; exact rfl; dsimp only [Nat.reduceAdd, Nat.reduceMul, List.nil_append]
     apply Trc.stp rfl rfl rfl; apply s_move; exact rfl; dsimp only [Nat.reduceAdd, Nat.reduceMul, List.nil_append]
     apply Trc.step rfl rfl; apply wnt_g; exact rfl; exact rfl; exact rfl; (focus (simp only [*]; rfl)); apply s_fieldAddr; exact rfl; dsimp only [Nat.reduceAdd, Nat.reduceMul, List.nil_append]
     apply Trc.step rfl rfl; apply wnt_g; exact rfl; exact rfl; exact rfl; (focus (simp only [*]; rfl)); apply s_load; exact rfl; exact rfl
     exact rfl; dsimp only [Nat.reduceAdd, Nat.reduceMul, List.nil_append]; apply Trc.step rfl rfl
     apply wnt_g; exact rfl; exact rfl; exact rfl; (focus (simp only [*]; rfl)); apply s_gt; exact rfl; exact rfl; dsimp only [Nat.reduceAdd, Nat.reduceMul, List.nil_append]
     apply Trc.stp rfl rfl rfl; apply s_pick_f; exact rfl; (focus (simp only [*]; rfl)); exact rfl; dsimp only [Nat.reduceAdd, Nat.reduceMul, List.nil_append]
     apply Trc.stp rfl rfl rfl; apply s_move; exact rfl; dsimp only [Nat.reduceAdd, Nat.reduceMul, List.nil_append]
     apply Trc.step rfl rfl; apply wnt_g; exact rfl; exact rfl; exact rfl; (focus (simp only [*]; rfl)); apply s_fieldAddr; exact rfl; dsimp only [Nat.reduceAdd, Nat.reduceMul, List.nil_append]
     apply Trc.step rfl rfl; apply wnt_g; exact rfl; exact rfl; exact rfl; (focus (simp only [*]; rfl)); apply s_load; exact rfl; exact rfl
     exact rfl; dsimp only [Nat.reduceAdd, Nat.reduceMul, List.nil_append]; apply Trc.step rfl rfl
     apply wnt_g; exact rfl; exact rfl; exact rfl; (focus (simp only [*]; rfl)); apply s_lt; exact rfl; exact rfl; dsimp only [Nat.reduceAdd, Nat.reduceMul, List.nil_append]
     apply Trc.stp rfl rfl rfl; apply s_pick_f; exact rfl; (focus (simp only [*]; rfl)); exact rfl; dsimp only [Nat.reduceAdd, Nat.reduceMul, List.nil_append]
     apply Trc.stp rfl rfl rfl; apply s_assign; exact rfl; dsimp only [Nat.reduceAdd, Nat.reduceMul, List.nil_append]
     exact Trc.done _ _ _; exact rfl; refine thn_n ?_; refine Gol.ret ?_)
    (apply RetQ.mk (by first | exact .inr rfl | exact .inl rfl); apply res_1 rfl; exact res_tmp rfl; exact out_val)
  · simp [g2]
theorem badSeq_no (q : Int) (h : 0 ≤ q ∧ q ≤ 32) : Fresh Tryz.prog 58 [.v (.int .i64 q)] (fun _ => .v (.bool false)) [] := by
  have g1 : ¬ q < 0 := by omega
  have g2 : ¬ 32 < q := by omega
  apply Fresh.bool
  · refine Fresh.of (fn := Tryz.f58) Tryz.func58 rfl (Nat.le_of_ble_eq_true rfl) fun w => ?_
    (refine Gol.seq ?_; apply Gol.region; apply Trc.stp rfl rfl rfl; apply s_assign; exact rfl
     dsimp only [Nat.reduceAdd, Nat.reduceMul, List.nil_append]; exact Trc.done _ _ _; exact rfl
     refine thn_n ?_; refine Gol.seq ?_; apply Gol.region; apply Trc.stp rfl rfl rfl; apply s_move
     exact rfl; dsimp only [Nat.reduceAdd, Nat.reduceMul, List.nil_append]; apply Trc.stp rfl rfl rfl; apply s_lt; exact rfl; exact rfl; dsimp only [Nat.reduceAdd, Nat.reduceMul, List.nil_append]
     apply Trc.stp rfl rfl rfl; apply s_move; exact rfl; dsimp only [Nat.reduceAdd, Nat.reduceMul, List.nil_append]
     apply Trc.step rfl rfl; apply wnt_g; exact rfl; exact rfl; exact rfl; (focus (simp only [*]; rfl)); apply s_move; exact rfl; dsimp only [Nat.reduceAdd, Nat.reduceMul, List.nil_append]
     apply Trc.step rfl rfl; apply wnt_g; exact rfl; exact rfl; exact rfl; (focus (simp only [*]; rfl)); apply s_gt; exact rfl; exact rfl
     dsimp only [Nat.reduceAdd, Nat.reduceMul, List.nil_append]; apply Trc.stp rfl rfl rfl; apply s_pick_f; exact rfl; (focus (simp only [*]; rfl)); exact rfl; dsimp only [Nat.reduceAdd, Nat.reduceMul, List.nil_append]
     apply Trc.stp rfl rfl rfl; apply s_assign; exact rfl; dsimp only [Nat.reduceAdd, Nat.reduceMul, List.nil_append]
     exact Trc.done _ _ _; exact rfl; refine thn_n ?_; refine Gol.ret ?_)
    (apply RetQ.mk (by first | exact .inr rfl | exact .inl rfl); apply res_1 rfl; exact res_tmp rfl; exact out_val)
  · simp [g2]
theorem badLock_no (d : Lk) (h : okLk d) : Fresh Tryz.prog 59 [.v (.agg (lockC d.n d.h d.o d.t d.u))] (fun _ => .v (.bool false)) [] := by
  obtain ⟨h1, h2, h3, h4, h5, h6⟩ := h
  have g1 : ¬ d.o < 0 := by omega
  have g2 : ¬ 16 ≤ d.o := by omega
  have g3 : ¬ d.t < 0 := by omega
  have g4 : ¬ 16 ≤ d.t := by omega
  have g5 : ¬ d.u < 1 := by omega
  have g6 : ¬ 1000 < d.u := by omega
  apply Fresh.bool
  · refine Fresh.of (fn := Tryz.f59) Tryz.func59 rfl (Nat.le_of_ble_eq_true rfl) fun w => ?_
    (refine Gol.seq ?_; apply Gol.region; apply Trc.stp rfl rfl rfl; apply s_box; exact rfl
     exact rfl; dsimp only [Nat.reduceAdd, Nat.reduceMul, Nat.reduceSub, List.nil_append, List.cons_append, nbk, List.map_cons, List.map_nil]; apply Trc.stp rfl rfl rfl; apply s_assign; exact rfl; dsimp only [Nat.reduceAdd, Nat.reduceMul, List.nil_append]
     exact Trc.done _ _ _; exact rfl; refine thn_n ?_; refine Gol.seq ?_; apply Gol.region; apply Trc.stp rfl rfl rfl; apply s_fieldAddr; exact rfl; dsimp only [Nat.reduceAdd, Nat.reduceMul, List.nil_append]
     apply Trc.stp rfl rfl rfl; apply s_load; exact rfl; exact rfl; exact rfl; dsimp only [Nat.reduceAdd, Nat.reduceMul, List.nil_append]
     apply Trc.stp rfl rfl rfl; apply s_lt; exact rfl; exact rfl; dsimp only [Nat.reduceAdd, Nat.reduceMul, List.nil_append]
     apply Trc.stp rfl rfl rfl; apply s_move; exact rfl; dsimp only [Nat.reduceAdd, Nat.reduceMul, List.nil_append]
     apply Trc.step rfl rfl; apply wnt_g; exact rfl; exact rfl; exact rfl; (focus (simp only [*]; rfl)); apply s_fieldAddr; exact rfl; dsimp only [Nat.reduceAdd, Nat.reduceMul, List.nil_append]
     apply Trc.step rfl rfl; apply wnt_g; exact rfl; exact rfl; exact rfl; (focus (simp only [*]; rfl)); apply s_load; exact rfl; exact rfl
     exact rfl; dsimp only [Nat.reduceAdd, Nat.reduceMul, List.nil_append]; apply Trc.step rfl rfl
     apply wnt_g; exact rfl; exact rfl; exact rfl; (focus (simp only [*]; rfl)); apply s_ge; exact rfl; exact rfl; dsimp only [Nat.reduceAdd, Nat.reduceMul, List.nil_append]
     apply Trc.stp rfl rfl rfl; apply s_pick_f; exact rfl; (focus (simp only [*]; rfl)); exact rfl; dsimp only [Nat.reduceAdd, Nat.reduceMul, List.nil_append]
     apply Trc.stp rfl rfl rfl; apply s_move; exact rfl; dsimp only [Nat.reduceAdd, Nat.reduceMul, List.nil_append]
     apply Trc.step rfl rfl; apply wnt_g; exact rfl; exact rfl; exact rfl; (focus (simp only [*]; rfl)); apply s_fieldAddr; exact rfl; dsimp only [Nat.reduceAdd, Nat.reduceMul, List.nil_append]
     apply Trc.step rfl rfl; apply wnt_g; exact rfl; exact rfl; exact rfl; (focus (simp only [*]; rfl)); apply s_load; exact rfl; exact rfl
     exact rfl; dsimp only [Nat.reduceAdd, Nat.reduceMul, List.nil_append]; apply Trc.step rfl rfl
     apply wnt_g; exact rfl; exact rfl; exact rfl; (focus (simp only [*]; rfl)); apply s_lt; exact rfl; exact rfl; dsimp only [Nat.reduceAdd, Nat.reduceMul, List.nil_append]
     apply Trc.stp rfl rfl rfl; apply s_pick_f; exact rfl; (focus (simp only [*]; rfl)); exact rfl; dsimp only [Nat.reduceAdd, Nat.reduceMul, List.nil_append]
     apply Trc.stp rfl rfl rfl; apply s_move; exact rfl; dsimp only [Nat.reduceAdd, Nat.reduceMul, List.nil_append]
     apply Trc.step rfl rfl; apply wnt_g; exact rfl; exact rfl; exact rfl; (focus (simp only [*]; rfl)); apply s_fieldAddr; exact rfl; dsimp only [Nat.reduceAdd, Nat.reduceMul, List.nil_append]
     apply Trc.step rfl rfl; apply wnt_g; exact rfl; exact rfl; exact rfl; (focus (simp only [*]; rfl)); apply s_load; exact rfl; exact rfl
     exact rfl; dsimp only [Nat.reduceAdd, Nat.reduceMul, List.nil_append]; apply Trc.step rfl rfl
     apply wnt_g; exact rfl; exact rfl; exact rfl; (focus (simp only [*]; rfl)); apply s_ge; exact rfl; exact rfl; dsimp only [Nat.reduceAdd, Nat.reduceMul, List.nil_append]
     apply Trc.stp rfl rfl rfl; apply s_pick_f; exact rfl; (focus (simp only [*]; rfl)); exact rfl; dsimp only [Nat.reduceAdd, Nat.reduceMul, List.nil_append]
     apply Trc.stp rfl rfl rfl; apply s_move; exact rfl; dsimp only [Nat.reduceAdd, Nat.reduceMul, List.nil_append]
     apply Trc.step rfl rfl; apply wnt_g; exact rfl; exact rfl; exact rfl; (focus (simp only [*]; rfl)); apply s_fieldAddr; exact rfl; dsimp only [Nat.reduceAdd, Nat.reduceMul, List.nil_append]
     apply Trc.step rfl rfl; apply wnt_g; exact rfl; exact rfl; exact rfl; (focus (simp only [*]; rfl)); apply s_load; exact rfl; exact rfl
     exact rfl; dsimp only [Nat.reduceAdd, Nat.reduceMul, List.nil_append]; apply Trc.step rfl rfl
     apply wnt_g; exact rfl; exact rfl; exact rfl; (focus (simp only [*]; rfl)); apply s_lt; exact rfl; exact rfl; dsimp only [Nat.reduceAdd, Nat.reduceMul, List.nil_append]
     apply Trc.stp rfl rfl rfl; apply s_pick_f; exact rfl; (focus (simp only [*]; rfl)); exact rfl; dsimp only [Nat.reduceAdd, Nat.reduceMul, List.nil_append]
     apply Trc.stp rfl rfl rfl; apply s_move; exact rfl; dsimp only [Nat.reduceAdd, Nat.reduceMul, List.nil_append]
     apply Trc.step rfl rfl; apply wnt_g; exact rfl; exact rfl; exact rfl; (focus (simp only [*]; rfl)); apply s_fieldAddr; exact rfl; dsimp only [Nat.reduceAdd, Nat.reduceMul, List.nil_append]
     apply Trc.step rfl rfl; apply wnt_g; exact rfl; exact rfl; exact rfl; (focus (simp only [*]; rfl)); apply s_load; exact rfl; exact rfl
     exact rfl; dsimp only [Nat.reduceAdd, Nat.reduceMul, List.nil_append]; apply Trc.step rfl rfl
     apply wnt_g; exact rfl; exact rfl; exact rfl; (focus (simp only [*]; rfl)); apply s_gt; exact rfl; exact rfl; dsimp only [Nat.reduceAdd, Nat.reduceMul, List.nil_append]
     apply Trc.stp rfl rfl rfl; apply s_pick_f; exact rfl; (focus (simp only [*]; rfl)); exact rfl; dsimp only [Nat.reduceAdd, Nat.reduceMul, List.nil_append]
     apply Trc.stp rfl rfl rfl; apply s_assign; exact rfl; dsimp only [Nat.reduceAdd, Nat.reduceMul, List.nil_append]
     exact Trc.done _ _ _; exact rfl; refine thn_n ?_; refine Gol.ret ?_)
    (apply RetQ.mk (by first | exact .inr rfl | exact .inl rfl); apply res_1 rfl; exact res_tmp rfl; exact out_val)
  · simp [g6]
theorem fIx_none {α : Type} (l : List α) (i : Nat) : fIx (fun _ => false) l i = -1 := by
  induction l generalizing i with
  | nil => rfl
  | cons a l ih => rw [fIx, if_neg (by simp), ih]
theorem idxL_none (l : List Lk) (fl : Bool) (g : FuncId) [hF : FnI Tryz.prog g] (hl : l.length ≤ 10000000) (h0 : ∀ d ∈ l, Fresh Tryz.prog g [.v (.agg (lockC d.n d.h d.o d.t d.u))] (fun _ => .v (.bool false)) []) :
    Fresh Tryz.prog 90 [.ex l.length fl (lsA l), .fn g []] (fun _ => .v (.int .i64 (-1))) [] := by
  refine Fresh.of (fn := Tryz.f90) Tryz.func90 rfl (Nat.le_of_ble_eq_true rfl) fun w => ?_
  (refine Gol.seq ?_; apply Gol.region; apply Trc.stp rfl rfl rfl; apply s_assign; exact rfl
   dsimp only [Nat.reduceAdd, Nat.reduceMul, List.nil_append]; exact Trc.done _ _ _; exact rfl
   refine thn_n ?_; refine Gol.seq ?_; refine Gol.seq ?_; apply Gol.region; apply Trc.stp rfl rfl rfl; apply s_move; exact rfl; dsimp only [Nat.reduceAdd, Nat.reduceMul, List.nil_append]
   apply Trc.stp rfl rfl rfl; apply s_len; exact rfl; exact ln_ex; dsimp only [Nat.reduceAdd, Nat.reduceMul, List.nil_append]
   apply Trc.stp rfl rfl rfl; apply s_move; exact rfl; dsimp only [Nat.reduceAdd, Nat.reduceMul, List.nil_append]
   exact Trc.done _ _ _; exact rfl; refine thn_n ?_; refine Gol.block ?_)
  refine Gol.loop (ι := Nat) (fun i => i ≤ l.length) (fun i => l.length - i) 32 (fun i => []) (fun i => [(8, .v (.int .i64 (i : Int))), (7, .v (.int .i64 (l.length : Int))), (0, .ex l.length fl (lsA l)), (1, .fn g [])]) 0 (Nat.zero_le _) ?_ ?_
  · (apply Le.mk' []; apply RnT.c; exact rfl; exact Rn.v rfl; apply RnT.c; exact rfl; exact Rn.v rfl; apply RnT.c; exact rfl; exact Rn.clo inferInstance rfl
     apply RnT.c; exact rfl; exact Rn.clo inferInstance rfl; exact RnT.n; exact RnH.n; exact rfl)
  intro i hi
  (refine Gol.seq ?_; apply Gol.region; apply Trc.stp rfl rfl rfl; apply s_ltn; exact rfl
   exact rfl; dsimp only [Nat.reduceAdd, Nat.reduceMul, List.nil_append]; exact Trc.done _ _ _
   exact rfl; refine thn_n ?_; refine Gol.seq ?_)
  refine Gol.cond rfl (fun h => ?_) (fun h => ?_)
  · have hlt : i < l.length := of_decide_eq_true h
    obtain ⟨d, hd⟩ : ∃ d, l[i]? = some d := ⟨l[i], List.getElem?_eq_getElem hlt⟩
    have hf := h0 d (List.mem_of_getElem? hd)
    (refine Gol.skip ?_; refine thn_n ?_; refine Gol.seq ?_; refine Gol.block ?_; refine Gol.seq ?_
     apply Gol.region; apply Trc.stp rfl rfl rfl; apply s_move; exact rfl; dsimp only [Nat.reduceAdd, Nat.reduceMul, List.nil_append]
     apply Trc.stp rfl rfl rfl; apply s_assign; exact rfl; dsimp only [Nat.reduceAdd, Nat.reduceMul, List.nil_append]
     exact Trc.done _ _ _; exact rfl; refine thn_n ?_; refine Gol.seq ?_; apply Gol.region; apply Trc.stp rfl rfl rfl; apply s_move; exact rfl; dsimp only [Nat.reduceAdd, Nat.reduceMul, List.nil_append]
     apply Trc.stp rfl rfl rfl; apply s_move; exact rfl; dsimp only [Nat.reduceAdd, Nat.reduceMul, List.nil_append]
     apply Trc.stp rfl rfl rfl; apply s_move; exact rfl; dsimp only [Nat.reduceAdd, Nat.reduceMul, List.nil_append]
     apply Trc.stp rfl rfl rfl; apply s_ixe; exact rfl; exact rfl; omega; exact ls_ne (by omega); dsimp only [Nat.reduceAdd, Nat.reduceMul, List.nil_append]
     apply Trc.stp rfl rfl rfl; apply s_loadEN; exact rfl; simp only [byA_length, List.length_append, List.length_cons, List.length_nil, List.length_take, List.length_drop, List.length_replicate, List.length_map, Nat.mul_one, nameB_length, flat_length, List.length_set, inA_length, dsA_length, lsA_length, dA_length, lA_length] <;> omega
     exact agu_l (by assumption); dsimp only [Nat.reduceAdd, Nat.reduceMul, List.nil_append]
     apply Trc.stp rfl rfl rfl; apply s_callC rfl; assumption; apply evs.cons rfl; exact evs.nil; dsimp only [List.cons_append, List.nil_append]
     apply ArgL.cons; exact arg_clo; exact ArgL.nil; exact hf; exact Nat.le_of_ble_eq_true rfl; dsimp only [Nat.reduceAdd, Nat.reduceMul, Nat.reduceSub, List.nil_append, List.cons_append, nbk, List.map_cons, List.map_nil]
     exact Trc.done _ _ _; exact rfl; refine thn_n ?_)
    refine Gol.cond_f rfl rfl ?_
    (refine Gol.skip ?_; refine inBlk_n ?_; refine thn_n ?_; apply Gol.region; apply Trc.stp rfl rfl rfl; apply s_addn; exact rfl; exact rfl; simp <;> omega; dsimp only [Nat.reduceAdd, Nat.reduceMul, List.nil_append]
     apply Trc.stp rfl rfl rfl; apply s_move; exact rfl; dsimp only [Nat.reduceAdd, Nat.reduceMul, List.nil_append]
     exact Trc.done _ _ _; exact rfl)
    refine rnd_n (i + 1) (by omega) (by omega) ?_
    (apply Le.mk' []; apply RnT.c; exact rfl; exact Rn.v rfl; apply RnT.c; exact rfl; exact Rn.v rfl; apply RnT.c; exact rfl; exact Rn.clo inferInstance rfl
     apply RnT.c; exact rfl; exact Rn.clo inferInstance rfl; exact RnT.n; exact RnH.n; exact rfl)
  · (refine Gol.exit ?_; refine thn_x ?_; refine rnd_x ?_; refine inBlk_hit ?_; refine thn_n ?_
     refine Gol.seq ?_; apply Gol.region; apply Trc.stp rfl rfl rfl; apply s_assign; exact rfl
     dsimp only [Nat.reduceAdd, Nat.reduceMul, List.nil_append]; exact Trc.done _ _ _; exact rfl
     refine thn_n ?_; refine Gol.ret ?_)
    (apply RetQ.mk (by first | exact .inr rfl | exact .inl rfl); apply res_1 rfl; exact res_tmp rfl; exact out_val)
theorem idxI_none (l : List Int) (fl : Bool) (g : FuncId) [hF : FnI Tryz.prog g] (hl : l.length ≤ 10000000) (h0 : ∀ d ∈ l, Fresh Tryz.prog g [.v (.int .i64 d)] (fun _ => .v (.bool false)) []) :
    Fresh Tryz.prog 100 [.ex l.length fl (inA l), .fn g []] (fun _ => .v (.int .i64 (-1))) [] := by
  refine Fresh.of (fn := Tryz.f100) Tryz.func100 rfl (Nat.le_of_ble_eq_true rfl) fun w => ?_
  (refine Gol.seq ?_; apply Gol.region; apply Trc.stp rfl rfl rfl; apply s_assign; exact rfl
   dsimp only [Nat.reduceAdd, Nat.reduceMul, List.nil_append]; exact Trc.done _ _ _; exact rfl
   refine thn_n ?_; refine Gol.seq ?_; refine Gol.seq ?_; apply Gol.region; apply Trc.stp rfl rfl rfl; apply s_move; exact rfl; dsimp only [Nat.reduceAdd, Nat.reduceMul, List.nil_append]
   apply Trc.stp rfl rfl rfl; apply s_len; exact rfl; exact ln_ex; dsimp only [Nat.reduceAdd, Nat.reduceMul, List.nil_append]
   apply Trc.stp rfl rfl rfl; apply s_move; exact rfl; dsimp only [Nat.reduceAdd, Nat.reduceMul, List.nil_append]
   exact Trc.done _ _ _; exact rfl; refine thn_n ?_; refine Gol.block ?_)
  refine Gol.loop (ι := Nat) (fun i => i ≤ l.length) (fun i => l.length - i) 32 (fun i => []) (fun i => [(8, .v (.int .i64 (i : Int))), (7, .v (.int .i64 (l.length : Int))), (0, .ex l.length fl (inA l)), (1, .fn g [])]) 0 (Nat.zero_le _) ?_ ?_
  · (apply Le.mk' []; apply RnT.c; exact rfl; exact Rn.v rfl; apply RnT.c; exact rfl; exact Rn.v rfl; apply RnT.c; exact rfl; exact Rn.clo inferInstance rfl
     apply RnT.c; exact rfl; exact Rn.clo inferInstance rfl; exact RnT.n; exact RnH.n; exact rfl)
  intro i hi
  (refine Gol.seq ?_; apply Gol.region; apply Trc.stp rfl rfl rfl; apply s_ltn; exact rfl
   exact rfl; dsimp only [Nat.reduceAdd, Nat.reduceMul, List.nil_append]; exact Trc.done _ _ _
   exact rfl; refine thn_n ?_; refine Gol.seq ?_)
  refine Gol.cond rfl (fun h => ?_) (fun h => ?_)
  · have hlt : i < l.length := of_decide_eq_true h
    have hne : inA l ≠ [] := fun e => by have := inA_length l; rw [e] at this; simp at this; omega
    have hd : l[i]? = some (l.getD i 0) := by rw [List.getD_eq_getElem?_getD, List.getElem?_eq_getElem hlt]; rfl
    have hf := h0 _ (List.mem_of_getElem? hd)
    (refine Gol.skip ?_; refine thn_n ?_; refine Gol.seq ?_; refine Gol.block ?_; refine Gol.seq ?_
     apply Gol.region; apply Trc.stp rfl rfl rfl; apply s_move; exact rfl; dsimp only [Nat.reduceAdd, Nat.reduceMul, List.nil_append]
     apply Trc.stp rfl rfl rfl; apply s_assign; exact rfl; dsimp only [Nat.reduceAdd, Nat.reduceMul, List.nil_append]
     exact Trc.done _ _ _; exact rfl; refine thn_n ?_; refine Gol.seq ?_; apply Gol.region; apply Trc.stp rfl rfl rfl; apply s_move; exact rfl; dsimp only [Nat.reduceAdd, Nat.reduceMul, List.nil_append]
     apply Trc.stp rfl rfl rfl; apply s_move; exact rfl; dsimp only [Nat.reduceAdd, Nat.reduceMul, List.nil_append]
     apply Trc.stp rfl rfl rfl; apply s_move; exact rfl; dsimp only [Nat.reduceAdd, Nat.reduceMul, List.nil_append]
     apply Trc.stp rfl rfl rfl; apply s_ixe; exact rfl; exact rfl; omega; assumption; dsimp only [Nat.reduceAdd, Nat.reduceMul, List.nil_append]
     apply Trc.stp rfl rfl rfl; apply s_loadE; exact rfl; apply in_get0; assumption; dsimp only [Nat.reduceAdd, Nat.reduceMul, List.nil_append]
     apply Trc.stp rfl rfl rfl; apply s_callC rfl; assumption; apply evs.cons rfl; exact evs.nil; dsimp only [List.cons_append, List.nil_append]
     apply ArgL.cons; exact arg_clo; exact ArgL.nil; exact hf; exact Nat.le_of_ble_eq_true rfl; dsimp only [Nat.reduceAdd, Nat.reduceMul, Nat.reduceSub, List.nil_append, List.cons_append, nbk, List.map_cons, List.map_nil]
     exact Trc.done _ _ _; exact rfl; refine thn_n ?_)
    refine Gol.cond_f rfl rfl ?_
    (refine Gol.skip ?_; refine inBlk_n ?_; refine thn_n ?_; apply Gol.region; apply Trc.stp rfl rfl rfl; apply s_addn; exact rfl; exact rfl; simp <;> omega; dsimp only [Nat.reduceAdd, Nat.reduceMul, List.nil_append]
     apply Trc.stp rfl rfl rfl; apply s_move; exact rfl; dsimp only [Nat.reduceAdd, Nat.reduceMul, List.nil_append]
     exact Trc.done _ _ _; exact rfl)
    refine rnd_n (i + 1) (by omega) (by omega) ?_
    (apply Le.mk' []; apply RnT.c; exact rfl; exact Rn.v rfl; apply RnT.c; exact rfl; exact Rn.v rfl; apply RnT.c; exact rfl; exact Rn.clo inferInstance rfl
     apply RnT.c; exact rfl; exact Rn.clo inferInstance rfl; exact RnT.n; exact RnH.n; exact rfl)
  · (refine Gol.exit ?_; refine thn_x ?_; refine rnd_x ?_; refine inBlk_hit ?_; refine thn_n ?_
     refine Gol.seq ?_; apply Gol.region; apply Trc.stp rfl rfl rfl; apply s_assign; exact rfl
     dsimp only [Nat.reduceAdd, Nat.reduceMul, List.nil_append]; exact Trc.done _ _ _; exact rfl
     refine thn_n ?_; refine Gol.ret ?_)
    (apply RetQ.mk (by first | exact .inr rfl | exact .inl rfl); apply res_1 rfl; exact res_tmp rfl; exact out_val)
theorem contD_no (l : List Dl) (fl : Bool) (g : FuncId) [hF : FnI Tryz.prog g] (hl : l.length ≤ 10000000) (h0 : ∀ d ∈ l, Fresh Tryz.prog g [.v (.agg (deltaC d.k d.i d.n d.a))] (fun _ => .v (.bool false)) []) :
    Fresh Tryz.prog 60 [.ex l.length fl (dsA l), .fn g []] (fun _ => .v (.bool false)) [] := by
  have hi := fun ff => idxD_ok l ff g [] (fun _ => false) (by omega) h0
  rw [fIx_none] at hi
  apply Fresh.bool
  · refine Fresh.of (fn := Tryz.f60) Tryz.func60 rfl (Nat.le_of_ble_eq_true rfl) fun w => ?_
    (refine Gol.seq ?_; apply Gol.region; apply Trc.stp rfl rfl rfl; apply s_assign; exact rfl
     dsimp only [Nat.reduceAdd, Nat.reduceMul, List.nil_append]; exact Trc.done _ _ _; exact rfl
     refine thn_n ?_; refine Gol.seq ?_; apply Gol.region; apply Trc.stp rfl rfl rfl; apply s_move
     exact rfl; dsimp only [Nat.reduceAdd, Nat.reduceMul, List.nil_append]; apply Trc.stp rfl rfl rfl; apply s_move; exact rfl; dsimp only [Nat.reduceAdd, Nat.reduceMul, List.nil_append]
     apply Trc.stp rfl rfl rfl; apply s_call (f := 74) rfl; apply evs.cons rfl
     apply evs.cons rfl; exact evs.nil; apply ArgL.cons; exact arg_clo; apply ArgL.cons; exact arg_clo; exact ArgL.nil; exact hi _; exact Nat.le_of_ble_eq_true rfl
     dsimp only [Nat.reduceAdd, Nat.reduceMul, Nat.reduceSub, List.nil_append, List.cons_append, nbk, List.map_cons, List.map_nil]; apply Trc.stp rfl rfl rfl; apply s_ge; exact rfl; exact rfl; dsimp only [Nat.reduceAdd, Nat.reduceMul, List.nil_append]
     apply Trc.stp rfl rfl rfl; apply s_assign; exact rfl; dsimp only [Nat.reduceAdd, Nat.reduceMul, List.nil_append]
     exact Trc.done _ _ _; exact rfl; refine thn_n ?_; refine Gol.ret ?_)
    (apply RetQ.mk (by first | exact .inr rfl | exact .inl rfl); apply res_1 rfl; exact res_tmp rfl; exact out_val)
  · decide
theorem contI_no (l : List Int) (fl : Bool) (g : FuncId) [hF : FnI Tryz.prog g] (hl : l.length ≤ 10000000) (h0 : ∀ d ∈ l, Fresh Tryz.prog g [.v (.int .i64 d)] (fun _ => .v (.bool false)) []) :
    Fresh Tryz.prog 63 [.ex l.length fl (inA l), .fn g []] (fun _ => .v (.bool false)) [] := by
  apply Fresh.bool
  · refine Fresh.of (fn := Tryz.f63) Tryz.func63 rfl (Nat.le_of_ble_eq_true rfl) fun w => ?_
    (refine Gol.seq ?_; apply Gol.region; apply Trc.stp rfl rfl rfl; apply s_assign; exact rfl
     dsimp only [Nat.reduceAdd, Nat.reduceMul, List.nil_append]; exact Trc.done _ _ _; exact rfl
     refine thn_n ?_; refine Gol.seq ?_; apply Gol.region; apply Trc.stp rfl rfl rfl; apply s_move
     exact rfl; dsimp only [Nat.reduceAdd, Nat.reduceMul, List.nil_append]; apply Trc.stp rfl rfl rfl; apply s_move; exact rfl; dsimp only [Nat.reduceAdd, Nat.reduceMul, List.nil_append]
     apply Trc.stp rfl rfl rfl; apply s_call (f := 100) rfl; apply evs.cons rfl; apply evs.cons rfl; exact evs.nil
     apply ArgL.cons; exact arg_clo; apply ArgL.cons; exact arg_clo; exact ArgL.nil; exact idxI_none l _ g hl h0; exact Nat.le_of_ble_eq_true rfl; dsimp only [Nat.reduceAdd, Nat.reduceMul, Nat.reduceSub, List.nil_append, List.cons_append, nbk, List.map_cons, List.map_nil]
     apply Trc.stp rfl rfl rfl; apply s_ge; exact rfl; exact rfl; dsimp only [Nat.reduceAdd, Nat.reduceMul, List.nil_append]
     apply Trc.stp rfl rfl rfl; apply s_assign; exact rfl; dsimp only [Nat.reduceAdd, Nat.reduceMul, List.nil_append]
     exact Trc.done _ _ _; exact rfl; refine thn_n ?_; refine Gol.ret ?_)
    (apply RetQ.mk (by first | exact .inr rfl | exact .inl rfl); apply res_1 rfl; exact res_tmp rfl; exact out_val)
  · decide
theorem contL_no (l : List Lk) (fl : Bool) (g : FuncId) [hF : FnI Tryz.prog g] (hl : l.length ≤ 10000000) (h0 : ∀ d ∈ l, Fresh Tryz.prog g [.v (.agg (lockC d.n d.h d.o d.t d.u))] (fun _ => .v (.bool false)) []) :
    Fresh Tryz.prog 64 [.ex l.length fl (lsA l), .fn g []] (fun _ => .v (.bool false)) [] := by
  apply Fresh.bool
  · refine Fresh.of (fn := Tryz.f64) Tryz.func64 rfl (Nat.le_of_ble_eq_true rfl) fun w => ?_
    (refine Gol.seq ?_; apply Gol.region; apply Trc.stp rfl rfl rfl; apply s_assign; exact rfl
     dsimp only [Nat.reduceAdd, Nat.reduceMul, List.nil_append]; exact Trc.done _ _ _; exact rfl
     refine thn_n ?_; refine Gol.seq ?_; apply Gol.region; apply Trc.stp rfl rfl rfl; apply s_move
     exact rfl; dsimp only [Nat.reduceAdd, Nat.reduceMul, List.nil_append]; apply Trc.stp rfl rfl rfl; apply s_move; exact rfl; dsimp only [Nat.reduceAdd, Nat.reduceMul, List.nil_append]
     apply Trc.stp rfl rfl rfl; apply s_call (f := 90) rfl; apply evs.cons rfl
     apply evs.cons rfl; exact evs.nil; apply ArgL.cons; exact arg_clo; apply ArgL.cons; exact arg_clo; exact ArgL.nil; exact idxL_none l _ g hl h0; exact Nat.le_of_ble_eq_true rfl
     dsimp only [Nat.reduceAdd, Nat.reduceMul, Nat.reduceSub, List.nil_append, List.cons_append, nbk, List.map_cons, List.map_nil]; apply Trc.stp rfl rfl rfl; apply s_ge; exact rfl; exact rfl; dsimp only [Nat.reduceAdd, Nat.reduceMul, List.nil_append]
     apply Trc.stp rfl rfl rfl; apply s_assign; exact rfl; dsimp only [Nat.reduceAdd, Nat.reduceMul, List.nil_append]
     exact Trc.done _ _ _; exact rfl; refine thn_n ?_; refine Gol.ret ?_)
    (apply RetQ.mk (by first | exact .inr rfl | exact .inl rfl); apply res_1 rfl; exact res_tmp rfl; exact out_val)
  · decide
end Go.Proofs.YtkkeeokeihkagaaGreat


/-
  Layer 21: the order of cells, and what adding does to a list in ascending order: plain facts on lists, no program in sight. No condition.
-/
namespace Go.Proofs.YtkkeeokeihkagaaGreat
open Go.RowKit
/-! ### Lists in ascending order -/
theorem Asc.pw {α : Type} {r : α → α → Prop} (ht : ∀ x y z, r x y → r y z → r x z) : ∀ {l : List α}, Asc r l → l.Pairwise r
  | [], _ => .nil
  | a :: l, h => by
    have hl : Asc r l := fun i x y hx hy => h (i + 1) x y (by simpa using hx) (by simpa using hy)
    have ih := Asc.pw ht hl
    refine .cons (fun b hb => ?_) ih
    cases l with
    | nil => cases hb
    | cons c l =>
      have hc : r a c := h 0 a c rfl rfl
      rcases List.mem_cons.1 hb with rfl | hb
      · exact hc
      · exact ht _ _ _ hc ((List.pairwise_cons.1 ih).1 b hb)
theorem eqC_iff (x d : Dl) : eqC x.k x.i x.n d = true ↔ (d.k = x.k ∧ d.i = x.i ∧ d.n = x.n) := by simp [eqC]
/-! inserting what is not there -/
/-! taking out, and changing, what is there -/
/-- entries in order, not zero, valid cells, amounts of at most B -/
structure Gd (B : Int) (l : List Dl) : Prop where
  pw : l.Pairwise ltD
  ok : ∀ d ∈ l, okCell d.k d.i d.n ∧ d.a ≠ 0 ∧ -B ≤ d.a ∧ d.a ≤ B
end Go.Proofs.YtkkeeokeihkagaaGreat


/-
  Layer 21: Validate accepts a valid state. Conditions: lengths below 2^17.
-/
namespace Go.Proofs.YtkkeeokeihkagaaGreat
open Go.RowKit

theorem ascD_ok (l : List Dl) (fl : Bool) (c : FuncId) [hF : FnI Tryz.prog c] (hl : l.length ≤ 10000000) (h0 : ∀ (i : Nat) x y, l[i]? = some x → l[i + 1]? = some y → ∃ q, q < 0 ∧ Fresh Tryz.prog c [.v (.agg (deltaC x.k x.i x.n x.a)), .v (.agg (deltaC y.k y.i y.n y.a))] (fun _ => .v (.int .i64 q)) []) :
    Fresh Tryz.prog 61 [.ex l.length fl (dsA l), .fn c []] (fun _ => .v (.bool true)) [] := by
  refine Fresh.of (fn := Tryz.f61) Tryz.func61 rfl (Nat.le_of_ble_eq_true rfl) fun w => ?_
  (refine Gol.seq ?_; apply Gol.region; apply Trc.stp rfl rfl rfl; apply s_assign; exact rfl
   dsimp only [Nat.reduceAdd, Nat.reduceMul, List.nil_append]; exact Trc.done _ _ _; exact rfl
   refine thn_n ?_; refine Gol.seq ?_; refine Gol.seq ?_; apply Gol.region; apply Trc.stp rfl rfl rfl; apply s_assign; exact rfl; dsimp only [Nat.reduceAdd, Nat.reduceMul, List.nil_append]
   exact Trc.done _ _ _; exact rfl; refine thn_n ?_; refine Gol.block ?_)
  refine Gol.loop (ι := Nat) (fun j => 1 ≤ j) (fun j => l.length - j) 16 (fun _ => []) (fun j => [(5, .v (.int .i64 (j : Int))), (0, .ex l.length fl (dsA l)), (1, .fn c [])]) 1 (Nat.le_refl _) ?_ ?_
  · (apply Le.mk' []; apply RnT.c; exact rfl; exact Rn.v rfl; apply RnT.c; exact rfl; exact Rn.clo inferInstance rfl; apply RnT.c; exact rfl; exact Rn.clo inferInstance rfl
     exact RnT.n; exact RnH.n; exact rfl)
  intro j hj
  (refine Gol.seq ?_; refine Gol.seq ?_; apply Gol.region; apply Trc.stp rfl rfl rfl; apply s_move
   exact rfl; dsimp only [Nat.reduceAdd, Nat.reduceMul, List.nil_append]; apply Trc.stp rfl rfl rfl; apply s_move; exact rfl; dsimp only [Nat.reduceAdd, Nat.reduceMul, List.nil_append]
   apply Trc.stp rfl rfl rfl; apply s_len; exact rfl; exact ln_ex; dsimp only [Nat.reduceAdd, Nat.reduceMul, List.nil_append]
   apply Trc.stp rfl rfl rfl; apply s_ltn; exact rfl; exact rfl; dsimp only [Nat.reduceAdd, Nat.reduceMul, List.nil_append]
   exact Trc.done _ _ _; exact rfl; refine thn_n ?_)
  refine Gol.cond rfl (fun h => ?_) (fun h => ?_)
  · have hlt : j < l.length := of_decide_eq_true h
    obtain ⟨x, hx⟩ : ∃ x, l[j - 1]? = some x := ⟨l[j - 1], List.getElem?_eq_getElem (by omega)⟩
    obtain ⟨y, hy⟩ : ∃ y, l[j]? = some y := ⟨l[j], List.getElem?_eq_getElem hlt⟩
    have hjj : j - 1 + 1 = j := by omega
    obtain ⟨q, hq, hf⟩ := h0 (j - 1) _ _ hx (by rw [hjj]; exact hy)
    have hq' : ¬ 0 ≤ q := by omega
    (refine Gol.skip ?_; refine thn_n ?_; refine Gol.seq ?_; refine Gol.block ?_; refine Gol.seq ?_
     apply Gol.any; kernel_rfl; apply Trc.stp rfl rfl rfl; apply s_move; exact rfl; dsimp only [Nat.reduceAdd, Nat.reduceMul, List.nil_append]
     apply Trc.stp rfl rfl rfl; apply s_move; exact rfl; dsimp only [Nat.reduceAdd, Nat.reduceMul, List.nil_append]
     apply Trc.stp rfl rfl rfl; apply s_move; exact rfl; dsimp only [Nat.reduceAdd, Nat.reduceMul, List.nil_append]
     apply Trc.stp rfl rfl rfl; apply s_subn; exact rfl; exact rfl; omega; omega; dsimp only [Nat.reduceAdd, Nat.reduceMul, Nat.reduceSub, List.nil_append, List.cons_append, nbk, List.map_cons, List.map_nil]
     apply Trc.stp rfl rfl rfl; apply s_ixe; exact rfl; exact rfl; omega; exact ds_ne (by omega); dsimp only [Nat.reduceAdd, Nat.reduceMul, List.nil_append]
     apply Trc.stp rfl rfl rfl; apply s_loadEN; exact rfl; simp only [byA_length, List.length_append, List.length_cons, List.length_nil, List.length_take, List.length_drop, List.length_replicate, List.length_map, Nat.mul_one, nameB_length, flat_length, List.length_set, inA_length, dsA_length, lsA_length, dA_length, lA_length] <;> omega
     exact agu_d (by assumption); dsimp only [Nat.reduceAdd, Nat.reduceMul, List.nil_append]
     apply Trc.stp rfl rfl rfl; apply s_move; exact rfl; dsimp only [Nat.reduceAdd, Nat.reduceMul, List.nil_append]
     apply Trc.stp rfl rfl rfl; apply s_move; exact rfl; dsimp only [Nat.reduceAdd, Nat.reduceMul, List.nil_append]
     apply Trc.stp rfl rfl rfl; apply s_ixe; exact rfl; exact rfl; omega; exact ds_ne (by omega); dsimp only [Nat.reduceAdd, Nat.reduceMul, List.nil_append]
     apply Trc.stp rfl rfl rfl; apply s_loadEN; exact rfl; simp only [byA_length, List.length_append, List.length_cons, List.length_nil, List.length_take, List.length_drop, List.length_replicate, List.length_map, Nat.mul_one, nameB_length, flat_length, List.length_set, inA_length, dsA_length, lsA_length, dA_length, lA_length] <;> omega
     exact agu_d (by assumption); dsimp only [Nat.reduceAdd, Nat.reduceMul, List.nil_append]
     apply Trc.stp rfl rfl rfl; apply s_callC rfl; assumption; apply evs.cons rfl; apply evs.cons rfl; exact evs.nil; dsimp only [List.cons_append, List.nil_append]
     apply ArgL.cons; exact arg_clo; apply ArgL.cons; exact arg_clo; exact ArgL.nil; exact hf; exact Nat.le_of_ble_eq_true rfl; dsimp only [Nat.reduceAdd, Nat.reduceMul, Nat.reduceSub, List.nil_append, List.cons_append, nbk, List.map_cons, List.map_nil]
     apply Trc.stp rfl rfl rfl; apply s_ge; exact rfl; exact rfl; dsimp only [Nat.reduceAdd, Nat.reduceMul, List.nil_append]
     exact Trc.done _ _ _; kernel_rfl; exact rfl; refine thn_n ?_)
    refine Gol.cond_f rfl (by simp [hq']) ?_
    (refine Gol.skip ?_; refine inBlk_n ?_; refine thn_n ?_; apply Gol.region; apply Trc.stp rfl rfl rfl; apply s_move; exact rfl; dsimp only [Nat.reduceAdd, Nat.reduceMul, List.nil_append]
     apply Trc.stp rfl rfl rfl; apply s_addn; exact rfl; exact rfl; simp <;> omega; dsimp only [Nat.reduceAdd, Nat.reduceMul, List.nil_append]
     apply Trc.stp rfl rfl rfl; apply s_assign; exact rfl; dsimp only [Nat.reduceAdd, Nat.reduceMul, List.nil_append]
     exact Trc.done _ _ _; exact rfl)
    refine rnd_n (j + 1) (by omega) (by omega) ?_
    (apply Le.mk' []; apply RnT.c; exact rfl; exact Rn.v rfl; apply RnT.c; exact rfl; exact Rn.clo inferInstance rfl; apply RnT.c; exact rfl; exact Rn.clo inferInstance rfl
     exact RnT.n; exact RnH.n; exact rfl)
  · (refine Gol.exit ?_; refine thn_x ?_; refine rnd_x ?_; refine inBlk_hit ?_; refine thn_n ?_
     refine Gol.seq ?_; apply Gol.region; apply Trc.stp rfl rfl rfl; apply s_assign; exact rfl
     dsimp only [Nat.reduceAdd, Nat.reduceMul, List.nil_append]; exact Trc.done _ _ _; exact rfl
     refine thn_n ?_; refine Gol.ret ?_)
    (apply RetQ.mk (by first | exact .inr rfl | exact .inl rfl); apply res_1 rfl; exact res_tmp rfl; exact out_val)
theorem ascL_ok (l : List Lk) (fl : Bool) (c : FuncId) [hF : FnI Tryz.prog c] (hl : l.length ≤ 10000000) (h0 : ∀ (i : Nat) x y, l[i]? = some x → l[i + 1]? = some y → ∃ q, q < 0 ∧ Fresh Tryz.prog c [.v (.agg (lockC x.n x.h x.o x.t x.u)), .v (.agg (lockC y.n y.h y.o y.t y.u))] (fun _ => .v (.int .i64 q)) []) :
    Fresh Tryz.prog 65 [.ex l.length fl (lsA l), .fn c []] (fun _ => .v (.bool true)) [] := by
  refine Fresh.of (fn := Tryz.f65) Tryz.func65 rfl (Nat.le_of_ble_eq_true rfl) fun w => ?_
  (refine Gol.seq ?_; apply Gol.region; apply Trc.stp rfl rfl rfl; apply s_assign; exact rfl
   dsimp only [Nat.reduceAdd, Nat.reduceMul, List.nil_append]; exact Trc.done _ _ _; exact rfl
   refine thn_n ?_; refine Gol.seq ?_; refine Gol.seq ?_; apply Gol.region; apply Trc.stp rfl rfl rfl; apply s_assign; exact rfl; dsimp only [Nat.reduceAdd, Nat.reduceMul, List.nil_append]
   exact Trc.done _ _ _; exact rfl; refine thn_n ?_; refine Gol.block ?_)
  refine Gol.loop (ι := Nat) (fun j => 1 ≤ j) (fun j => l.length - j) 16 (fun _ => []) (fun j => [(5, .v (.int .i64 (j : Int))), (0, .ex l.length fl (lsA l)), (1, .fn c [])]) 1 (Nat.le_refl _) ?_ ?_
  · (apply Le.mk' []; apply RnT.c; exact rfl; exact Rn.v rfl; apply RnT.c; exact rfl; exact Rn.clo inferInstance rfl; apply RnT.c; exact rfl; exact Rn.clo inferInstance rfl
     exact RnT.n; exact RnH.n; exact rfl)
  intro j hj
  (refine Gol.seq ?_; refine Gol.seq ?_; apply Gol.region; apply Trc.stp rfl rfl rfl; apply s_move
   exact rfl; dsimp only [Nat.reduceAdd, Nat.reduceMul, List.nil_append]; apply Trc.stp rfl rfl rfl; apply s_move; exact rfl; dsimp only [Nat.reduceAdd, Nat.reduceMul, List.nil_append]
   apply Trc.stp rfl rfl rfl; apply s_len; exact rfl; exact ln_ex; dsimp only [Nat.reduceAdd, Nat.reduceMul, List.nil_append]
   apply Trc.stp rfl rfl rfl; apply s_ltn; exact rfl; exact rfl; dsimp only [Nat.reduceAdd, Nat.reduceMul, List.nil_append]
   exact Trc.done _ _ _; exact rfl; refine thn_n ?_)
  refine Gol.cond rfl (fun h => ?_) (fun h => ?_)
  · have hlt : j < l.length := of_decide_eq_true h
    obtain ⟨x, hx⟩ : ∃ x, l[j - 1]? = some x := ⟨l[j - 1], List.getElem?_eq_getElem (by omega)⟩
    obtain ⟨y, hy⟩ : ∃ y, l[j]? = some y := ⟨l[j], List.getElem?_eq_getElem hlt⟩
    have hjj : j - 1 + 1 = j := by omega
    obtain ⟨q, hq, hf⟩ := h0 (j - 1) _ _ hx (by rw [hjj]; exact hy)
    have hq' : ¬ 0 ≤ q := by omega
    (refine Gol.skip ?_; refine thn_n ?_; refine Gol.seq ?_; refine Gol.block ?_; refine Gol.seq ?_
     apply Gol.any; kernel_rfl; apply Trc.stp rfl rfl rfl; apply s_move; exact rfl; dsimp only [Nat.reduceAdd, Nat.reduceMul, List.nil_append]
     apply Trc.stp rfl rfl rfl; apply s_move; exact rfl; dsimp only [Nat.reduceAdd, Nat.reduceMul, List.nil_append]
     apply Trc.stp rfl rfl rfl; apply s_move; exact rfl; dsimp only [Nat.reduceAdd, Nat.reduceMul, List.nil_append]
     apply Trc.stp rfl rfl rfl; apply s_subn; exact rfl; exact rfl; omega; omega; dsimp only [Nat.reduceAdd, Nat.reduceMul, Nat.reduceSub, List.nil_append, List.cons_append, nbk, List.map_cons, List.map_nil]
     apply Trc.stp rfl rfl rfl; apply s_ixe; exact rfl; exact rfl; omega; exact ls_ne (by omega); dsimp only [Nat.reduceAdd, Nat.reduceMul, List.nil_append]
     apply Trc.stp rfl rfl rfl; apply s_loadEN; exact rfl; simp only [byA_length, List.length_append, List.length_cons, List.length_nil, List.length_take, List.length_drop, List.length_replicate, List.length_map, Nat.mul_one, nameB_length, flat_length, List.length_set, inA_length, dsA_length, lsA_length, dA_length, lA_length] <;> omega
     exact agu_l (by assumption); dsimp only [Nat.reduceAdd, Nat.reduceMul, List.nil_append]
     apply Trc.stp rfl rfl rfl; apply s_move; exact rfl; dsimp only [Nat.reduceAdd, Nat.reduceMul, List.nil_append]
     apply Trc.stp rfl rfl rfl; apply s_move; exact rfl; dsimp only [Nat.reduceAdd, Nat.reduceMul, List.nil_append]
     apply Trc.stp rfl rfl rfl; apply s_ixe; exact rfl; exact rfl; omega; exact ls_ne (by omega); dsimp only [Nat.reduceAdd, Nat.reduceMul, List.nil_append]
     apply Trc.stp rfl rfl rfl; apply s_loadEN; exact rfl; simp only [byA_length, List.length_append, List.length_cons, List.length_nil, List.length_take, List.length_drop, List.length_replicate, List.length_map, Nat.mul_one, nameB_length, flat_length, List.length_set, inA_length, dsA_length, lsA_length, dA_length, lA_length] <;> omega
     exact agu_l (by assumption); dsimp only [Nat.reduceAdd, Nat.reduceMul, List.nil_append]
     apply Trc.stp rfl rfl rfl; apply s_callC rfl; assumption; apply evs.cons rfl; apply evs.cons rfl; exact evs.nil; dsimp only [List.cons_append, List.nil_append]
     apply ArgL.cons; exact arg_clo; apply ArgL.cons; exact arg_clo; exact ArgL.nil; exact hf; exact Nat.le_of_ble_eq_true rfl; dsimp only [Nat.reduceAdd, Nat.reduceMul, Nat.reduceSub, List.nil_append, List.cons_append, nbk, List.map_cons, List.map_nil]
     apply Trc.stp rfl rfl rfl; apply s_ge; exact rfl; exact rfl; dsimp only [Nat.reduceAdd, Nat.reduceMul, List.nil_append]
     exact Trc.done _ _ _; kernel_rfl; exact rfl; refine thn_n ?_)
    refine Gol.cond_f rfl (by simp [hq']) ?_
    (refine Gol.skip ?_; refine inBlk_n ?_; refine thn_n ?_; apply Gol.region; apply Trc.stp rfl rfl rfl; apply s_move; exact rfl; dsimp only [Nat.reduceAdd, Nat.reduceMul, List.nil_append]
     apply Trc.stp rfl rfl rfl; apply s_addn; exact rfl; exact rfl; simp <;> omega; dsimp only [Nat.reduceAdd, Nat.reduceMul, List.nil_append]
     apply Trc.stp rfl rfl rfl; apply s_assign; exact rfl; dsimp only [Nat.reduceAdd, Nat.reduceMul, List.nil_append]
     exact Trc.done _ _ _; exact rfl)
    refine rnd_n (j + 1) (by omega) (by omega) ?_
    (apply Le.mk' []; apply RnT.c; exact rfl; exact Rn.v rfl; apply RnT.c; exact rfl; exact Rn.clo inferInstance rfl; apply RnT.c; exact rfl; exact Rn.clo inferInstance rfl
     exact RnT.n; exact RnH.n; exact rfl)
  · (refine Gol.exit ?_; refine thn_x ?_; refine rnd_x ?_; refine inBlk_hit ?_; refine thn_n ?_
     refine Gol.seq ?_; apply Gol.region; apply Trc.stp rfl rfl rfl; apply s_assign; exact rfl
     dsimp only [Nat.reduceAdd, Nat.reduceMul, List.nil_append]; exact Trc.done _ _ _; exact rfl
     refine thn_n ?_; refine Gol.ret ?_)
    (apply RetQ.mk (by first | exact .inr rfl | exact .inl rfl); apply res_1 rfl; exact res_tmp rfl; exact out_val)
theorem ascN_ok (l : List UInt64) (fl : Bool) (c : FuncId) [hF : FnI Tryz.prog c] (hl : l.length ≤ 10000000) (h0 : ∀ (i : Nat) x y, l[i]? = some x → l[i + 1]? = some y → ∃ q, q < 0 ∧ Fresh Tryz.prog c [.v (.agg (nameC x)), .v (.agg (nameC y))] (fun _ => .v (.int .i64 q)) []) :
    Fresh Tryz.prog 66 [.ex l.length fl (byA (flat l)), .fn c []] (fun _ => .v (.bool true)) [] := by
  refine Fresh.of (fn := Tryz.f66) Tryz.func66 rfl (Nat.le_of_ble_eq_true rfl) fun w => ?_
  (refine Gol.seq ?_; apply Gol.region; apply Trc.stp rfl rfl rfl; apply s_assign; exact rfl
   dsimp only [Nat.reduceAdd, Nat.reduceMul, List.nil_append]; exact Trc.done _ _ _; exact rfl
   refine thn_n ?_; refine Gol.seq ?_; refine Gol.seq ?_; apply Gol.region; apply Trc.stp rfl rfl rfl; apply s_assign; exact rfl; dsimp only [Nat.reduceAdd, Nat.reduceMul, List.nil_append]
   exact Trc.done _ _ _; exact rfl; refine thn_n ?_; refine Gol.block ?_)
  refine Gol.loop (ι := Nat) (fun j => 1 ≤ j) (fun j => l.length - j) 16 (fun _ => []) (fun j => [(5, .v (.int .i64 (j : Int))), (0, .ex l.length fl (byA (flat l))), (1, .fn c [])]) 1 (Nat.le_refl _) ?_ ?_
  · (apply Le.mk' []; apply RnT.c; exact rfl; exact Rn.v rfl; apply RnT.c; exact rfl; exact Rn.clo inferInstance rfl; apply RnT.c; exact rfl; exact Rn.clo inferInstance rfl
     exact RnT.n; exact RnH.n; exact rfl)
  intro j hj
  (refine Gol.seq ?_; refine Gol.seq ?_; apply Gol.region; apply Trc.stp rfl rfl rfl; apply s_move
   exact rfl; dsimp only [Nat.reduceAdd, Nat.reduceMul, List.nil_append]; apply Trc.stp rfl rfl rfl; apply s_move; exact rfl; dsimp only [Nat.reduceAdd, Nat.reduceMul, List.nil_append]
   apply Trc.stp rfl rfl rfl; apply s_len; exact rfl; exact ln_ex; dsimp only [Nat.reduceAdd, Nat.reduceMul, List.nil_append]
   apply Trc.stp rfl rfl rfl; apply s_ltn; exact rfl; exact rfl; dsimp only [Nat.reduceAdd, Nat.reduceMul, List.nil_append]
   exact Trc.done _ _ _; exact rfl; refine thn_n ?_)
  refine Gol.cond rfl (fun h => ?_) (fun h => ?_)
  · have hlt : j < l.length := of_decide_eq_true h
    have hx : l[j - 1]? = some (l.getD (j - 1) 0) := by rw [List.getD_eq_getElem?_getD, List.getElem?_eq_getElem (show j - 1 < l.length by omega)]; rfl
    have hy : l[j]? = some (l.getD j 0) := by rw [List.getD_eq_getElem?_getD, List.getElem?_eq_getElem hlt]; rfl
    have hjj : j - 1 + 1 = j := by omega
    obtain ⟨q, hq, hf⟩ := h0 (j - 1) _ _ hx (by rw [hjj]; exact hy)
    have hq' : ¬ 0 ≤ q := by omega
    (refine Gol.skip ?_; refine thn_n ?_; refine Gol.seq ?_; refine Gol.block ?_; refine Gol.seq ?_
     apply Gol.any; kernel_rfl; apply Trc.stp rfl rfl rfl; apply s_move; exact rfl; dsimp only [Nat.reduceAdd, Nat.reduceMul, List.nil_append]
     apply Trc.stp rfl rfl rfl; apply s_move; exact rfl; dsimp only [Nat.reduceAdd, Nat.reduceMul, List.nil_append]
     apply Trc.stp rfl rfl rfl; apply s_move; exact rfl; dsimp only [Nat.reduceAdd, Nat.reduceMul, List.nil_append]
     apply Trc.stp rfl rfl rfl; apply s_subn; exact rfl; exact rfl; omega; omega; dsimp only [Nat.reduceAdd, Nat.reduceMul, Nat.reduceSub, List.nil_append, List.cons_append, nbk, List.map_cons, List.map_nil]
     apply Trc.stp rfl rfl rfl; apply s_ixe; exact rfl; exact rfl; omega; exact flat_ne (by omega); dsimp only [Nat.reduceAdd, Nat.reduceMul, List.nil_append]
     apply Trc.stp rfl rfl rfl; apply s_loadEN; exact rfl; simp only [byA_length, List.length_append, List.length_cons, List.length_nil, List.length_take, List.length_drop, List.length_replicate, List.length_map, Nat.mul_one, nameB_length, flat_length, List.length_set, inA_length, dsA_length, lsA_length, dA_length, lA_length] <;> omega
     exact agu_nm (by omega); dsimp only [Nat.reduceAdd, Nat.reduceMul, List.nil_append]
     apply Trc.stp rfl rfl rfl; apply s_move; exact rfl; dsimp only [Nat.reduceAdd, Nat.reduceMul, List.nil_append]
     apply Trc.stp rfl rfl rfl; apply s_move; exact rfl; dsimp only [Nat.reduceAdd, Nat.reduceMul, List.nil_append]
     apply Trc.stp rfl rfl rfl; apply s_ixe; exact rfl; exact rfl; omega; exact flat_ne (by omega); dsimp only [Nat.reduceAdd, Nat.reduceMul, List.nil_append]
     apply Trc.stp rfl rfl rfl; apply s_loadEN; exact rfl; simp only [byA_length, List.length_append, List.length_cons, List.length_nil, List.length_take, List.length_drop, List.length_replicate, List.length_map, Nat.mul_one, nameB_length, flat_length, List.length_set, inA_length, dsA_length, lsA_length, dA_length, lA_length] <;> omega
     exact agu_nm (by omega); dsimp only [Nat.reduceAdd, Nat.reduceMul, List.nil_append]
     apply Trc.stp rfl rfl rfl; apply s_callC rfl; assumption; apply evs.cons rfl; apply evs.cons rfl; exact evs.nil; dsimp only [List.cons_append, List.nil_append]
     apply ArgL.cons; exact arg_clo; apply ArgL.cons; exact arg_clo; exact ArgL.nil; exact hf; exact Nat.le_of_ble_eq_true rfl; dsimp only [Nat.reduceAdd, Nat.reduceMul, Nat.reduceSub, List.nil_append, List.cons_append, nbk, List.map_cons, List.map_nil]
     apply Trc.stp rfl rfl rfl; apply s_ge; exact rfl; exact rfl; dsimp only [Nat.reduceAdd, Nat.reduceMul, List.nil_append]
     exact Trc.done _ _ _; kernel_rfl; exact rfl; refine thn_n ?_)
    refine Gol.cond_f rfl (by simp [hq']) ?_
    (refine Gol.skip ?_; refine inBlk_n ?_; refine thn_n ?_; apply Gol.region; apply Trc.stp rfl rfl rfl; apply s_move; exact rfl; dsimp only [Nat.reduceAdd, Nat.reduceMul, List.nil_append]
     apply Trc.stp rfl rfl rfl; apply s_addn; exact rfl; exact rfl; simp <;> omega; dsimp only [Nat.reduceAdd, Nat.reduceMul, List.nil_append]
     apply Trc.stp rfl rfl rfl; apply s_assign; exact rfl; dsimp only [Nat.reduceAdd, Nat.reduceMul, List.nil_append]
     exact Trc.done _ _ _; exact rfl)
    refine rnd_n (j + 1) (by omega) (by omega) ?_
    (apply Le.mk' []; apply RnT.c; exact rfl; exact Rn.v rfl; apply RnT.c; exact rfl; exact Rn.clo inferInstance rfl; apply RnT.c; exact rfl; exact Rn.clo inferInstance rfl
     exact RnT.n; exact RnH.n; exact rfl)
  · (refine Gol.exit ?_; refine thn_x ?_; refine rnd_x ?_; refine inBlk_hit ?_; refine thn_n ?_
     refine Gol.seq ?_; apply Gol.region; apply Trc.stp rfl rfl rfl; apply s_assign; exact rfl
     dsimp only [Nat.reduceAdd, Nat.reduceMul, List.nil_append]; exact Trc.done _ _ _; exact rfl
     refine thn_n ?_; refine Gol.ret ?_)
    (apply RetQ.mk (by first | exact .inr rfl | exact .inl rfl); apply res_1 rfl; exact res_tmp rfl; exact out_val)
theorem compareLocks_ok (y x : Lk) : Fresh Tryz.prog 48 [.v (.agg (lockC y.n y.h y.o y.t y.u)), .v (.agg (lockC x.n x.h x.o x.t x.u))] (fun _ => .v (.int .i64 (cmpN y.n x.n))) [] := by
  refine Fresh.of (fn := Tryz.f48) Tryz.func48 rfl (Nat.le_of_ble_eq_true rfl) fun w => ?_
  (refine Gol.seq ?_; apply Gol.region; apply Trc.stp rfl rfl rfl; apply s_box; exact rfl
   exact rfl; dsimp only [Nat.reduceAdd, Nat.reduceMul, Nat.reduceSub, List.nil_append, List.cons_append, nbk, List.map_cons, List.map_nil]; apply Trc.stp rfl rfl rfl; apply s_box; exact rfl; exact rfl; dsimp only [Nat.reduceAdd, Nat.reduceMul, Nat.reduceSub, List.nil_append, List.cons_append, nbk, List.map_cons, List.map_nil]
   apply Trc.stp rfl rfl rfl; apply s_assign; exact rfl; dsimp only [Nat.reduceAdd, Nat.reduceMul, List.nil_append]
   exact Trc.done _ _ _; exact rfl; refine thn_n ?_; refine Gol.seq ?_; apply Gol.region; apply Trc.stp rfl rfl rfl; apply s_fieldAddr; exact rfl; dsimp only [Nat.reduceAdd, Nat.reduceMul, List.nil_append]
   apply Trc.stp rfl rfl rfl; apply s_loadN; exact rfl; exact rfl; exact Nat.le_of_ble_eq_true rfl; exact agu_nm8 rfl; dsimp only [Nat.reduceAdd, Nat.reduceMul, List.nil_append]
   apply Trc.stp rfl rfl rfl; apply s_fieldAddr; exact rfl; dsimp only [Nat.reduceAdd, Nat.reduceMul, List.nil_append]
   apply Trc.stp rfl rfl rfl; apply s_loadN; exact rfl; exact rfl; exact Nat.le_of_ble_eq_true rfl; exact agu_nm8 rfl; dsimp only [Nat.reduceAdd, Nat.reduceMul, List.nil_append]
   apply Trc.stp rfl rfl rfl; apply s_call (f := 67) rfl; apply evs.cons rfl; apply evs.cons rfl; exact evs.nil
   apply ArgL.cons; exact arg_clo; apply ArgL.cons; exact arg_clo; exact ArgL.nil; exact compareNames_ok _ _; exact Nat.le_of_ble_eq_true rfl; dsimp only [Nat.reduceAdd, Nat.reduceMul, Nat.reduceSub, List.nil_append, List.cons_append, nbk, List.map_cons, List.map_nil]
   apply Trc.stp rfl rfl rfl; apply s_assign; exact rfl; dsimp only [Nat.reduceAdd, Nat.reduceMul, List.nil_append]
   exact Trc.done _ _ _; exact rfl; refine thn_n ?_; refine Gol.ret ?_)
  (apply RetQ.mk (by first | exact .inr rfl | exact .inl rfl); apply res_1 rfl; exact res_tmp rfl; exact out_val)
theorem validate_ok (s : Stt) (hs : Sm s) (h : ValidS s) : Fresh Tryz.prog 29 [stA s] (fun _ => .v (.int .i64 0)) [] := by
  obtain ⟨h1, h2, h3, h4⟩ := hs
  obtain ⟨v1, v2, v3, v4, v5, v6, v7, v8, v9, v10⟩ := h
  have g1 : ¬ s.seqs.length < 1 := by omega
  have g2 : ¬ 16 < s.seqs.length := by omega
  have g3 : ¬ s.guilty < 0 := by omega
  have g4 : ¬ 1023 < s.guilty := by omega
  unfold stA
  refine Fresh.of (fn := Tryz.f29) Tryz.func29 rfl (Nat.le_of_ble_eq_true rfl) fun w => ?_
  (refine Gol.seq ?_; apply Gol.region; apply Trc.stp rfl rfl rfl; apply s_box; exact rfl
   exact rfl; dsimp only [Nat.reduceAdd, Nat.reduceMul, Nat.reduceSub, List.nil_append, List.cons_append, nbk, List.map_cons, List.map_nil]; apply Trc.stp rfl rfl rfl; apply s_assign; exact rfl; dsimp only [Nat.reduceAdd, Nat.reduceMul, List.nil_append]
   exact Trc.done _ _ _; exact rfl; refine thn_n ?_; refine Gol.seq ?_; apply Gol.region; apply Trc.stp rfl rfl rfl; apply s_assign; exact rfl; dsimp only [Nat.reduceAdd, Nat.reduceMul, List.nil_append]
   exact Trc.done _ _ _; exact rfl; refine thn_n ?_; refine Gol.seq ?_; apply Gol.region; apply Trc.stp rfl rfl rfl; apply s_assign; exact rfl; dsimp only [Nat.reduceAdd, Nat.reduceMul, List.nil_append]
   exact Trc.done _ _ _; exact rfl; refine thn_n ?_; refine Gol.seq ?_; apply Gol.region; apply Trc.stp rfl rfl rfl; apply s_assign; exact rfl; dsimp only [Nat.reduceAdd, Nat.reduceMul, List.nil_append]
   exact Trc.done _ _ _; exact rfl; refine thn_n ?_; refine Gol.seq ?_; refine Gol.seq ?_; apply Gol.region
   apply Trc.stp rfl rfl rfl; apply s_fieldAddr; exact rfl; dsimp only [Nat.reduceAdd, Nat.reduceMul, List.nil_append]
   apply Trc.stp rfl rfl rfl; apply s_load; exact rfl; exact rfl; exact rfl; dsimp only [Nat.reduceAdd, Nat.reduceMul, List.nil_append]
   apply Trc.stp rfl rfl rfl; apply s_move; exact rfl; dsimp only [Nat.reduceAdd, Nat.reduceMul, List.nil_append]
   apply Trc.stp rfl rfl rfl; apply s_call (f := 60) rfl; apply evs.cons rfl
   apply evs.cons rfl; exact evs.nil; apply ArgL.cons; exact arg_clo; apply ArgL.cons; exact arg_clo; exact ArgL.nil; exact contD_no s.cells _ _ (by omega) (fun d hd => badCell_no d (v1 d hd))
   exact Nat.le_of_ble_eq_true rfl; dsimp only [Nat.reduceAdd, Nat.reduceMul, Nat.reduceSub, List.nil_append, List.cons_append, nbk, List.map_cons, List.map_nil]
   apply Trc.stp rfl rfl rfl; apply s_move; exact rfl; dsimp only [Nat.reduceAdd, Nat.reduceMul, List.nil_append]
   apply Trc.step rfl rfl; apply wnt_g; exact rfl; exact rfl; exact rfl; rfl; apply s_fieldAddr; exact rfl; dsimp only [Nat.reduceAdd, Nat.reduceMul, List.nil_append]
   apply Trc.step rfl rfl; apply wnt_g; exact rfl; exact rfl; exact rfl; rfl; apply s_load; exact rfl; exact rfl; exact rfl; dsimp only [Nat.reduceAdd, Nat.reduceMul, List.nil_append]
   apply Trc.step rfl rfl; apply wnt_g; exact rfl; exact rfl; exact rfl; rfl; apply s_call (f := 61) rfl
   apply evs.cons rfl; apply evs.cons rfl; exact evs.nil; apply ArgL.cons; exact arg_clo; apply ArgL.cons; exact arg_clo; exact ArgL.nil; exact ascD_ok s.cells _ _ (by omega) (fun i x y hx hy => ⟨_, v2 i x y hx hy, compareCells_ok x y⟩)
   exact Nat.le_of_ble_eq_true rfl; dsimp only [Nat.reduceAdd, Nat.reduceMul, Nat.reduceSub, List.nil_append, List.cons_append, nbk, List.map_cons, List.map_nil]
   apply Trc.step rfl rfl; apply wnt_g; exact rfl; exact rfl; exact rfl; rfl; apply s_not; exact rfl; dsimp only [Nat.reduceAdd, Nat.reduceMul, List.nil_append]
   apply Trc.stp rfl rfl rfl; apply s_pick_f; exact rfl; rfl; exact rfl; dsimp only [Nat.reduceAdd, Nat.reduceMul, List.nil_append]
   apply Trc.stp rfl rfl rfl; apply s_move; exact rfl; dsimp only [Nat.reduceAdd, Nat.reduceMul, List.nil_append]
   apply Trc.step rfl rfl; apply wnt_g; exact rfl; exact rfl; exact rfl; rfl; apply s_fieldAddr; exact rfl; dsimp only [Nat.reduceAdd, Nat.reduceMul, List.nil_append]
   apply Trc.step rfl rfl; apply wnt_g; exact rfl; exact rfl; exact rfl; rfl; apply s_load; exact rfl; exact rfl; exact rfl; dsimp only [Nat.reduceAdd, Nat.reduceMul, List.nil_append]
   apply Trc.step rfl rfl; apply wnt_g; exact rfl; exact rfl; exact rfl; rfl; apply s_len; exact rfl; exact ln_ex; dsimp only [Nat.reduceAdd, Nat.reduceMul, List.nil_append]
   apply Trc.step rfl rfl; apply wnt_g; exact rfl; exact rfl; exact rfl; rfl; apply s_ltn; exact rfl; exact rfl; dsimp only [Nat.reduceAdd, Nat.reduceMul, List.nil_append]
   apply Trc.stp rfl rfl rfl; apply s_pick_f; exact rfl; rfl; exact rfl; dsimp only [Nat.reduceAdd, Nat.reduceMul, List.nil_append]
   apply Trc.stp rfl rfl rfl; apply s_move; exact rfl; dsimp only [Nat.reduceAdd, Nat.reduceMul, List.nil_append]
   apply Trc.step rfl rfl; apply wnt_g; exact rfl; exact rfl; exact rfl; (focus (simp only [*]; rfl)); apply s_fieldAddr; exact rfl; dsimp only [Nat.reduceAdd, Nat.reduceMul, List.nil_append]
   apply Trc.step rfl rfl; apply wnt_g; exact rfl; exact rfl; exact rfl; (focus (simp only [*]; rfl)); apply s_load; exact rfl; exact rfl
   exact rfl; dsimp only [Nat.reduceAdd, Nat.reduceMul, List.nil_append]; apply Trc.step rfl rfl
   apply wnt_g; exact rfl; exact rfl; exact rfl; (focus (simp only [*]; rfl)); apply s_len; exact rfl; exact ln_ex; dsimp only [Nat.reduceAdd, Nat.reduceMul, List.nil_append]
   apply Trc.step rfl rfl; apply wnt_g; exact rfl; exact rfl; exact rfl; (focus (simp only [*]; rfl)); apply s_gtn; exact rfl; exact rfl
   dsimp only [Nat.reduceAdd, Nat.reduceMul, List.nil_append]; apply Trc.stp rfl rfl rfl; apply s_pick_f; exact rfl; (focus (simp only [*]; rfl)); exact rfl; dsimp only [Nat.reduceAdd, Nat.reduceMul, List.nil_append]
   apply Trc.stp rfl rfl rfl; apply s_move; exact rfl; dsimp only [Nat.reduceAdd, Nat.reduceMul, List.nil_append]
   apply Trc.step rfl rfl; apply wnt_g; exact rfl; exact rfl; exact rfl; (focus (simp only [*]; rfl)); apply s_fieldAddr; exact rfl; dsimp only [Nat.reduceAdd, Nat.reduceMul, List.nil_append]
   apply Trc.step rfl rfl; apply wnt_g; exact rfl; exact rfl; exact rfl; (focus (simp only [*]; rfl)); apply s_load; exact rfl; exact rfl
   exact rfl; dsimp only [Nat.reduceAdd, Nat.reduceMul, List.nil_append]; apply Trc.step rfl rfl
   apply wnt_g; exact rfl; exact rfl; exact rfl; (focus (simp only [*]; rfl)); apply s_move; exact rfl; dsimp only [Nat.reduceAdd, Nat.reduceMul, List.nil_append]
   apply Trc.step rfl rfl; apply wnt_g; exact rfl; exact rfl; exact rfl; (focus (simp only [*]; rfl)); apply s_call (f := 63) rfl
   apply evs.cons rfl; apply evs.cons rfl; exact evs.nil; apply ArgL.cons; exact arg_clo; apply ArgL.cons; exact arg_clo; exact ArgL.nil; exact contI_no s.seqs _ _ (by omega) (fun d hd => badSeq_no d (v5 d hd))
   exact Nat.le_of_ble_eq_true rfl; dsimp only [Nat.reduceAdd, Nat.reduceMul, Nat.reduceSub, List.nil_append, List.cons_append, nbk, List.map_cons, List.map_nil]
   apply Trc.stp rfl rfl rfl; apply s_pick_f; exact rfl; (focus (simp only [*]; rfl)); exact rfl; dsimp only [Nat.reduceAdd, Nat.reduceMul, List.nil_append]
   apply Trc.stp rfl rfl rfl; apply s_move; exact rfl; dsimp only [Nat.reduceAdd, Nat.reduceMul, List.nil_append]
   apply Trc.step rfl rfl; apply wnt_g; exact rfl; exact rfl; exact rfl; rfl; apply s_fieldAddr; exact rfl; dsimp only [Nat.reduceAdd, Nat.reduceMul, List.nil_append]
   apply Trc.step rfl rfl; apply wnt_g; exact rfl; exact rfl; exact rfl; rfl; apply s_load; exact rfl; exact rfl; exact rfl; dsimp only [Nat.reduceAdd, Nat.reduceMul, List.nil_append]
   apply Trc.step rfl rfl; apply wnt_g; exact rfl; exact rfl; exact rfl; rfl; apply s_move; exact rfl; dsimp only [Nat.reduceAdd, Nat.reduceMul, List.nil_append]
   apply Trc.step rfl rfl; apply wnt_g; exact rfl; exact rfl; exact rfl; rfl; apply s_call (f := 64) rfl
   apply evs.cons rfl; apply evs.cons rfl; exact evs.nil; apply ArgL.cons; exact arg_clo; apply ArgL.cons; exact arg_clo; exact ArgL.nil; exact contL_no s.locks _ _ (by omega) (fun d hd => badLock_no d (v6 d hd))
   exact Nat.le_of_ble_eq_true rfl; dsimp only [Nat.reduceAdd, Nat.reduceMul, Nat.reduceSub, List.nil_append, List.cons_append, nbk, List.map_cons, List.map_nil]
   apply Trc.stp rfl rfl rfl; apply s_pick_f; exact rfl; rfl; exact rfl; dsimp only [Nat.reduceAdd, Nat.reduceMul, List.nil_append]
   apply Trc.stp rfl rfl rfl; apply s_move; exact rfl; dsimp only [Nat.reduceAdd, Nat.reduceMul, List.nil_append]
   apply Trc.step rfl rfl; apply wnt_g; exact rfl; exact rfl; exact rfl; rfl; apply s_fieldAddr; exact rfl; dsimp only [Nat.reduceAdd, Nat.reduceMul, List.nil_append]
   apply Trc.step rfl rfl; apply wnt_g; exact rfl; exact rfl; exact rfl; rfl; apply s_load; exact rfl; exact rfl; exact rfl; dsimp only [Nat.reduceAdd, Nat.reduceMul, List.nil_append]
   apply Trc.step rfl rfl; apply wnt_g; exact rfl; exact rfl; exact rfl; rfl; apply s_call (f := 65) rfl
   apply evs.cons rfl; apply evs.cons rfl; exact evs.nil; apply ArgL.cons; exact arg_clo; apply ArgL.cons; exact arg_clo; exact ArgL.nil; exact ascL_ok s.locks _ _ (by omega) (fun i x y hx hy => ⟨_, v7 i x y hx hy, compareLocks_ok x y⟩)
   exact Nat.le_of_ble_eq_true rfl; dsimp only [Nat.reduceAdd, Nat.reduceMul, Nat.reduceSub, List.nil_append, List.cons_append, nbk, List.map_cons, List.map_nil]
   apply Trc.step rfl rfl; apply wnt_g; exact rfl; exact rfl; exact rfl; rfl; apply s_not; exact rfl; dsimp only [Nat.reduceAdd, Nat.reduceMul, List.nil_append]
   apply Trc.stp rfl rfl rfl; apply s_pick_f; exact rfl; rfl; exact rfl; dsimp only [Nat.reduceAdd, Nat.reduceMul, List.nil_append]
   apply Trc.stp rfl rfl rfl; apply s_move; exact rfl; dsimp only [Nat.reduceAdd, Nat.reduceMul, List.nil_append]
   apply Trc.step rfl rfl; apply wnt_g; exact rfl; exact rfl; exact rfl; rfl; apply s_fieldAddr; exact rfl; dsimp only [Nat.reduceAdd, Nat.reduceMul, List.nil_append]
   apply Trc.step rfl rfl; apply wnt_g; exact rfl; exact rfl; exact rfl; rfl; apply s_load; exact rfl; exact rfl; exact rfl; dsimp only [Nat.reduceAdd, Nat.reduceMul, List.nil_append]
   apply Trc.step rfl rfl; apply wnt_g; exact rfl; exact rfl; exact rfl; rfl; apply s_call (f := 66) rfl
   apply evs.cons rfl; apply evs.cons rfl; exact evs.nil; apply ArgL.cons; exact arg_clo; apply ArgL.cons; exact arg_clo; exact ArgL.nil; exact ascN_ok s.applied _ _ (by omega) (fun i x y hx hy => ⟨_, v8 i x y hx hy, compareNames_ok x y⟩)
   exact Nat.le_of_ble_eq_true rfl; dsimp only [Nat.reduceAdd, Nat.reduceMul, Nat.reduceSub, List.nil_append, List.cons_append, nbk, List.map_cons, List.map_nil]
   apply Trc.step rfl rfl; apply wnt_g; exact rfl; exact rfl; exact rfl; rfl; apply s_not; exact rfl; dsimp only [Nat.reduceAdd, Nat.reduceMul, List.nil_append]
   apply Trc.stp rfl rfl rfl; apply s_pick_f; exact rfl; rfl; exact rfl; dsimp only [Nat.reduceAdd, Nat.reduceMul, List.nil_append]
   apply Trc.stp rfl rfl rfl; apply s_move; exact rfl; dsimp only [Nat.reduceAdd, Nat.reduceMul, List.nil_append]
   apply Trc.step rfl rfl; apply wnt_g; exact rfl; exact rfl; exact rfl; rfl; apply s_fieldAddr; exact rfl; dsimp only [Nat.reduceAdd, Nat.reduceMul, List.nil_append]
   apply Trc.step rfl rfl; apply wnt_g; exact rfl; exact rfl; exact rfl; rfl; apply s_load; exact rfl; exact rfl; exact rfl; dsimp only [Nat.reduceAdd, Nat.reduceMul, List.nil_append]
   apply Trc.step rfl rfl; apply wnt_g; exact rfl; exact rfl; exact rfl; rfl; apply s_lt; exact rfl; exact rfl; dsimp only [Nat.reduceAdd, Nat.reduceMul, List.nil_append]
   apply Trc.stp rfl rfl rfl; apply s_pick_f; exact rfl; rfl; exact rfl; dsimp only [Nat.reduceAdd, Nat.reduceMul, List.nil_append]
   apply Trc.stp rfl rfl rfl; apply s_move; exact rfl; dsimp only [Nat.reduceAdd, Nat.reduceMul, List.nil_append]
   apply Trc.step rfl rfl; apply wnt_g; exact rfl; exact rfl; exact rfl; (focus (simp only [*]; rfl)); apply s_fieldAddr; exact rfl; dsimp only [Nat.reduceAdd, Nat.reduceMul, List.nil_append]
   apply Trc.step rfl rfl; apply wnt_g; exact rfl; exact rfl; exact rfl; (focus (simp only [*]; rfl)); apply s_load; exact rfl; exact rfl
   exact rfl; dsimp only [Nat.reduceAdd, Nat.reduceMul, List.nil_append]; apply Trc.step rfl rfl
   apply wnt_g; exact rfl; exact rfl; exact rfl; (focus (simp only [*]; rfl)); apply s_gt; exact rfl; exact rfl; dsimp only [Nat.reduceAdd, Nat.reduceMul, List.nil_append]
   apply Trc.stp rfl rfl rfl; apply s_pick_f; exact rfl; (focus (simp only [*]; rfl)); exact rfl; dsimp only [Nat.reduceAdd, Nat.reduceMul, List.nil_append]
   exact Trc.done _ _ _; exact rfl; refine thn_n ?_)
  refine Gol.cond_f rfl (by simp [g4]) ?_
  (refine Gol.skip ?_; refine thn_n ?_; refine Gol.seq ?_; apply Gol.region; apply Trc.stp rfl rfl rfl; apply s_assign; exact rfl; dsimp only [Nat.reduceAdd, Nat.reduceMul, List.nil_append]
   exact Trc.done _ _ _; exact rfl; refine thn_n ?_; refine Gol.ret ?_)
  (apply RetQ.mk (by first | exact .inr rfl | exact .inl rfl); apply res_1 rfl; exact res_tmp rfl; exact out_val)
theorem amount_ok (n : Int) (h : 0 ≤ n ∧ n ≤ 1099511627776) : Fresh Tryz.prog 96 [.v (.int .i64 n)] (fun _ => .v (.bool true)) [] := by
  have h1 := h.1
  apply Fresh.bool
  · refine Fresh.of (fn := Tryz.f96) Tryz.func96 rfl (Nat.le_of_ble_eq_true rfl) fun w => ?_
    (refine Gol.seq ?_; apply Gol.region; apply Trc.stp rfl rfl rfl; apply s_assign; exact rfl
     dsimp only [Nat.reduceAdd, Nat.reduceMul, List.nil_append]; exact Trc.done _ _ _; exact rfl
     refine thn_n ?_; refine Gol.seq ?_; apply Gol.region; apply Trc.stp rfl rfl rfl; apply s_move
     exact rfl; dsimp only [Nat.reduceAdd, Nat.reduceMul, List.nil_append]; apply Trc.stp rfl rfl rfl; apply s_ge; exact rfl; exact rfl; dsimp only [Nat.reduceAdd, Nat.reduceMul, List.nil_append]
     apply Trc.stp rfl rfl rfl; apply s_move; exact rfl; dsimp only [Nat.reduceAdd, Nat.reduceMul, List.nil_append]
     apply Trc.step rfl rfl; apply wnt_g; exact rfl; exact rfl; exact rfl; (focus (simp only [*]; rfl)); apply s_move; exact rfl; dsimp only [Nat.reduceAdd, Nat.reduceMul, List.nil_append]
     apply Trc.step rfl rfl; apply wnt_g; exact rfl; exact rfl; exact rfl; (focus (simp only [*]; rfl)); apply s_le; exact rfl; exact rfl
     dsimp only [Nat.reduceAdd, Nat.reduceMul, List.nil_append]; apply Trc.stp rfl rfl rfl; apply s_pick_t; exact rfl; (focus (simp only [*]; rfl)); exact rfl; dsimp only [Nat.reduceAdd, Nat.reduceMul, List.nil_append]
     apply Trc.stp rfl rfl rfl; apply s_assign; exact rfl; dsimp only [Nat.reduceAdd, Nat.reduceMul, List.nil_append]
     exact Trc.done _ _ _; exact rfl; refine thn_n ?_; refine Gol.ret ?_)
    (apply RetQ.mk (by first | exact .inr rfl | exact .inl rfl); apply res_1 rfl; exact res_tmp rfl; exact out_val)
  · simp [h.2]
theorem valGen_yes (V A : List AV) [hV : CloL V] [hA : CloL A] : Fresh Tryz.prog 54 [.ag [.v (.int .i64 1), .v (.int .i64 3), .ex 1 false V, .ex 1 false A, .ex 1 false (inA [7])]] (fun _ => .v (.int .i64 0)) [] := by
  refine Fresh.of (fn := Tryz.f54) Tryz.func54 rfl (Nat.le_of_ble_eq_true rfl) fun w => ?_
  (refine Gol.seq ?_; apply Gol.region; apply Trc.stp rfl rfl rfl; apply s_box; exact rfl
   exact rfl; dsimp only [Nat.reduceAdd, Nat.reduceMul, Nat.reduceSub, List.nil_append, List.cons_append, nbk, List.map_cons, List.map_nil]; apply Trc.stp rfl rfl rfl; apply s_assign; exact rfl; dsimp only [Nat.reduceAdd, Nat.reduceMul, List.nil_append]
   exact Trc.done _ _ _; exact rfl; refine thn_n ?_; refine Gol.seq ?_; apply Gol.any; kernel_rfl; apply Trc.stp rfl rfl rfl; apply s_fieldAddr; exact rfl; dsimp only [Nat.reduceAdd, Nat.reduceMul, List.nil_append]
   apply Trc.stp rfl rfl rfl; apply s_load; exact rfl; exact rfl; exact rfl; dsimp only [Nat.reduceAdd, Nat.reduceMul, List.nil_append]
   apply Trc.stp rfl rfl rfl; apply s_len; exact rfl; exact ln_ex; dsimp only [Nat.reduceAdd, Nat.reduceMul, List.nil_append]
   apply Trc.stp rfl rfl rfl; apply s_fieldAddr; exact rfl; dsimp only [Nat.reduceAdd, Nat.reduceMul, List.nil_append]
   apply Trc.stp rfl rfl rfl; apply s_load; exact rfl; exact rfl; exact rfl; dsimp only [Nat.reduceAdd, Nat.reduceMul, List.nil_append]
   apply Trc.stp rfl rfl rfl; apply s_len; exact rfl; exact ln_ex; dsimp only [Nat.reduceAdd, Nat.reduceMul, List.nil_append]
   apply Trc.stp rfl rfl rfl; apply s_assign; exact rfl; dsimp only [Nat.reduceAdd, Nat.reduceMul, List.nil_append]
   apply Trc.stp rfl rfl rfl; apply s_assign; exact rfl; dsimp only [Nat.reduceAdd, Nat.reduceMul, List.nil_append]
   exact Trc.done _ _ _; kernel_rfl; exact rfl; refine thn_n ?_; refine Gol.seq ?_; refine Gol.seq ?_
   apply Gol.region; apply Trc.stp rfl rfl rfl; apply s_fieldAddr; exact rfl; dsimp only [Nat.reduceAdd, Nat.reduceMul, List.nil_append]
   apply Trc.stp rfl rfl rfl; apply s_load; exact rfl; exact rfl; exact rfl; dsimp only [Nat.reduceAdd, Nat.reduceMul, List.nil_append]
   apply Trc.stp rfl rfl rfl; apply s_ltn; exact rfl; exact rfl; dsimp only [Nat.reduceAdd, Nat.reduceMul, List.nil_append]
   apply Trc.stp rfl rfl rfl; apply s_move; exact rfl; dsimp only [Nat.reduceAdd, Nat.reduceMul, List.nil_append]
   apply Trc.step rfl rfl; apply wnt_g; exact rfl; exact rfl; exact rfl; rfl; apply s_fieldAddr; exact rfl; dsimp only [Nat.reduceAdd, Nat.reduceMul, List.nil_append]
   apply Trc.step rfl rfl; apply wnt_g; exact rfl; exact rfl; exact rfl; rfl; apply s_load; exact rfl; exact rfl; exact rfl; dsimp only [Nat.reduceAdd, Nat.reduceMul, List.nil_append]
   apply Trc.step rfl rfl; apply wnt_g; exact rfl; exact rfl; exact rfl; rfl; apply s_gtn; exact rfl; exact rfl; dsimp only [Nat.reduceAdd, Nat.reduceMul, List.nil_append]
   apply Trc.stp rfl rfl rfl; apply s_pick_f; exact rfl; rfl; exact rfl; dsimp only [Nat.reduceAdd, Nat.reduceMul, List.nil_append]
   apply Trc.stp rfl rfl rfl; apply s_move; exact rfl; dsimp only [Nat.reduceAdd, Nat.reduceMul, List.nil_append]
   apply Trc.step rfl rfl; apply wnt_g; exact rfl; exact rfl; exact rfl; rfl; apply s_move; exact rfl; dsimp only [Nat.reduceAdd, Nat.reduceMul, List.nil_append]
   apply Trc.step rfl rfl; apply wnt_g; exact rfl; exact rfl; exact rfl; rfl; apply s_ltn; exact rfl; exact rfl; dsimp only [Nat.reduceAdd, Nat.reduceMul, List.nil_append]
   apply Trc.stp rfl rfl rfl; apply s_pick_f; exact rfl; rfl; exact rfl; dsimp only [Nat.reduceAdd, Nat.reduceMul, List.nil_append]
   apply Trc.stp rfl rfl rfl; apply s_move; exact rfl; dsimp only [Nat.reduceAdd, Nat.reduceMul, List.nil_append]
   apply Trc.step rfl rfl; apply wnt_g; exact rfl; exact rfl; exact rfl; rfl; apply s_move; exact rfl; dsimp only [Nat.reduceAdd, Nat.reduceMul, List.nil_append]
   apply Trc.step rfl rfl; apply wnt_g; exact rfl; exact rfl; exact rfl; rfl; apply s_gtn; exact rfl; exact rfl; dsimp only [Nat.reduceAdd, Nat.reduceMul, List.nil_append]
   apply Trc.stp rfl rfl rfl; apply s_pick_f; exact rfl; rfl; exact rfl; dsimp only [Nat.reduceAdd, Nat.reduceMul, List.nil_append]
   apply Trc.stp rfl rfl rfl; apply s_move; exact rfl; dsimp only [Nat.reduceAdd, Nat.reduceMul, List.nil_append]
   apply Trc.step rfl rfl; apply wnt_g; exact rfl; exact rfl; exact rfl; rfl; apply s_move; exact rfl; dsimp only [Nat.reduceAdd, Nat.reduceMul, List.nil_append]
   apply Trc.step rfl rfl; apply wnt_g; exact rfl; exact rfl; exact rfl; rfl; apply s_fieldAddr; exact rfl; dsimp only [Nat.reduceAdd, Nat.reduceMul, List.nil_append]
   apply Trc.step rfl rfl; apply wnt_g; exact rfl; exact rfl; exact rfl; rfl; apply s_load; exact rfl; exact rfl; exact rfl; dsimp only [Nat.reduceAdd, Nat.reduceMul, List.nil_append]
   apply Trc.step rfl rfl; apply wnt_g; exact rfl; exact rfl; exact rfl; rfl; apply s_ltn; exact rfl; exact rfl; dsimp only [Nat.reduceAdd, Nat.reduceMul, List.nil_append]
   apply Trc.stp rfl rfl rfl; apply s_pick_f; exact rfl; rfl; exact rfl; dsimp only [Nat.reduceAdd, Nat.reduceMul, List.nil_append]
   apply Trc.stp rfl rfl rfl; apply s_move; exact rfl; dsimp only [Nat.reduceAdd, Nat.reduceMul, List.nil_append]
   apply Trc.step rfl rfl; apply wnt_g; exact rfl; exact rfl; exact rfl; rfl; apply s_move; exact rfl; dsimp only [Nat.reduceAdd, Nat.reduceMul, List.nil_append]
   apply Trc.step rfl rfl; apply wnt_g; exact rfl; exact rfl; exact rfl; rfl; apply s_ltn; exact rfl; exact rfl; dsimp only [Nat.reduceAdd, Nat.reduceMul, List.nil_append]
   apply Trc.stp rfl rfl rfl; apply s_pick_f; exact rfl; rfl; exact rfl; dsimp only [Nat.reduceAdd, Nat.reduceMul, List.nil_append]
   apply Trc.stp rfl rfl rfl; apply s_move; exact rfl; dsimp only [Nat.reduceAdd, Nat.reduceMul, List.nil_append]
   apply Trc.step rfl rfl; apply wnt_g; exact rfl; exact rfl; exact rfl; rfl; apply s_move; exact rfl; dsimp only [Nat.reduceAdd, Nat.reduceMul, List.nil_append]
   apply Trc.step rfl rfl; apply wnt_g; exact rfl; exact rfl; exact rfl; rfl; apply s_gtn; exact rfl; exact rfl; dsimp only [Nat.reduceAdd, Nat.reduceMul, List.nil_append]
   apply Trc.stp rfl rfl rfl; apply s_pick_f; exact rfl; rfl; exact rfl; dsimp only [Nat.reduceAdd, Nat.reduceMul, List.nil_append]
   apply Trc.stp rfl rfl rfl; apply s_move; exact rfl; dsimp only [Nat.reduceAdd, Nat.reduceMul, List.nil_append]
   apply Trc.step rfl rfl; apply wnt_g; exact rfl; exact rfl; exact rfl; rfl; apply s_fieldAddr; exact rfl; dsimp only [Nat.reduceAdd, Nat.reduceMul, List.nil_append]
   apply Trc.step rfl rfl; apply wnt_g; exact rfl; exact rfl; exact rfl; rfl; apply s_load; exact rfl; exact rfl; exact rfl; dsimp only [Nat.reduceAdd, Nat.reduceMul, List.nil_append]
   apply Trc.step rfl rfl; apply wnt_g; exact rfl; exact rfl; exact rfl; rfl; apply s_len; exact rfl; exact ln_ex; dsimp only [Nat.reduceAdd, Nat.reduceMul, List.nil_append]
   apply Trc.step rfl rfl; apply wnt_g; exact rfl; exact rfl; exact rfl; rfl; apply s_move; exact rfl; dsimp only [Nat.reduceAdd, Nat.reduceMul, List.nil_append]
   apply Trc.step rfl rfl; apply wnt_g; exact rfl; exact rfl; exact rfl; rfl; apply s_nen; exact rfl; exact rfl; dsimp only [Nat.reduceAdd, Nat.reduceMul, List.nil_append]
   apply Trc.stp rfl rfl rfl; apply s_pick_f; exact rfl; rfl; exact rfl; dsimp only [Nat.reduceAdd, Nat.reduceMul, List.nil_append]
   apply Trc.stp rfl rfl rfl; apply s_move; exact rfl; dsimp only [Nat.reduceAdd, Nat.reduceMul, List.nil_append]
   apply Trc.step rfl rfl; apply wnt_g; exact rfl; exact rfl; exact rfl; rfl; apply s_fieldAddr; exact rfl; dsimp only [Nat.reduceAdd, Nat.reduceMul, List.nil_append]
   apply Trc.step rfl rfl; apply wnt_g; exact rfl; exact rfl; exact rfl; rfl; apply s_load; exact rfl; exact rfl; exact rfl; dsimp only [Nat.reduceAdd, Nat.reduceMul, List.nil_append]
   apply Trc.step rfl rfl; apply wnt_g; exact rfl; exact rfl; exact rfl; rfl; apply s_call (f := 96) rfl; apply evs.cons rfl; exact evs.nil
   apply ArgL.cons; exact arg_clo; exact ArgL.nil; exact amount_ok 3 (by decide); exact Nat.le_of_ble_eq_true rfl; dsimp only [Nat.reduceAdd, Nat.reduceMul, Nat.reduceSub, List.nil_append, List.cons_append, nbk, List.map_cons, List.map_nil]
   apply Trc.step rfl rfl; apply wnt_g; exact rfl; exact rfl; exact rfl; rfl; apply s_not; exact rfl; dsimp only [Nat.reduceAdd, Nat.reduceMul, List.nil_append]
   apply Trc.stp rfl rfl rfl; apply s_pick_f; exact rfl; rfl; exact rfl; dsimp only [Nat.reduceAdd, Nat.reduceMul, List.nil_append]
   exact Trc.done _ _ _; exact rfl; refine thn_n ?_)
  refine Gol.cond_f rfl (by decide) ?_
  (refine Gol.skip ?_; refine thn_n ?_; refine Gol.seq ?_; refine Gol.seq ?_; apply Gol.region
   apply Trc.stp rfl rfl rfl; apply s_fieldAddr; exact rfl; dsimp only [Nat.reduceAdd, Nat.reduceMul, List.nil_append]
   apply Trc.stp rfl rfl rfl; apply s_load; exact rfl; exact rfl; exact rfl; dsimp only [Nat.reduceAdd, Nat.reduceMul, List.nil_append]
   apply Trc.stp rfl rfl rfl; apply s_len; exact rfl; exact ln_ex; dsimp only [Nat.reduceAdd, Nat.reduceMul, List.nil_append]
   apply Trc.stp rfl rfl rfl; apply s_move; exact rfl; dsimp only [Nat.reduceAdd, Nat.reduceMul, List.nil_append]
   exact Trc.done _ _ _; exact rfl; refine thn_n ?_; refine Gol.block ?_)
  refine Gol.loop (ι := Nat) (fun j => j ≤ 1) (fun j => 1 - j) 600 (fun _ => []) (fun j => [(59, .v (.int .i64 (j : Int))), (58, .v (.int .i64 ((1 : Nat) : Int))), (57, .ex 1 false (inA [7]))]) 0 (Nat.zero_le _) ?_ ?_
  · (apply Le.mk' []; apply RnT.c; exact rfl; exact Rn.v rfl; apply RnT.c; exact rfl; exact Rn.v rfl; apply RnT.c; exact rfl; exact Rn.clo inferInstance rfl
     exact RnT.n; exact RnH.n; exact rfl)
  intro j hj
  (refine Gol.seq ?_; apply Gol.region; apply Trc.stp rfl rfl rfl; apply s_ltn; exact rfl
   exact rfl; dsimp only [Nat.reduceAdd, Nat.reduceMul, List.nil_append]; exact Trc.done _ _ _
   exact rfl; refine thn_n ?_; refine Gol.seq ?_)
  refine Gol.cond rfl (fun h => ?_) (fun h => ?_)
  · have hlt : j < 1 := of_decide_eq_true h
    have hne : inA [7] ≠ [] := by simp [inA]
    have hj1 : j < [(7 : Int)].length := hlt
    obtain rfl : j = 0 := by omega
    (refine Gol.skip ?_; refine thn_n ?_; refine Gol.seq ?_; refine Gol.block ?_; refine Gol.seq ?_
     apply Gol.region; apply Trc.stp rfl rfl rfl; apply s_ixe; exact rfl; exact rfl; omega; assumption; dsimp only [Nat.reduceAdd, Nat.reduceMul, List.nil_append]
     apply Trc.stp rfl rfl rfl; apply s_loadE; exact rfl; exact rfl; dsimp only [Nat.reduceAdd, Nat.reduceMul, List.nil_append]
     apply Trc.stp rfl rfl rfl; apply s_assign; exact rfl; dsimp only [Nat.reduceAdd, Nat.reduceMul, List.nil_append]
     exact Trc.done _ _ _; exact rfl; refine thn_n ?_; refine Gol.seq ?_; apply Gol.region; apply Trc.stp rfl rfl rfl; apply s_move; exact rfl; dsimp only [Nat.reduceAdd, Nat.reduceMul, List.nil_append]
     apply Trc.stp rfl rfl rfl; apply s_call (f := 96) rfl; apply evs.cons rfl; exact evs.nil; apply ArgL.cons; exact arg_clo
     exact ArgL.nil; exact amount_ok 7 (by decide); exact Nat.le_of_ble_eq_true rfl; dsimp only [Nat.reduceAdd, Nat.reduceMul, Nat.reduceSub, List.nil_append, List.cons_append, nbk, List.map_cons, List.map_nil]
     apply Trc.stp rfl rfl rfl; apply s_not; exact rfl; dsimp only [Nat.reduceAdd, Nat.reduceMul, List.nil_append]
     exact Trc.done _ _ _; exact rfl; refine thn_n ?_)
    refine Gol.cond_f rfl rfl ?_
    (refine Gol.skip ?_; refine inBlk_n ?_; refine thn_n ?_; apply Gol.region; apply Trc.stp rfl rfl rfl; apply s_addn; exact rfl; exact rfl; decide; dsimp only [Nat.reduceAdd, Nat.reduceMul, List.nil_append]
     apply Trc.stp rfl rfl rfl; apply s_move; exact rfl; dsimp only [Nat.reduceAdd, Nat.reduceMul, List.nil_append]
     exact Trc.done _ _ _; exact rfl)
    refine rnd_n 1 (by omega) (by omega) ?_
    (apply Le.mk' []; apply RnT.c; exact rfl; exact Rn.v rfl; apply RnT.c; exact rfl; exact Rn.v rfl; apply RnT.c; exact rfl; exact Rn.clo inferInstance rfl
     exact RnT.n; exact RnH.n; exact rfl)
  · (refine Gol.exit ?_; refine thn_x ?_; refine rnd_x ?_; refine inBlk_hit ?_; refine thn_n ?_
     refine Gol.seq ?_; apply Gol.region; apply Trc.stp rfl rfl rfl; apply s_assign; exact rfl
     dsimp only [Nat.reduceAdd, Nat.reduceMul, List.nil_append]; exact Trc.done _ _ _; exact rfl
     refine thn_n ?_; refine Gol.ret ?_)
    (apply RetQ.mk (by first | exact .inr rfl | exact .inl rfl); apply res_1 rfl; exact res_tmp rfl; exact out_val)
theorem valGen_no : Fresh Tryz.prog 54 [.v (.agg #[.int .i64 0, .int .i64 0, .slice none 0 0, .slice none 0 0, .slice none 0 0])] (fun _ => .v (.int .i64 1)) [] := by
  refine Fresh.of (fn := Tryz.f54) Tryz.func54 rfl (Nat.le_of_ble_eq_true rfl) fun w => ?_
  (refine Gol.seq ?_; apply Gol.region; apply Trc.stp rfl rfl rfl; apply s_box; exact rfl
   exact rfl; dsimp only [Nat.reduceAdd, Nat.reduceMul, Nat.reduceSub, List.nil_append, List.cons_append, nbk, List.map_cons, List.map_nil]; apply Trc.stp rfl rfl rfl; apply s_assign; exact rfl; dsimp only [Nat.reduceAdd, Nat.reduceMul, List.nil_append]
   exact Trc.done _ _ _; exact rfl; refine thn_n ?_; refine Gol.seq ?_; apply Gol.any; kernel_rfl; apply Trc.stp rfl rfl rfl; apply s_fieldAddr; exact rfl; dsimp only [Nat.reduceAdd, Nat.reduceMul, List.nil_append]
   apply Trc.stp rfl rfl rfl; apply s_load; exact rfl; exact rfl; exact rfl; dsimp only [Nat.reduceAdd, Nat.reduceMul, List.nil_append]
   apply Trc.stp rfl rfl rfl; apply s_len; exact rfl; exact ln_nil; dsimp only [Nat.reduceAdd, Nat.reduceMul, List.nil_append]
   apply Trc.stp rfl rfl rfl; apply s_fieldAddr; exact rfl; dsimp only [Nat.reduceAdd, Nat.reduceMul, List.nil_append]
   apply Trc.stp rfl rfl rfl; apply s_load; exact rfl; exact rfl; exact rfl; dsimp only [Nat.reduceAdd, Nat.reduceMul, List.nil_append]
   apply Trc.stp rfl rfl rfl; apply s_len; exact rfl; exact ln_nil; dsimp only [Nat.reduceAdd, Nat.reduceMul, List.nil_append]
   apply Trc.stp rfl rfl rfl; apply s_assign; exact rfl; dsimp only [Nat.reduceAdd, Nat.reduceMul, List.nil_append]
   apply Trc.stp rfl rfl rfl; apply s_assign; exact rfl; dsimp only [Nat.reduceAdd, Nat.reduceMul, List.nil_append]
   exact Trc.done _ _ _; kernel_rfl; exact rfl; refine thn_n ?_; refine Gol.seq ?_; refine Gol.seq ?_
   apply Gol.region; apply Trc.stp rfl rfl rfl; apply s_fieldAddr; exact rfl; dsimp only [Nat.reduceAdd, Nat.reduceMul, List.nil_append]
   apply Trc.stp rfl rfl rfl; apply s_load; exact rfl; exact rfl; exact rfl; dsimp only [Nat.reduceAdd, Nat.reduceMul, List.nil_append]
   apply Trc.stp rfl rfl rfl; apply s_ltn; exact rfl; exact rfl; dsimp only [Nat.reduceAdd, Nat.reduceMul, List.nil_append]
   apply Trc.stp rfl rfl rfl; apply s_move; exact rfl; dsimp only [Nat.reduceAdd, Nat.reduceMul, List.nil_append]
   apply Trc.skip rfl rfl; apply wnt_g; exact rfl; exact rfl; exact rfl; rfl; dsimp only [Nat.reduceAdd, Nat.reduceMul, List.nil_append]
   apply Trc.skip rfl rfl; apply wnt_g; exact rfl; exact rfl; exact rfl; rfl; dsimp only [Nat.reduceAdd, Nat.reduceMul, List.nil_append]
   apply Trc.skip rfl rfl; apply wnt_g; exact rfl; exact rfl; exact rfl; rfl; dsimp only [Nat.reduceAdd, Nat.reduceMul, List.nil_append]
   apply Trc.stp rfl rfl rfl; apply s_pick_t; exact rfl; rfl; exact rfl; dsimp only [Nat.reduceAdd, Nat.reduceMul, List.nil_append]
   apply Trc.stp rfl rfl rfl; apply s_move; exact rfl; dsimp only [Nat.reduceAdd, Nat.reduceMul, List.nil_append]
   apply Trc.skip rfl rfl; apply wnt_g; exact rfl; exact rfl; exact rfl; rfl; dsimp only [Nat.reduceAdd, Nat.reduceMul, List.nil_append]
   apply Trc.skip rfl rfl; apply wnt_g; exact rfl; exact rfl; exact rfl; rfl; dsimp only [Nat.reduceAdd, Nat.reduceMul, List.nil_append]
   apply Trc.stp rfl rfl rfl; apply s_pick_t; exact rfl; rfl; exact rfl; dsimp only [Nat.reduceAdd, Nat.reduceMul, List.nil_append]
   apply Trc.stp rfl rfl rfl; apply s_move; exact rfl; dsimp only [Nat.reduceAdd, Nat.reduceMul, List.nil_append]
   apply Trc.skip rfl rfl; apply wnt_g; exact rfl; exact rfl; exact rfl; rfl; dsimp only [Nat.reduceAdd, Nat.reduceMul, List.nil_append]
   apply Trc.skip rfl rfl; apply wnt_g; exact rfl; exact rfl; exact rfl; rfl; dsimp only [Nat.reduceAdd, Nat.reduceMul, List.nil_append]
   apply Trc.stp rfl rfl rfl; apply s_pick_t; exact rfl; rfl; exact rfl; dsimp only [Nat.reduceAdd, Nat.reduceMul, List.nil_append]
   apply Trc.stp rfl rfl rfl; apply s_move; exact rfl; dsimp only [Nat.reduceAdd, Nat.reduceMul, List.nil_append]
   apply Trc.skip rfl rfl; apply wnt_g; exact rfl; exact rfl; exact rfl; rfl; dsimp only [Nat.reduceAdd, Nat.reduceMul, List.nil_append]
   apply Trc.skip rfl rfl; apply wnt_g; exact rfl; exact rfl; exact rfl; rfl; dsimp only [Nat.reduceAdd, Nat.reduceMul, List.nil_append]
   apply Trc.skip rfl rfl; apply wnt_g; exact rfl; exact rfl; exact rfl; rfl; dsimp only [Nat.reduceAdd, Nat.reduceMul, List.nil_append]
   apply Trc.skip rfl rfl; apply wnt_g; exact rfl; exact rfl; exact rfl; rfl; dsimp only [Nat.reduceAdd, Nat.reduceMul, List.nil_append]
   apply Trc.stp rfl rfl rfl; apply s_pick_t; exact rfl; rfl; exact rfl; dsimp only [Nat.reduceAdd, Nat.reduceMul, List.nil_append]
   apply Trc.stp rfl rfl rfl; apply s_move; exact rfl; dsimp only [Nat.reduceAdd, Nat.reduceMul, List.nil_append]
   apply Trc.skip rfl rfl; apply wnt_g; exact rfl; exact rfl; exact rfl; rfl; dsimp only [Nat.reduceAdd, Nat.reduceMul, List.nil_append]
   apply Trc.skip rfl rfl; apply wnt_g; exact rfl; exact rfl; exact rfl; rfl; dsimp only [Nat.reduceAdd, Nat.reduceMul, List.nil_append]
   apply Trc.stp rfl rfl rfl; apply s_pick_t; exact rfl; rfl; exact rfl; dsimp only [Nat.reduceAdd, Nat.reduceMul, List.nil_append]
   apply Trc.stp rfl rfl rfl; apply s_move; exact rfl; dsimp only [Nat.reduceAdd, Nat.reduceMul, List.nil_append]
   apply Trc.skip rfl rfl; apply wnt_g; exact rfl; exact rfl; exact rfl; rfl; dsimp only [Nat.reduceAdd, Nat.reduceMul, List.nil_append]
   apply Trc.skip rfl rfl; apply wnt_g; exact rfl; exact rfl; exact rfl; rfl; dsimp only [Nat.reduceAdd, Nat.reduceMul, List.nil_append]
   apply Trc.stp rfl rfl rfl; apply s_pick_t; exact rfl; rfl; exact rfl; dsimp only [Nat.reduceAdd, Nat.reduceMul, List.nil_append]
   apply Trc.stp rfl rfl rfl; apply s_move; exact rfl; dsimp only [Nat.reduceAdd, Nat.reduceMul, List.nil_append]
   apply Trc.skip rfl rfl; apply wnt_g; exact rfl; exact rfl; exact rfl; rfl; dsimp only [Nat.reduceAdd, Nat.reduceMul, List.nil_append]
   apply Trc.skip rfl rfl; apply wnt_g; exact rfl; exact rfl; exact rfl; rfl; dsimp only [Nat.reduceAdd, Nat.reduceMul, List.nil_append]
   apply Trc.skip rfl rfl; apply wnt_g; exact rfl; exact rfl; exact rfl; rfl; dsimp only [Nat.reduceAdd, Nat.reduceMul, List.nil_append]
   apply Trc.skip rfl rfl; apply wnt_g; exact rfl; exact rfl; exact rfl; rfl; dsimp only [Nat.reduceAdd, Nat.reduceMul, List.nil_append]
   apply Trc.skip rfl rfl; apply wnt_g; exact rfl; exact rfl; exact rfl; rfl; dsimp only [Nat.reduceAdd, Nat.reduceMul, List.nil_append]
   apply Trc.stp rfl rfl rfl; apply s_pick_t; exact rfl; rfl; exact rfl; dsimp only [Nat.reduceAdd, Nat.reduceMul, List.nil_append]
   apply Trc.stp rfl rfl rfl; apply s_move; exact rfl; dsimp only [Nat.reduceAdd, Nat.reduceMul, List.nil_append]
   apply Trc.skip rfl rfl; apply wnt_g; exact rfl; exact rfl; exact rfl; rfl; dsimp only [Nat.reduceAdd, Nat.reduceMul, List.nil_append]
   apply Trc.skip rfl rfl; apply wnt_g; exact rfl; exact rfl; exact rfl; rfl; dsimp only [Nat.reduceAdd, Nat.reduceMul, List.nil_append]
   apply Trc.skip rfl rfl; apply wnt_g; exact rfl; exact rfl; exact rfl; rfl; dsimp only [Nat.reduceAdd, Nat.reduceMul, List.nil_append]
   apply Trc.skip rfl rfl; apply wnt_g; exact rfl; exact rfl; exact rfl; rfl; dsimp only [Nat.reduceAdd, Nat.reduceMul, List.nil_append]
   apply Trc.stp rfl rfl rfl; apply s_pick_t; exact rfl; rfl; exact rfl; dsimp only [Nat.reduceAdd, Nat.reduceMul, List.nil_append]
   exact Trc.done _ _ _; exact rfl; refine thn_n ?_)
  refine Gol.cond_t rfl (by decide) ?_
  (refine Gol.seq ?_; apply Gol.region; apply Trc.stp rfl rfl rfl; apply s_assign; exact rfl
   dsimp only [Nat.reduceAdd, Nat.reduceMul, List.nil_append]; exact Trc.done _ _ _; exact rfl
   refine thn_n ?_; refine Gol.ret ?_; refine thn_r ?_)
  (apply RetQ.mk (by first | exact .inr rfl | exact .inl rfl); apply res_1 rfl; exact res_tmp rfl; exact out_val)
theorem genesis_no : Fresh Tryz.prog 23 [.v (.agg #[.int .i64 0, .int .i64 0, .slice none 0 0, .slice none 0 0, .slice none 0 0])] (fun _ => .tp [.v (.agg #[.slice none 0 0, .slice none 0 0, .slice none 0 0, .slice none 0 0, .int .i64 0]), .v (.int .i64 1)]) [] := by
  refine Fresh.of (fn := Tryz.f23) Tryz.func23 rfl (Nat.le_of_ble_eq_true rfl) fun w => ?_
  (refine Gol.seq ?_; apply Gol.region; apply Trc.stp rfl rfl rfl; apply s_box; exact rfl
   exact rfl; dsimp only [Nat.reduceAdd, Nat.reduceMul, Nat.reduceSub, List.nil_append, List.cons_append, nbk, List.map_cons, List.map_nil]; apply Trc.stp rfl rfl rfl; apply s_alloc; dsimp only [Nat.reduceAdd, Nat.reduceMul, Nat.reduceSub, List.nil_append, List.cons_append, nbk, List.map_cons, List.map_nil]
   apply Trc.stp rfl rfl rfl; apply s_assign; exact rfl; dsimp only [Nat.reduceAdd, Nat.reduceMul, List.nil_append]
   exact Trc.done _ _ _; exact rfl; refine thn_n ?_; refine Gol.seq ?_; refine Gol.seq ?_; apply Gol.region
   apply Trc.stp rfl rfl rfl; apply s_loadW; exact rfl; exact rfl; exact rfl; exact agu_cuv _; dsimp only [Nat.reduceAdd, Nat.reduceMul, List.nil_append]
   apply Trc.stp rfl rfl rfl; apply s_call (f := 54) rfl; apply evs.cons rfl; exact evs.nil; apply ArgL.cons
   exact arg_clo; exact ArgL.nil; exact valGen_no; exact Nat.le_of_ble_eq_true rfl; dsimp only [Nat.reduceAdd, Nat.reduceMul, Nat.reduceSub, List.nil_append, List.cons_append, nbk, List.map_cons, List.map_nil]
   apply Trc.stp rfl rfl rfl; apply s_nen; exact rfl; exact rfl; dsimp only [Nat.reduceAdd, Nat.reduceMul, List.nil_append]
   exact Trc.done _ _ _; exact rfl; refine thn_n ?_)
  refine Gol.cond_t rfl (by decide) ?_
  (refine Gol.seq ?_; apply Gol.region; apply Trc.stp rfl rfl rfl; apply s_zero; dsimp only [Nat.reduceAdd, Nat.reduceMul, Nat.reduceSub, List.nil_append, List.cons_append, nbk, List.map_cons, List.map_nil]
   apply Trc.stepN rfl rfl; exact wnt_n rfl; apply s_storeW; exact rfl; exact rfl; exact rfl; exact rfl; rfl; exact rfl; dsimp only [Nat.reduceAdd, Nat.reduceMul, Nat.reduceSub, List.nil_append, List.cons_append, nbk, List.map_cons, List.map_nil]
   apply Trc.stp rfl rfl rfl; apply s_assign; exact rfl; dsimp only [Nat.reduceAdd, Nat.reduceMul, List.nil_append]
   exact Trc.done _ _ _; exact rfl; refine thn_n ?_; refine Gol.ret ?_; refine thn_r ?_)
  (apply RetQ.mk (by first | exact .inr rfl | exact .inl rfl); apply res_2 rfl; exact res_cell rfl rfl rfl (agu_cuv _); exact res_tmp rfl; exact out_val)
end Go.Proofs.YtkkeeokeihkagaaGreat

