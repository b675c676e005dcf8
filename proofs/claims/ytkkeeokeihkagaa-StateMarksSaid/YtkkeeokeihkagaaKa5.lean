/-
  Texts laid together: St21. Conditions: as told in each.
-/
import Derived.Test.YtkkeeokeihkagaaKa4
set_option linter.unusedSimpArgs false
set_option linter.unusedVariables false
set_option linter.unusedSectionVars false
/-
  Layer 21: marking, of the reference; the law StateMarks returns true. Conditions: lengths below 2^17.
-/
namespace Go.Proofs.Ytkkeeokeihkagaa
open Go.RowKit

theorem refHas_ok (l : List UInt64) (f : Bool) (n : UInt64) (hl : l.length ≤ 10000000) : Fresh Try.prog 29 [.ex l.length f (byA (flat l)), .v (.agg (nameC n))] (fun _ => .v (.bool (hasN l n))) [] := by
  refine Fresh.of (fn := Try.f29) Try.func29 rfl (Nat.le_of_ble_eq_true rfl) fun w => ?_
  (refine Gol.seq ?_; apply Gol.region; apply Trc.stp rfl rfl rfl; apply s_box; exact rfl
   exact rfl; dsimp only [Nat.reduceAdd, Nat.reduceMul, Nat.reduceSub, List.nil_append, List.cons_append, nbk, List.map_cons, List.map_nil]; apply Trc.stp rfl rfl rfl; apply s_assign; exact rfl; dsimp only [Nat.reduceAdd, Nat.reduceMul, List.nil_append]
   exact Trc.done _ _ _; exact rfl; refine thn_n ?_; refine Gol.seq ?_; refine Gol.seq ?_; apply Gol.region
   apply Trc.stp rfl rfl rfl; apply s_assign; exact rfl; dsimp only [Nat.reduceAdd, Nat.reduceMul, List.nil_append]
   exact Trc.done _ _ _; exact rfl; refine thn_n ?_; refine Gol.block ?_)
  refine Gol.loop (ι := Nat) (fun i => i ≤ l.length ∧ fIx (fun x => n == x) (l.drop i) i = fIx (fun x => n == x) l 0) (fun i => l.length - i) 40 (fun _ => [(0, some ⟨cu (.v (.agg (nameC n))), 23, 8⟩)]) (fun i => [(5, .v (.int .i64 (i : Int))), (0, .ex l.length f (byA (flat l))), (3, .pt 0 0)]) 0 ⟨Nat.zero_le _, rfl⟩ ?_ ?_
  · (apply Le.mk3' []; apply RnT3.c; exact rfl; apply Rn3.r; exact Rn.v rfl; apply RnT3.c; exact rfl; apply Rn3.r; exact Rn.clo inferInstance rfl; apply RnT3.c
     exact rfl; apply Rn3.r; exact Rn.pt rfl rfl; exact RnT3.n; apply RnH3.c; exact rfl; exact rfl; apply RnC.cl; rfl; exact inferInstance; exact rfl; exact rfl
     exact RnH3.n; exact rfl)
  rintro i ⟨h1, h2⟩
  (refine Gol.seq ?_; refine Gol.seq ?_; apply Gol.region; apply Trc.stp rfl rfl rfl; apply s_move
   exact rfl; dsimp only [Nat.reduceAdd, Nat.reduceMul, List.nil_append]; apply Trc.stp rfl rfl rfl; apply s_move; exact rfl; dsimp only [Nat.reduceAdd, Nat.reduceMul, List.nil_append]
   apply Trc.stp rfl rfl rfl; apply s_len; exact rfl; exact ln_ex; dsimp only [Nat.reduceAdd, Nat.reduceMul, List.nil_append]
   apply Trc.stp rfl rfl rfl; apply s_ltn; exact rfl; exact rfl; dsimp only [Nat.reduceAdd, Nat.reduceMul, List.nil_append]
   exact Trc.done _ _ _; exact rfl; refine thn_n ?_)
  refine Gol.cond rfl (fun h => ?_) (fun h => ?_)
  · have hlt : i < l.length := of_decide_eq_true h
    have hd : l[i]? = some (l.getD i 0) := by rw [List.getD_eq_getElem?_getD, List.getElem?_eq_getElem hlt]; rfl
    (refine Gol.skip ?_; refine thn_n ?_; refine Gol.seq ?_; refine Gol.block ?_; refine Gol.seq ?_
     apply Gol.any; kernel_rfl; apply Trc.stp rfl rfl rfl; apply s_move; exact rfl; dsimp only [Nat.reduceAdd, Nat.reduceMul, List.nil_append]
     apply Trc.stp rfl rfl rfl; apply s_move; exact rfl; dsimp only [Nat.reduceAdd, Nat.reduceMul, List.nil_append]
     apply Trc.stp rfl rfl rfl; apply s_ixe; exact rfl; exact rfl; omega; exact flat_ne (by omega); dsimp only [Nat.reduceAdd, Nat.reduceMul, List.nil_append]
     apply Trc.stp rfl rfl rfl; apply s_loadEN; exact rfl; simp only [byA_length, List.length_append, List.length_cons, List.length_nil, List.length_take, List.length_drop, List.length_replicate, List.length_map, Nat.mul_one, nameB_length, flat_length, List.length_set, inA_length, dsA_length, lsA_length, dA_length, lA_length] <;> omega
     exact agu_nm (by omega); dsimp only [Nat.reduceAdd, Nat.reduceMul, List.nil_append]
     apply Trc.stp rfl rfl rfl; apply s_loadW; exact rfl; exact rfl; exact rfl; exact agu_cuv _; dsimp only [Nat.reduceAdd, Nat.reduceMul, List.nil_append]
     apply Trc.stp rfl rfl rfl; apply s_eqN; exact rfl; exact rfl; dsimp only [Nat.reduceAdd, Nat.reduceMul, List.nil_append]
     exact Trc.done _ _ _; kernel_rfl; exact rfl; refine thn_n ?_)
    refine Gol.cond rfl (fun h => ?_) (fun h => ?_)
    · have hp : (n == l.getD i 0) = true := by rw [beq_iff_eq] at h ⊢; exact h.symm
      have hv : hasN l n = true := by unfold hasN; rw [← h2, fIx_hit hd hp]; simp
      rw [hv]
      (refine Gol.seq ?_; apply Gol.region; apply Trc.stp rfl rfl rfl; apply s_assign; exact rfl
       dsimp only [Nat.reduceAdd, Nat.reduceMul, List.nil_append]; exact Trc.done _ _ _; exact rfl
       refine thn_n ?_; refine Gol.ret ?_; refine inBlk_r ?_; refine thn_r ?_; refine rnd_r ?_
       refine inBlk_r ?_; refine thn_r ?_)
      (apply RetQ.mk (by first | exact .inr rfl | exact .inl rfl); apply res_1 rfl; exact res_tmp rfl; exact out_val)
    · have hp : (n == l.getD i 0) = false := by rw [beq_eq_false_iff_ne] at h ⊢; exact fun e => h e.symm
      (refine Gol.skip ?_; refine inBlk_n ?_; refine thn_n ?_; apply Gol.region; apply Trc.stp rfl rfl rfl; apply s_move; exact rfl; dsimp only [Nat.reduceAdd, Nat.reduceMul, List.nil_append]
       apply Trc.stp rfl rfl rfl; apply s_addn; exact rfl; exact rfl; simp <;> omega; dsimp only [Nat.reduceAdd, Nat.reduceMul, List.nil_append]
       apply Trc.stp rfl rfl rfl; apply s_assign; exact rfl; dsimp only [Nat.reduceAdd, Nat.reduceMul, List.nil_append]
       exact Trc.done _ _ _; exact rfl)
      refine rnd_n (i + 1) ⟨by omega, by rw [← h2, fIx_miss hd hp]⟩ (by omega) ?_
      (apply Le.mk3' []; apply RnT3.c; exact rfl; apply Rn3.r; exact Rn.v rfl; apply RnT3.c; exact rfl; apply Rn3.r; exact Rn.clo inferInstance rfl; apply RnT3.c
       exact rfl; apply Rn3.r; exact Rn.pt rfl rfl; exact RnT3.n; apply RnH3.c; exact rfl; exact rfl; apply RnC.cl; rfl; exact inferInstance; exact rfl; exact rfl
       exact RnH3.n; exact rfl)
  · have hge : ¬ i < l.length := of_decide_eq_false h
    rw [List.drop_of_length_le (by omega)] at h2
    have hv : hasN l n = false := by unfold hasN; rw [← h2]; rfl
    rw [hv]
    (refine Gol.exit ?_; refine thn_x ?_; refine rnd_x ?_; refine inBlk_hit ?_; refine thn_n ?_
     refine Gol.seq ?_; apply Gol.region; apply Trc.stp rfl rfl rfl; apply s_assign; exact rfl
     dsimp only [Nat.reduceAdd, Nat.reduceMul, List.nil_append]; exact Trc.done _ _ _; exact rfl
     refine thn_n ?_; refine Gol.ret ?_)
    (apply RetQ.mk (by first | exact .inr rfl | exact .inl rfl); apply res_1 rfl; exact res_tmp rfl; exact out_val)
theorem insN_cells2 {L : List UInt64} {x : UInt64} {q : Nat} (hq : q ≤ L.length) : List.take (q * 8) (byA (flat L)) ++ byA (nameB x) ++ List.take ((L.length - q) * 8) (List.drop (q * 8) (byA (flat L))) = byA (flat (L.take q ++ x :: L.drop q)) := by
  have e : List.take ((L.length - q) * 8) (byA (flat (L.drop q))) = byA (flat (L.drop q)) := List.take_of_length_le (by rw [nsA_length, List.length_drop]; exact Nat.le_refl _)
  rw [nsA_take, nsA_drop, e, nsA_append, nsA_cons, List.append_assoc]
theorem refMark_ok (s : Stt) (n : UInt64) (hs : s.cells.length ≤ 10000000 ∧ s.seqs.length ≤ 10000000 ∧ s.locks.length ≤ 10000000 ∧ s.applied.length ≤ 1000000) :
    Fresh Try.prog 27 [stA s, .v (.agg (nameC n))] (stO (stM s (markL s.applied n))) (stB (stM s (markL s.applied n))) := by
  obtain ⟨h1, h2, h3, h4⟩ := hs
  have hcp := refCopy_ok s ⟨h1, h2, h3, by omega⟩
  have hha := fun f => refHas_ok s.applied f n (by omega)
  unfold stA stO stB at hcp
  unfold stA stO stB stM
  dsimp only
  generalize s.applied = L at h4 hcp hha
  by_cases hh : hasN L n = true
  · rw [hh] at hha
    rw [show markL L n = L by unfold markL; rw [if_pos hh]]
    refine Fresh.of (fn := Try.f27) Try.func27 rfl (Nat.le_of_ble_eq_true rfl) fun w => ?_
    (refine Gol.seq ?_; apply Gol.region; apply Trc.stp rfl rfl rfl; apply s_box; exact rfl
     exact rfl; dsimp only [Nat.reduceAdd, Nat.reduceMul, Nat.reduceSub, List.nil_append, List.cons_append, nbk, List.map_cons, List.map_nil]; apply Trc.stp rfl rfl rfl; apply s_box; exact rfl; exact rfl; dsimp only [Nat.reduceAdd, Nat.reduceMul, Nat.reduceSub, List.nil_append, List.cons_append, nbk, List.map_cons, List.map_nil]
     apply Trc.stp rfl rfl rfl; apply s_alloc; dsimp only [Nat.reduceAdd, Nat.reduceMul, Nat.reduceSub, List.nil_append, List.cons_append, nbk, List.map_cons, List.map_nil]
     exact Trc.done _ _ _; exact rfl; refine thn_n ?_; refine Gol.seq ?_; apply Gol.region; apply Trc.stp rfl rfl rfl; apply s_loadW; exact rfl; exact rfl; exact rfl; exact agu_cua _; dsimp only [Nat.reduceAdd, Nat.reduceMul, List.nil_append]
     apply Trc.stp rfl rfl rfl; apply s_call (f := 52) rfl; apply evs.cons rfl; exact evs.nil; apply ArgL.cons
     exact arg_clo; exact ArgL.nil; exact hcp; exact Nat.le_of_ble_eq_true rfl; dsimp only [Nat.reduceAdd, Nat.reduceMul, Nat.reduceSub, List.nil_append, List.cons_append, nbk, List.map_cons, List.map_nil]
     apply Trc.stepN rfl rfl; exact wnt_n rfl; apply s_storeW; exact rfl; exact rfl; exact rfl; exact rfl; rfl; exact rfl; dsimp only [Nat.reduceAdd, Nat.reduceMul, Nat.reduceSub, List.nil_append, List.cons_append, nbk, List.map_cons, List.map_nil]
     exact Trc.done _ _ _; exact rfl; refine thn_n ?_; refine Gol.seq ?_; refine Gol.seq ?_; apply Gol.region
     apply Trc.stp rfl rfl rfl; apply s_fieldAddr; exact rfl; dsimp only [Nat.reduceAdd, Nat.reduceMul, List.nil_append]
     apply Trc.stp rfl rfl rfl; apply s_load; exact rfl; exact rfl; exact rfl; dsimp only [Nat.reduceAdd, Nat.reduceMul, List.nil_append]
     apply Trc.stp rfl rfl rfl; apply s_loadW; exact rfl; exact rfl; exact rfl; exact agu_cuv _; dsimp only [Nat.reduceAdd, Nat.reduceMul, List.nil_append]
     apply Trc.stp rfl rfl rfl; apply s_call (f := 29) rfl; apply evs.cons rfl; apply evs.cons rfl; exact evs.nil
     apply ArgL.cons; exact arg_sl rfl; apply ArgL.cons; exact arg_clo; exact ArgL.nil; exact hha _; exact Nat.le_of_ble_eq_true rfl; dsimp only [Nat.reduceAdd, Nat.reduceMul, Nat.reduceSub, List.nil_append, List.cons_append, nbk, List.map_cons, List.map_nil]
     exact Trc.done _ _ _; exact rfl; refine thn_n ?_)
    refine Gol.cond_t rfl rfl ?_
    (refine Gol.seq ?_; apply Gol.region; apply Trc.stp rfl rfl rfl; apply s_loadW; exact rfl
     exact rfl; exact rfl; exact agu_cua _; dsimp only [Nat.reduceAdd, Nat.reduceMul, List.nil_append]
     apply Trc.stepN rfl rfl; exact wnt_n rfl; apply s_storeW; exact rfl; exact rfl; exact rfl; exact rfl; rfl; exact rfl; dsimp only [Nat.reduceAdd, Nat.reduceMul, Nat.reduceSub, List.nil_append, List.cons_append, nbk, List.map_cons, List.map_nil]
     exact Trc.done _ _ _; exact rfl; refine thn_n ?_; refine Gol.ret ?_; refine thn_r ?_)
    (apply RetQ.mkM (by first | exact .inr rfl | exact .inl rfl); apply res_1 rfl; exact res_cell rfl rfl rfl (agu_cua _); apply out_ids [32, 33, 34, 35] rfl
     apply OBs.cons; exact rfl; exact inferInstance; apply OBs.cons; exact rfl; exact inferInstance; apply OBs.cons; exact rfl; exact inferInstance; apply OBs.cons
     exact rfl; exact inferInstance; exact OBs.nil; intro k; apply Ot.agL; apply OtL.cons; exact Ot.sl (j := 0) rfl; apply OtL.cons; exact Ot.sl (j := 1) rfl
     apply OtL.cons; exact Ot.sl (j := 2) rfl; apply OtL.cons; exact Ot.sl (j := 3) rfl; apply OtL.cons; exact Ot.v inferInstance; exact OtL.nil)
  · have hh' : hasN L n = false := by simpa using hh
    rw [hh'] at hha
    rw [show markL L n = insN L n by unfold markL; rw [if_neg hh]]
    refine Fresh.of (fn := Try.f27) Try.func27 rfl (Nat.le_of_ble_eq_true rfl) fun w => ?_
    (refine Gol.seq ?_; apply Gol.region; apply Trc.stp rfl rfl rfl; apply s_box; exact rfl
     exact rfl; dsimp only [Nat.reduceAdd, Nat.reduceMul, Nat.reduceSub, List.nil_append, List.cons_append, nbk, List.map_cons, List.map_nil]; apply Trc.stp rfl rfl rfl; apply s_box; exact rfl; exact rfl; dsimp only [Nat.reduceAdd, Nat.reduceMul, Nat.reduceSub, List.nil_append, List.cons_append, nbk, List.map_cons, List.map_nil]
     apply Trc.stp rfl rfl rfl; apply s_alloc; dsimp only [Nat.reduceAdd, Nat.reduceMul, Nat.reduceSub, List.nil_append, List.cons_append, nbk, List.map_cons, List.map_nil]
     exact Trc.done _ _ _; exact rfl; refine thn_n ?_; refine Gol.seq ?_; apply Gol.region; apply Trc.stp rfl rfl rfl; apply s_loadW; exact rfl; exact rfl; exact rfl; exact agu_cua _; dsimp only [Nat.reduceAdd, Nat.reduceMul, List.nil_append]
     apply Trc.stp rfl rfl rfl; apply s_call (f := 52) rfl; apply evs.cons rfl; exact evs.nil; apply ArgL.cons
     exact arg_clo; exact ArgL.nil; exact hcp; exact Nat.le_of_ble_eq_true rfl; dsimp only [Nat.reduceAdd, Nat.reduceMul, Nat.reduceSub, List.nil_append, List.cons_append, nbk, List.map_cons, List.map_nil]
     apply Trc.stepN rfl rfl; exact wnt_n rfl; apply s_storeW; exact rfl; exact rfl; exact rfl; exact rfl; rfl; exact rfl; dsimp only [Nat.reduceAdd, Nat.reduceMul, Nat.reduceSub, List.nil_append, List.cons_append, nbk, List.map_cons, List.map_nil]
     exact Trc.done _ _ _; exact rfl; refine thn_n ?_; refine Gol.seq ?_; refine Gol.seq ?_; apply Gol.region
     apply Trc.stp rfl rfl rfl; apply s_fieldAddr; exact rfl; dsimp only [Nat.reduceAdd, Nat.reduceMul, List.nil_append]
     apply Trc.stp rfl rfl rfl; apply s_load; exact rfl; exact rfl; exact rfl; dsimp only [Nat.reduceAdd, Nat.reduceMul, List.nil_append]
     apply Trc.stp rfl rfl rfl; apply s_loadW; exact rfl; exact rfl; exact rfl; exact agu_cuv _; dsimp only [Nat.reduceAdd, Nat.reduceMul, List.nil_append]
     apply Trc.stp rfl rfl rfl; apply s_call (f := 29) rfl; apply evs.cons rfl; apply evs.cons rfl; exact evs.nil
     apply ArgL.cons; exact arg_sl rfl; apply ArgL.cons; exact arg_clo; exact ArgL.nil; exact hha _; exact Nat.le_of_ble_eq_true rfl; dsimp only [Nat.reduceAdd, Nat.reduceMul, Nat.reduceSub, List.nil_append, List.cons_append, nbk, List.map_cons, List.map_nil]
     exact Trc.done _ _ _; exact rfl; refine thn_n ?_)
    refine Gol.cond_f rfl rfl ?_
    (refine Gol.skip ?_; refine thn_n ?_; refine Gol.seq ?_; apply Gol.region; apply Trc.stp rfl rfl rfl; apply s_assign; exact rfl; dsimp only [Nat.reduceAdd, Nat.reduceMul, List.nil_append]
     exact Trc.done _ _ _; exact rfl; refine thn_n ?_; refine Gol.seq ?_; refine Gol.block ?_)
    refine Gol.loop (ι := Nat) (fun q => q ≤ L.length ∧ q + bef (gtN n) (L.drop q) = bef (gtN n) L) (fun q => L.length - q) 128
      (fun _ => [(0, some ⟨[.sl 32 s.cells.length, .sl 33 s.seqs.length, .sl 34 s.locks.length, .sl 35 L.length, .v (.int .i64 s.guilty)], 35, 5⟩), (32, some ⟨dsA s.cells, 43, 11⟩), (33, some ⟨inA s.seqs, 3, 1⟩), (34, some ⟨lsA s.locks, 77, 19⟩), (35, some ⟨byA (flat L), 23, 8⟩), (16, some ⟨[.v (.slice none 0 0), .v (.slice none 0 0), .v (.slice none 0 0), .v (.slice none 0 0), .v (.int .i64 0)], 35, 5⟩), (8, some ⟨cu (.v (.agg (nameC n))), 23, 8⟩)])
      (fun q => [(5, .v (.int .i64 (q : Int))), (2, .pt 0 0), (3, .pt 8 0), (4, .pt 16 0)]) 0 ⟨Nat.zero_le _, by simp⟩ ?_ ?_
    · (apply Le.mk3' []; apply RnT3.c; exact rfl; apply Rn3.r; exact Rn.v rfl; apply RnT3.c; exact rfl; apply Rn3.r; exact Rn.pt rfl rfl; apply RnT3.c; exact rfl
       apply Rn3.r; exact Rn.pt rfl rfl; apply RnT3.c; exact rfl; apply Rn3.r; exact Rn.pt rfl rfl; exact RnT3.n; apply RnH3.c; exact rfl; exact rfl; apply RnC.l
       apply Rn3L.cons; apply Rn3.r; exact Rn.sl rfl rfl; apply Rn3L.cons; apply Rn3.r; exact Rn.sl rfl rfl; apply Rn3L.cons; apply Rn3.r; exact Rn.sl rfl rfl
       apply Rn3L.cons; apply Rn3.r; exact Rn.sl rfl rfl; apply Rn3L.cons; apply Rn3.r; exact Rn.v rfl; exact Rn3L.nil; exact rfl; exact rfl; apply RnH3.c; exact rfl
       exact rfl; apply RnC.cl; rfl; exact inferInstance; exact rfl; exact rfl; apply RnH3.c; exact rfl; exact rfl; apply RnC.cl; rfl; exact inferInstance; exact rfl
       exact rfl; apply RnH3.c; exact rfl; exact rfl; apply RnC.cl; rfl; exact inferInstance; exact rfl; exact rfl; apply RnH3.c; exact rfl; exact rfl; apply RnC.cl
       rfl; exact inferInstance; exact rfl; exact rfl; apply RnH3.c; exact rfl; exact rfl; apply RnC.cl; rfl; exact inferInstance; exact rfl; exact rfl; apply RnH3.c
       exact rfl; exact rfl; apply RnC.cl; rfl; exact inferInstance; exact rfl; exact rfl; exact RnH3.n; exact rfl)
    rintro q ⟨g1, g2⟩
    by_cases hlt : q < L.length
    · have hd : L[q]? = some (L.getD q 0) := by rw [List.getD_eq_getElem?_getD, List.getElem?_eq_getElem hlt]; rfl
      have hless := refLess_f n (L.getD q 0)
      by_cases hp : gtN n (L.getD q 0) = true
      · have hl : decide (n.toNat < (L.getD q 0).toNat) = true := by
          have := of_decide_eq_true hp
          rw [decide_eq_true_iff]
          have := cmpI_cases ((L.getD q 0).toNat : Int) (n.toNat : Int)
          unfold cmpN at *
          omega
        rw [hl] at hless
        (refine Gol.seq ?_; refine Gol.seq ?_; apply Gol.any; kernel_rfl; apply Trc.stp rfl rfl rfl
         apply s_move; exact rfl; dsimp only [Nat.reduceAdd, Nat.reduceMul, List.nil_append]
         apply Trc.stp rfl rfl rfl; apply s_fieldAddr; exact rfl; dsimp only [Nat.reduceAdd, Nat.reduceMul, List.nil_append]
         apply Trc.stp rfl rfl rfl; apply s_load; exact rfl; exact rfl; exact rfl; dsimp only [Nat.reduceAdd, Nat.reduceMul, List.nil_append]
         apply Trc.stp rfl rfl rfl; apply s_len; exact rfl; exact ln_sl; dsimp only [Nat.reduceAdd, Nat.reduceMul, List.nil_append]
         apply Trc.stp rfl rfl rfl; apply s_ltn; exact rfl; exact rfl; dsimp only [Nat.reduceAdd, Nat.reduceMul, List.nil_append]
         apply Trc.stp rfl rfl rfl; apply s_move; exact rfl; dsimp only [Nat.reduceAdd, Nat.reduceMul, List.nil_append]
         apply Trc.step rfl rfl; apply wnt_g; exact rfl; exact rfl; exact rfl; (focus (simp only [*]; rfl)); apply s_loadW; exact rfl; exact rfl
         exact rfl; exact agu_cuv _; dsimp only [Nat.reduceAdd, Nat.reduceMul, List.nil_append]
         apply Trc.step rfl rfl; apply wnt_g; exact rfl; exact rfl; exact rfl; (focus (simp only [*]; rfl)); apply s_fieldAddr; exact rfl; dsimp only [Nat.reduceAdd, Nat.reduceMul, List.nil_append]
         apply Trc.step rfl rfl; apply wnt_g; exact rfl; exact rfl; exact rfl; (focus (simp only [*]; rfl)); apply s_load; exact rfl; exact rfl
         exact rfl; dsimp only [Nat.reduceAdd, Nat.reduceMul, List.nil_append]; apply Trc.step rfl rfl
         apply wnt_g; exact rfl; exact rfl; exact rfl; (focus (simp only [*]; rfl)); apply s_move; exact rfl; dsimp only [Nat.reduceAdd, Nat.reduceMul, List.nil_append]
         apply Trc.step rfl rfl; apply wnt_g; exact rfl; exact rfl; exact rfl; (focus (simp only [*]; rfl)); apply s_ixl; exact rfl; exact rfl
         exact rfl; omega; dsimp only [Nat.reduceAdd, Nat.reduceMul, Nat.reduceSub, List.nil_append, List.cons_append, nbk, List.map_cons, List.map_nil]; apply Trc.step rfl rfl
         apply wnt_g; exact rfl; exact rfl; exact rfl; (focus (simp only [*]; rfl)); apply s_loadN; exact rfl; exact rfl; simp only [byA_length, List.length_append, List.length_cons, List.length_nil, List.length_take, List.length_drop, List.length_replicate, List.length_map, Nat.mul_one, nameB_length, flat_length, List.length_set, inA_length, dsA_length, lsA_length, dA_length, lA_length] <;> omega
         exact agu_nm (by omega); dsimp only [Nat.reduceAdd, Nat.reduceMul, List.nil_append]
         apply Trc.step rfl rfl; apply wnt_g; exact rfl; exact rfl; exact rfl; (focus (simp only [*]; rfl)); apply s_call (f := 56) rfl
         apply evs.cons rfl; apply evs.cons rfl; exact evs.nil; apply ArgL.cons; exact arg_clo; apply ArgL.cons; exact arg_clo; exact ArgL.nil; exact hless; exact Nat.le_of_ble_eq_true rfl
         dsimp only [Nat.reduceAdd, Nat.reduceMul, Nat.reduceSub, List.nil_append, List.cons_append, nbk, List.map_cons, List.map_nil]; apply Trc.step rfl rfl
         apply wnt_g; exact rfl; exact rfl; exact rfl; (focus (simp only [*]; rfl)); apply s_not; exact rfl; dsimp only [Nat.reduceAdd, Nat.reduceMul, List.nil_append]
         apply Trc.stp rfl rfl rfl; apply s_pick_t; exact rfl; (focus (simp only [*]; rfl)); exact rfl; dsimp only [Nat.reduceAdd, Nat.reduceMul, List.nil_append]
         exact Trc.done _ _ _; kernel_rfl; exact rfl; refine thn_n ?_)
        refine Gol.cond_f rfl rfl ?_
        have hB : bef (gtN n) L = q := by rw [← g2, bef_hit hd hp, Nat.add_zero]
        (refine Gol.exit ?_; refine thn_x ?_; refine rnd_x ?_; refine inBlk_hit ?_; refine thn_n ?_
         refine Gol.seq ?_; apply Gol.region; apply Trc.stp rfl rfl rfl; apply s_lit; exact PA.nil
         exact rfl; omega; dsimp only [Nat.reduceAdd, Nat.reduceMul, Nat.reduceSub, List.nil_append, List.cons_append, nbk, List.map_cons, List.map_nil]; apply Trc.stp rfl rfl rfl; apply s_fieldAddr; exact rfl; dsimp only [Nat.reduceAdd, Nat.reduceMul, List.nil_append]
         apply Trc.stp rfl rfl rfl; apply s_load; exact rfl; exact rfl; exact rfl; dsimp only [Nat.reduceAdd, Nat.reduceMul, List.nil_append]
         apply Trc.stp rfl rfl rfl; apply s_move; exact rfl; dsimp only [Nat.reduceAdd, Nat.reduceMul, List.nil_append]
         apply Trc.stp rfl rfl rfl; apply s_slL; exact rfl; exact rfl; exact ⟨_, rfl⟩; omega; omega; exact rfl; dsimp only [Nat.reduceAdd, Nat.reduceMul, Nat.reduceSub, List.nil_append, List.cons_append, nbk, List.map_cons, List.map_nil]
         apply Trc.stp rfl rfl rfl; apply s_app; exact rfl; exact rfl; exact rfl; apply rd_sb rfl; simp only [byA_length, List.length_append, List.length_cons, List.length_nil, List.length_take, List.length_drop, List.length_replicate, List.length_map, Nat.mul_one, nameB_length, flat_length, List.length_set, inA_length, dsA_length, lsA_length, dA_length, lA_length] <;> omega
         rfl; exact rfl; exact rfl; exact OneL.one; omega; dsimp only [Nat.reduceAdd, Nat.reduceMul, Nat.reduceSub, List.nil_append, List.cons_append, nbk, List.map_cons, List.map_nil]
         apply Trc.stp rfl rfl rfl; apply s_assign; exact rfl; dsimp only [Nat.reduceAdd, Nat.reduceMul, List.nil_append]
         exact Trc.done _ _ _; exact rfl; refine thn_n ?_; refine Gol.seq ?_; apply Gol.region; apply Trc.stp rfl rfl rfl; apply s_move; exact rfl; dsimp only [Nat.reduceAdd, Nat.reduceMul, List.nil_append]
         apply Trc.stp rfl rfl rfl; apply s_loadW; exact rfl; exact rfl; exact rfl; exact agu_cuv _; dsimp only [Nat.reduceAdd, Nat.reduceMul, List.nil_append]
         apply Trc.stp rfl rfl rfl; apply s_lit; apply PA.cons; exact rfl; exact rfl; exact rfl; exact PA.nil; exact rfl; omega
         dsimp only [Nat.reduceAdd, Nat.reduceMul, Nat.reduceSub, List.nil_append, List.cons_append, nbk, List.map_cons, List.map_nil]; apply Trc.stp rfl rfl rfl; apply s_app; exact rfl; exact rfl; exact rfl; apply rd_sl rfl; rfl; simp only [byA_length, List.length_append, List.length_cons, List.length_nil, List.length_take, List.length_drop, List.length_replicate, List.length_map, Nat.mul_one, nameB_length, flat_length, List.length_set, inA_length, dsA_length, lsA_length, dA_length, lA_length] <;> omega
         exact rfl; exact rfl; rfl; omega; dsimp only [Nat.reduceAdd, Nat.reduceMul, Nat.reduceSub, List.nil_append, List.cons_append, nbk, List.map_cons, List.map_nil]
         apply Trc.stp rfl rfl rfl; apply s_assign; exact rfl; dsimp only [Nat.reduceAdd, Nat.reduceMul, List.nil_append]
         exact Trc.done _ _ _; exact rfl; refine thn_n ?_; refine Gol.seq ?_)
        simp only [Nat.zero_add, Nat.sub_zero, List.drop_zero, List.append_nil, List.nil_append, show cu (.v (.agg (nameC n))) = byA (nameB n) from rfl, nsA_take]
        (apply Gol.region; apply Trc.stp rfl rfl rfl; apply s_move; exact rfl; dsimp only [Nat.reduceAdd, Nat.reduceMul, List.nil_append]
         apply Trc.stp rfl rfl rfl; apply s_fieldAddr; exact rfl; dsimp only [Nat.reduceAdd, Nat.reduceMul, List.nil_append]
         apply Trc.stp rfl rfl rfl; apply s_load; exact rfl; exact rfl; exact rfl; dsimp only [Nat.reduceAdd, Nat.reduceMul, List.nil_append]
         apply Trc.stp rfl rfl rfl; apply s_move; exact rfl; dsimp only [Nat.reduceAdd, Nat.reduceMul, List.nil_append]
         apply Trc.stp rfl rfl rfl; apply s_slL; exact rfl; exact ⟨_, rfl⟩; exact rfl; omega; omega; exact rfl; dsimp only [Nat.reduceAdd, Nat.reduceMul, Nat.reduceSub, List.nil_append, List.cons_append, nbk, List.map_cons, List.map_nil]
         apply Trc.stp rfl rfl rfl; apply s_app; exact rfl; exact rfl; exact rfl; apply rd_sb rfl; simp only [byA_length, List.length_append, List.length_cons, List.length_nil, List.length_take, List.length_drop, List.length_replicate, List.length_map, Nat.mul_one, nameB_length, flat_length, List.length_set, inA_length, dsA_length, lsA_length, dA_length, lA_length] <;> omega
         simp only [byA_length, List.length_append, List.length_cons, List.length_nil, List.length_take, List.length_drop, List.length_replicate, List.length_map, Nat.mul_one, nameB_length, flat_length, List.length_set, inA_length, dsA_length, lsA_length, dA_length, lA_length] <;> omega
         exact rfl; exact rfl; exact OneL.one; omega; dsimp only [Nat.reduceAdd, Nat.reduceMul, Nat.reduceSub, List.nil_append, List.cons_append, nbk, List.map_cons, List.map_nil]
         apply Trc.stp rfl rfl rfl; apply s_fieldAddr; exact rfl; dsimp only [Nat.reduceAdd, Nat.reduceMul, List.nil_append]
         apply Trc.stepN rfl rfl; exact wnt_n rfl; apply s_store; exact rfl; exact rfl; exact rfl; exact rfl; rfl; exact Nat.le_of_ble_eq_true rfl
         dsimp only [Nat.reduceAdd, Nat.reduceMul, Nat.reduceSub, List.nil_append, List.cons_append, nbk, List.map_cons, List.map_nil]; exact Trc.done _ _ _; exact rfl
         refine thn_n ?_; refine Gol.seq ?_; apply Gol.region; apply Trc.stp rfl rfl rfl; apply s_loadW
         exact rfl; exact rfl; exact rfl; exact agu_cua _; dsimp only [Nat.reduceAdd, Nat.reduceMul, List.nil_append]
         apply Trc.stepN rfl rfl; exact wnt_n rfl; apply s_storeW; exact rfl; exact rfl; exact rfl; exact rfl; rfl; exact rfl; dsimp only [Nat.reduceAdd, Nat.reduceMul, Nat.reduceSub, List.nil_append, List.cons_append, nbk, List.map_cons, List.map_nil]
         exact Trc.done _ _ _; exact rfl; refine thn_n ?_; refine Gol.ret ?_)
        have hn : q + 1 + (L.length - q) = (insN L n).length := by rw [insN_len]; omega
        simp only [hn, nsA_drop]
        have hcc : byA (flat (L.take q)) ++ byA (nameB n) ++ List.take ((L.length - q) * 8) (byA (flat (L.drop q))) = byA (flat (insN L n)) := by
          have := insN_cells2 (L := L) (x := n) g1
          rw [nsA_take, nsA_drop] at this
          rw [this, insN, hB]
        rw [hcc]
        (apply RetQ.mkM (by first | exact .inr rfl | exact .inl rfl); apply res_1 rfl; exact res_cell rfl rfl rfl (agu_cua _); apply out_ids [32, 33, 34, 384] rfl
         apply OBs.cons; exact rfl; exact inferInstance; apply OBs.cons; exact rfl; exact inferInstance; apply OBs.cons; exact rfl; exact inferInstance; apply OBs.cons
         exact rfl; exact inferInstance; exact OBs.nil; intro k; apply Ot.agL; apply OtL.cons; exact Ot.sl (j := 0) rfl; apply OtL.cons; exact Ot.sl (j := 1) rfl
         apply OtL.cons; exact Ot.sl (j := 2) rfl; apply OtL.cons; exact Ot.sl (j := 3) rfl; apply OtL.cons; exact Ot.v inferInstance; exact OtL.nil)
      · have hp' : gtN n (L.getD q 0) = false := by simpa using hp
        have hl : decide (n.toNat < (L.getD q 0).toNat) = false := by
          have := of_decide_eq_false hp'
          rw [decide_eq_false_iff_not]
          have := cmpI_cases ((L.getD q 0).toNat : Int) (n.toNat : Int)
          unfold cmpN at *
          omega
        rw [hl] at hless
        (refine Gol.seq ?_; refine Gol.seq ?_; apply Gol.any; kernel_rfl; apply Trc.stp rfl rfl rfl
         apply s_move; exact rfl; dsimp only [Nat.reduceAdd, Nat.reduceMul, List.nil_append]
         apply Trc.stp rfl rfl rfl; apply s_fieldAddr; exact rfl; dsimp only [Nat.reduceAdd, Nat.reduceMul, List.nil_append]
         apply Trc.stp rfl rfl rfl; apply s_load; exact rfl; exact rfl; exact rfl; dsimp only [Nat.reduceAdd, Nat.reduceMul, List.nil_append]
         apply Trc.stp rfl rfl rfl; apply s_len; exact rfl; exact ln_sl; dsimp only [Nat.reduceAdd, Nat.reduceMul, List.nil_append]
         apply Trc.stp rfl rfl rfl; apply s_ltn; exact rfl; exact rfl; dsimp only [Nat.reduceAdd, Nat.reduceMul, List.nil_append]
         apply Trc.stp rfl rfl rfl; apply s_move; exact rfl; dsimp only [Nat.reduceAdd, Nat.reduceMul, List.nil_append]
         apply Trc.step rfl rfl; apply wnt_g; exact rfl; exact rfl; exact rfl; (focus (simp only [*]; rfl)); apply s_loadW; exact rfl; exact rfl
         exact rfl; exact agu_cuv _; dsimp only [Nat.reduceAdd, Nat.reduceMul, List.nil_append]
         apply Trc.step rfl rfl; apply wnt_g; exact rfl; exact rfl; exact rfl; (focus (simp only [*]; rfl)); apply s_fieldAddr; exact rfl; dsimp only [Nat.reduceAdd, Nat.reduceMul, List.nil_append]
         apply Trc.step rfl rfl; apply wnt_g; exact rfl; exact rfl; exact rfl; (focus (simp only [*]; rfl)); apply s_load; exact rfl; exact rfl
         exact rfl; dsimp only [Nat.reduceAdd, Nat.reduceMul, List.nil_append]; apply Trc.step rfl rfl
         apply wnt_g; exact rfl; exact rfl; exact rfl; (focus (simp only [*]; rfl)); apply s_move; exact rfl; dsimp only [Nat.reduceAdd, Nat.reduceMul, List.nil_append]
         apply Trc.step rfl rfl; apply wnt_g; exact rfl; exact rfl; exact rfl; (focus (simp only [*]; rfl)); apply s_ixl; exact rfl; exact rfl
         exact rfl; omega; dsimp only [Nat.reduceAdd, Nat.reduceMul, Nat.reduceSub, List.nil_append, List.cons_append, nbk, List.map_cons, List.map_nil]; apply Trc.step rfl rfl
         apply wnt_g; exact rfl; exact rfl; exact rfl; (focus (simp only [*]; rfl)); apply s_loadN; exact rfl; exact rfl; simp only [byA_length, List.length_append, List.length_cons, List.length_nil, List.length_take, List.length_drop, List.length_replicate, List.length_map, Nat.mul_one, nameB_length, flat_length, List.length_set, inA_length, dsA_length, lsA_length, dA_length, lA_length] <;> omega
         exact agu_nm (by omega); dsimp only [Nat.reduceAdd, Nat.reduceMul, List.nil_append]
         apply Trc.step rfl rfl; apply wnt_g; exact rfl; exact rfl; exact rfl; (focus (simp only [*]; rfl)); apply s_call (f := 56) rfl
         apply evs.cons rfl; apply evs.cons rfl; exact evs.nil; apply ArgL.cons; exact arg_clo; apply ArgL.cons; exact arg_clo; exact ArgL.nil; exact hless; exact Nat.le_of_ble_eq_true rfl
         dsimp only [Nat.reduceAdd, Nat.reduceMul, Nat.reduceSub, List.nil_append, List.cons_append, nbk, List.map_cons, List.map_nil]; apply Trc.step rfl rfl
         apply wnt_g; exact rfl; exact rfl; exact rfl; (focus (simp only [*]; rfl)); apply s_not; exact rfl; dsimp only [Nat.reduceAdd, Nat.reduceMul, List.nil_append]
         apply Trc.stp rfl rfl rfl; apply s_pick_t; exact rfl; (focus (simp only [*]; rfl)); exact rfl; dsimp only [Nat.reduceAdd, Nat.reduceMul, List.nil_append]
         exact Trc.done _ _ _; kernel_rfl; exact rfl; refine thn_n ?_)
        refine Gol.cond_t rfl rfl ?_
        (refine Gol.skip ?_; refine thn_n ?_; refine Gol.block ?_; apply Gol.region; apply Trc.stp rfl rfl rfl; apply s_move; exact rfl; dsimp only [Nat.reduceAdd, Nat.reduceMul, List.nil_append]
         apply Trc.stp rfl rfl rfl; apply s_addn; exact rfl; exact rfl; simp <;> omega; dsimp only [Nat.reduceAdd, Nat.reduceMul, List.nil_append]
         apply Trc.stp rfl rfl rfl; apply s_assign; exact rfl; dsimp only [Nat.reduceAdd, Nat.reduceMul, List.nil_append]
         exact Trc.done _ _ _; exact rfl; refine inBlk_n ?_)
        refine rnd_n (q + 1) ⟨by omega, by rw [← g2, bef_miss hd hp']; omega⟩ (by omega) ?_
        (apply Le.mk3' []; apply RnT3.c; exact rfl; apply Rn3.r; exact Rn.v rfl; apply RnT3.c; exact rfl; apply Rn3.r; exact Rn.pt rfl rfl; apply RnT3.c; exact rfl
         apply Rn3.r; exact Rn.pt rfl rfl; apply RnT3.c; exact rfl; apply Rn3.r; exact Rn.pt rfl rfl; exact RnT3.n; apply RnH3.c; exact rfl; exact rfl; apply RnC.l
         apply Rn3L.cons; apply Rn3.r; exact Rn.sl rfl rfl; apply Rn3L.cons; apply Rn3.r; exact Rn.sl rfl rfl; apply Rn3L.cons; apply Rn3.r; exact Rn.sl rfl rfl
         apply Rn3L.cons; apply Rn3.r; exact Rn.sl rfl rfl; apply Rn3L.cons; apply Rn3.r; exact Rn.v rfl; exact Rn3L.nil; exact rfl; exact rfl; apply RnH3.c; exact rfl
         exact rfl; apply RnC.cl; rfl; exact inferInstance; exact rfl; exact rfl; apply RnH3.c; exact rfl; exact rfl; apply RnC.cl; rfl; exact inferInstance; exact rfl
         exact rfl; apply RnH3.c; exact rfl; exact rfl; apply RnC.cl; rfl; exact inferInstance; exact rfl; exact rfl; apply RnH3.c; exact rfl; exact rfl; apply RnC.cl
         rfl; exact inferInstance; exact rfl; exact rfl; apply RnH3.c; exact rfl; exact rfl; apply RnC.cl; rfl; exact inferInstance; exact rfl; exact rfl; apply RnH3.c
         exact rfl; exact rfl; apply RnC.cl; rfl; exact inferInstance; exact rfl; exact rfl; exact RnH3.n; exact rfl)
    · have hq : q = L.length := by omega
      rw [List.drop_of_length_le (by omega)] at g2
      have hB : bef (gtN n) L = q := by rw [← g2]; rfl
      (refine Gol.seq ?_; refine Gol.seq ?_; apply Gol.any; kernel_rfl; apply Trc.stp rfl rfl rfl
       apply s_move; exact rfl; dsimp only [Nat.reduceAdd, Nat.reduceMul, List.nil_append]
       apply Trc.stp rfl rfl rfl; apply s_fieldAddr; exact rfl; dsimp only [Nat.reduceAdd, Nat.reduceMul, List.nil_append]
       apply Trc.stp rfl rfl rfl; apply s_load; exact rfl; exact rfl; exact rfl; dsimp only [Nat.reduceAdd, Nat.reduceMul, List.nil_append]
       apply Trc.stp rfl rfl rfl; apply s_len; exact rfl; exact ln_sl; dsimp only [Nat.reduceAdd, Nat.reduceMul, List.nil_append]
       apply Trc.stp rfl rfl rfl; apply s_ltn; exact rfl; exact rfl; dsimp only [Nat.reduceAdd, Nat.reduceMul, List.nil_append]
       apply Trc.stp rfl rfl rfl; apply s_move; exact rfl; dsimp only [Nat.reduceAdd, Nat.reduceMul, List.nil_append]
       apply Trc.skip rfl rfl; apply wnt_g; exact rfl; exact rfl; exact rfl; (focus (simp [*]; done)); dsimp only [Nat.reduceAdd, Nat.reduceMul, List.nil_append]
       apply Trc.skip rfl rfl; apply wnt_g; exact rfl; exact rfl; exact rfl; (focus (simp [*]; done)); dsimp only [Nat.reduceAdd, Nat.reduceMul, List.nil_append]
       apply Trc.skip rfl rfl; apply wnt_g; exact rfl; exact rfl; exact rfl; (focus (simp [*]; done)); dsimp only [Nat.reduceAdd, Nat.reduceMul, List.nil_append]
       apply Trc.skip rfl rfl; apply wnt_g; exact rfl; exact rfl; exact rfl; (focus (simp [*]; done)); dsimp only [Nat.reduceAdd, Nat.reduceMul, List.nil_append]
       apply Trc.skip rfl rfl; apply wnt_g; exact rfl; exact rfl; exact rfl; (focus (simp [*]; done)); dsimp only [Nat.reduceAdd, Nat.reduceMul, List.nil_append]
       apply Trc.skip rfl rfl; apply wnt_g; exact rfl; exact rfl; exact rfl; (focus (simp [*]; done)); dsimp only [Nat.reduceAdd, Nat.reduceMul, List.nil_append]
       apply Trc.skip rfl rfl; apply wnt_g; exact rfl; exact rfl; exact rfl; (focus (simp [*]; done)); dsimp only [Nat.reduceAdd, Nat.reduceMul, List.nil_append]
       apply Trc.skip rfl rfl; apply wnt_g; exact rfl; exact rfl; exact rfl; (focus (simp [*]; done)); dsimp only [Nat.reduceAdd, Nat.reduceMul, List.nil_append]
       apply Trc.stp rfl rfl rfl; apply s_pick_f; exact rfl; (focus (simp [*]; done)); exact rfl; dsimp only [Nat.reduceAdd, Nat.reduceMul, List.nil_append]
       exact Trc.done _ _ _; kernel_rfl; exact rfl; refine thn_n ?_)
      refine Gol.cond_f rfl rfl ?_
      (refine Gol.exit ?_; refine thn_x ?_; refine rnd_x ?_; refine inBlk_hit ?_; refine thn_n ?_
       refine Gol.seq ?_; apply Gol.region; apply Trc.stp rfl rfl rfl; apply s_lit; exact PA.nil
       exact rfl; omega; dsimp only [Nat.reduceAdd, Nat.reduceMul, Nat.reduceSub, List.nil_append, List.cons_append, nbk, List.map_cons, List.map_nil]; apply Trc.stp rfl rfl rfl; apply s_fieldAddr; exact rfl; dsimp only [Nat.reduceAdd, Nat.reduceMul, List.nil_append]
       apply Trc.stp rfl rfl rfl; apply s_load; exact rfl; exact rfl; exact rfl; dsimp only [Nat.reduceAdd, Nat.reduceMul, List.nil_append]
       apply Trc.stp rfl rfl rfl; apply s_move; exact rfl; dsimp only [Nat.reduceAdd, Nat.reduceMul, List.nil_append]
       apply Trc.stp rfl rfl rfl; apply s_slL; exact rfl; exact rfl; exact ⟨_, rfl⟩; omega; omega; exact rfl; dsimp only [Nat.reduceAdd, Nat.reduceMul, Nat.reduceSub, List.nil_append, List.cons_append, nbk, List.map_cons, List.map_nil]
       apply Trc.stp rfl rfl rfl; apply s_app; exact rfl; exact rfl; exact rfl; apply rd_sb rfl; simp only [byA_length, List.length_append, List.length_cons, List.length_nil, List.length_take, List.length_drop, List.length_replicate, List.length_map, Nat.mul_one, nameB_length, flat_length, List.length_set, inA_length, dsA_length, lsA_length, dA_length, lA_length] <;> omega
       rfl; exact rfl; exact rfl; exact OneL.one; omega; dsimp only [Nat.reduceAdd, Nat.reduceMul, Nat.reduceSub, List.nil_append, List.cons_append, nbk, List.map_cons, List.map_nil]
       apply Trc.stp rfl rfl rfl; apply s_assign; exact rfl; dsimp only [Nat.reduceAdd, Nat.reduceMul, List.nil_append]
       exact Trc.done _ _ _; exact rfl; refine thn_n ?_; refine Gol.seq ?_; apply Gol.region; apply Trc.stp rfl rfl rfl; apply s_move; exact rfl; dsimp only [Nat.reduceAdd, Nat.reduceMul, List.nil_append]
       apply Trc.stp rfl rfl rfl; apply s_loadW; exact rfl; exact rfl; exact rfl; exact agu_cuv _; dsimp only [Nat.reduceAdd, Nat.reduceMul, List.nil_append]
       apply Trc.stp rfl rfl rfl; apply s_lit; apply PA.cons; exact rfl; exact rfl; exact rfl; exact PA.nil; exact rfl; omega
       dsimp only [Nat.reduceAdd, Nat.reduceMul, Nat.reduceSub, List.nil_append, List.cons_append, nbk, List.map_cons, List.map_nil]; apply Trc.stp rfl rfl rfl; apply s_app; exact rfl; exact rfl; exact rfl; apply rd_sl rfl; rfl; simp only [byA_length, List.length_append, List.length_cons, List.length_nil, List.length_take, List.length_drop, List.length_replicate, List.length_map, Nat.mul_one, nameB_length, flat_length, List.length_set, inA_length, dsA_length, lsA_length, dA_length, lA_length] <;> omega
       exact rfl; exact rfl; rfl; omega; dsimp only [Nat.reduceAdd, Nat.reduceMul, Nat.reduceSub, List.nil_append, List.cons_append, nbk, List.map_cons, List.map_nil]
       apply Trc.stp rfl rfl rfl; apply s_assign; exact rfl; dsimp only [Nat.reduceAdd, Nat.reduceMul, List.nil_append]
       exact Trc.done _ _ _; exact rfl; refine thn_n ?_; refine Gol.seq ?_)
      simp only [Nat.zero_add, Nat.sub_zero, List.drop_zero, List.append_nil, List.nil_append, show cu (.v (.agg (nameC n))) = byA (nameB n) from rfl, nsA_take]
      (apply Gol.region; apply Trc.stp rfl rfl rfl; apply s_move; exact rfl; dsimp only [Nat.reduceAdd, Nat.reduceMul, List.nil_append]
       apply Trc.stp rfl rfl rfl; apply s_fieldAddr; exact rfl; dsimp only [Nat.reduceAdd, Nat.reduceMul, List.nil_append]
       apply Trc.stp rfl rfl rfl; apply s_load; exact rfl; exact rfl; exact rfl; dsimp only [Nat.reduceAdd, Nat.reduceMul, List.nil_append]
       apply Trc.stp rfl rfl rfl; apply s_move; exact rfl; dsimp only [Nat.reduceAdd, Nat.reduceMul, List.nil_append]
       apply Trc.stp rfl rfl rfl; apply s_slL; exact rfl; exact ⟨_, rfl⟩; exact rfl; omega; omega; exact rfl; dsimp only [Nat.reduceAdd, Nat.reduceMul, Nat.reduceSub, List.nil_append, List.cons_append, nbk, List.map_cons, List.map_nil]
       apply Trc.stp rfl rfl rfl; apply s_app; exact rfl; exact rfl; exact rfl; apply rd_sb rfl; simp only [byA_length, List.length_append, List.length_cons, List.length_nil, List.length_take, List.length_drop, List.length_replicate, List.length_map, Nat.mul_one, nameB_length, flat_length, List.length_set, inA_length, dsA_length, lsA_length, dA_length, lA_length] <;> omega
       simp only [byA_length, List.length_append, List.length_cons, List.length_nil, List.length_take, List.length_drop, List.length_replicate, List.length_map, Nat.mul_one, nameB_length, flat_length, List.length_set, inA_length, dsA_length, lsA_length, dA_length, lA_length] <;> omega
       exact rfl; exact rfl; exact OneL.one; omega; dsimp only [Nat.reduceAdd, Nat.reduceMul, Nat.reduceSub, List.nil_append, List.cons_append, nbk, List.map_cons, List.map_nil]
       apply Trc.stp rfl rfl rfl; apply s_fieldAddr; exact rfl; dsimp only [Nat.reduceAdd, Nat.reduceMul, List.nil_append]
       apply Trc.stepN rfl rfl; exact wnt_n rfl; apply s_store; exact rfl; exact rfl; exact rfl; exact rfl; rfl; exact Nat.le_of_ble_eq_true rfl
       dsimp only [Nat.reduceAdd, Nat.reduceMul, Nat.reduceSub, List.nil_append, List.cons_append, nbk, List.map_cons, List.map_nil]; exact Trc.done _ _ _; exact rfl
       refine thn_n ?_; refine Gol.seq ?_; apply Gol.region; apply Trc.stp rfl rfl rfl; apply s_loadW
       exact rfl; exact rfl; exact rfl; exact agu_cua _; dsimp only [Nat.reduceAdd, Nat.reduceMul, List.nil_append]
       apply Trc.stepN rfl rfl; exact wnt_n rfl; apply s_storeW; exact rfl; exact rfl; exact rfl; exact rfl; rfl; exact rfl; dsimp only [Nat.reduceAdd, Nat.reduceMul, Nat.reduceSub, List.nil_append, List.cons_append, nbk, List.map_cons, List.map_nil]
       exact Trc.done _ _ _; exact rfl; refine thn_n ?_; refine Gol.ret ?_)
      have hn : q + 1 + (L.length - q) = (insN L n).length := by rw [insN_len]; omega
      simp only [hn, nsA_drop]
      have hcc : byA (flat (L.take q)) ++ byA (nameB n) ++ List.take ((L.length - q) * 8) (byA (flat (L.drop q))) = byA (flat (insN L n)) := by
        have := insN_cells2 (L := L) (x := n) g1
        rw [nsA_take, nsA_drop] at this
        rw [this, insN, hB]
      rw [hcc]
      (apply RetQ.mkM (by first | exact .inr rfl | exact .inl rfl); apply res_1 rfl; exact res_cell rfl rfl rfl (agu_cua _); apply out_ids [32, 33, 34, 384] rfl
       apply OBs.cons; exact rfl; exact inferInstance; apply OBs.cons; exact rfl; exact inferInstance; apply OBs.cons; exact rfl; exact inferInstance; apply OBs.cons
       exact rfl; exact inferInstance; exact OBs.nil; intro k; apply Ot.agL; apply OtL.cons; exact Ot.sl (j := 0) rfl; apply OtL.cons; exact Ot.sl (j := 1) rfl
       apply OtL.cons; exact Ot.sl (j := 2) rfl; apply OtL.cons; exact Ot.sl (j := 3) rfl; apply OtL.cons; exact Ot.v inferInstance; exact OtL.nil)
section
variable (S : List UInt8 → UInt64) (hS : HashF S)
include hS
theorem stateMarks_ok (s : Stt) (n m : UInt64) (hs : OkS s) : Fresh Try.prog 7 [stA s, .v (.agg (nameC n)), .v (.agg (nameC m))] (fun _ => .v (.bool true)) [] := by
  by_cases hg : Lg s
  · have hlg := large_yes s hg
    unfold stA at hlg ⊢
    refine Fresh.of (fn := Try.f7) Try.func7 rfl (Nat.le_of_ble_eq_true rfl) fun w => ?_
    (refine Gol.seq ?_; apply Gol.region; apply Trc.stp rfl rfl rfl; apply s_box; exact rfl
     exact rfl; dsimp only [Nat.reduceAdd, Nat.reduceMul, Nat.reduceSub, List.nil_append, List.cons_append, nbk, List.map_cons, List.map_nil]; apply Trc.stp rfl rfl rfl; apply s_box; exact rfl; exact rfl; dsimp only [Nat.reduceAdd, Nat.reduceMul, Nat.reduceSub, List.nil_append, List.cons_append, nbk, List.map_cons, List.map_nil]
     apply Trc.stp rfl rfl rfl; apply s_box; exact rfl; exact rfl; dsimp only [Nat.reduceAdd, Nat.reduceMul, Nat.reduceSub, List.nil_append, List.cons_append, nbk, List.map_cons, List.map_nil]
     apply Trc.stp rfl rfl rfl; apply s_assign; exact rfl; dsimp only [Nat.reduceAdd, Nat.reduceMul, List.nil_append]
     exact Trc.done _ _ _; exact rfl; refine thn_n ?_; refine Gol.seq ?_; refine Gol.seq ?_; apply Gol.region
     apply Trc.stp rfl rfl rfl; apply s_loadW; exact rfl; exact rfl; exact rfl; exact agu_cua _; dsimp only [Nat.reduceAdd, Nat.reduceMul, List.nil_append]
     apply Trc.stp rfl rfl rfl; apply s_call (f := 11) rfl; apply evs.cons rfl; exact evs.nil; apply ArgL.cons
     exact arg_clo; exact ArgL.nil; exact hlg; exact Nat.le_of_ble_eq_true rfl; dsimp only [Nat.reduceAdd, Nat.reduceMul, Nat.reduceSub, List.nil_append, List.cons_append, nbk, List.map_cons, List.map_nil]
     exact Trc.done _ _ _; exact rfl; refine thn_n ?_)
    refine Gol.cond_t rfl rfl ?_
    (refine Gol.seq ?_; apply Gol.region; apply Trc.stp rfl rfl rfl; apply s_call (f := 10) rfl
     exact evs.nil; exact ArgL.nil; exact awake_ok S hS; exact Nat.le_of_ble_eq_true rfl; dsimp only [Nat.reduceAdd, Nat.reduceMul, Nat.reduceSub, List.nil_append, List.cons_append, nbk, List.map_cons, List.map_nil]
     apply Trc.stp rfl rfl rfl; apply s_assign; exact rfl; dsimp only [Nat.reduceAdd, Nat.reduceMul, List.nil_append]
     exact Trc.done _ _ _; exact rfl; refine thn_n ?_; refine Gol.ret ?_; refine thn_r ?_)
    (apply RetQ.mk (by first | exact .inr rfl | exact .inl rfl); apply res_1 rfl; exact res_tmp rfl; exact out_val)
  have hlg := large_no s hg
  unfold Lg at hg
  have hsm : Sm s := ⟨by omega, by omega, by omega, by omega⟩
  have hml := markL_len s.applied n
  have k1 := mark_ok s n hsm
  have k2 := refMark_ok s n ⟨by omega, by omega, by omega, by omega⟩
  have a1 := applied_ok s m (by omega)
  have a2 := fun f => refHas_ok s.applied f m (by omega)
  have a3 := applied_ok (stM s (markL s.applied n)) n (by simp only [stM]; omega)
  have a4 := applied_ok (stM s (markL s.applied n)) m (by simp only [stM]; omega)
  have sm := sameS_ok (stM s (markL s.applied n)) ⟨by simp only [stM]; omega, by simp only [stM]; omega, by simp only [stM]; omega, by simp only [stM]; omega⟩
  have e1 : hasN (stM s (markL s.applied n)).applied n = true := by show hasN (markL s.applied n) n = true; rw [markL_has]; simp
  have e2 : hasN (stM s (markL s.applied n)).applied m = (decide (m = n) || hasN s.applied m) := markL_has s.applied n m
  rw [e1] at a3
  rw [e2] at a4
  generalize stM s (markL s.applied n) = R at k1 k2 a3 a4 sm
  unfold stA stO stB at k1 k2
  unfold stA at hlg a1 a3 a4 sm ⊢
  generalize hasN s.applied m = B at a1 a2 a4
  by_cases hmn : m = n
  · subst hmn
    have hbb : (B == B) = true := by simp
    refine Fresh.of (fn := Try.f7) Try.func7 rfl (Nat.le_of_ble_eq_true rfl) fun w => ?_
    (refine Gol.seq ?_; apply Gol.region; apply Trc.stp rfl rfl rfl; apply s_box; exact rfl
     exact rfl; dsimp only [Nat.reduceAdd, Nat.reduceMul, Nat.reduceSub, List.nil_append, List.cons_append, nbk, List.map_cons, List.map_nil]; apply Trc.stp rfl rfl rfl; apply s_box; exact rfl; exact rfl; dsimp only [Nat.reduceAdd, Nat.reduceMul, Nat.reduceSub, List.nil_append, List.cons_append, nbk, List.map_cons, List.map_nil]
     apply Trc.stp rfl rfl rfl; apply s_box; exact rfl; exact rfl; dsimp only [Nat.reduceAdd, Nat.reduceMul, Nat.reduceSub, List.nil_append, List.cons_append, nbk, List.map_cons, List.map_nil]
     apply Trc.stp rfl rfl rfl; apply s_assign; exact rfl; dsimp only [Nat.reduceAdd, Nat.reduceMul, List.nil_append]
     exact Trc.done _ _ _; exact rfl; refine thn_n ?_; refine Gol.seq ?_; refine Gol.seq ?_; apply Gol.region
     apply Trc.stp rfl rfl rfl; apply s_loadW; exact rfl; exact rfl; exact rfl; exact agu_cua _; dsimp only [Nat.reduceAdd, Nat.reduceMul, List.nil_append]
     apply Trc.stp rfl rfl rfl; apply s_call (f := 11) rfl; apply evs.cons rfl; exact evs.nil; apply ArgL.cons
     exact arg_clo; exact ArgL.nil; exact hlg; exact Nat.le_of_ble_eq_true rfl; dsimp only [Nat.reduceAdd, Nat.reduceMul, Nat.reduceSub, List.nil_append, List.cons_append, nbk, List.map_cons, List.map_nil]
     exact Trc.done _ _ _; exact rfl; refine thn_n ?_)
    refine Gol.cond_f rfl rfl ?_
    (refine Gol.skip ?_; refine thn_n ?_; refine Gol.seq ?_; apply Gol.region; apply Trc.stp rfl rfl rfl; apply s_loadW; exact rfl; exact rfl; exact rfl; exact agu_cua _; dsimp only [Nat.reduceAdd, Nat.reduceMul, List.nil_append]
     apply Trc.stp rfl rfl rfl; apply s_loadW; exact rfl; exact rfl; exact rfl; exact agu_cuv _; dsimp only [Nat.reduceAdd, Nat.reduceMul, List.nil_append]
     apply Trc.stp rfl rfl rfl; apply s_call (f := 26) rfl; apply evs.cons rfl; apply evs.cons rfl; exact evs.nil; apply ArgL.cons
     exact arg_clo; apply ArgL.cons; exact arg_clo; exact ArgL.nil; exact k1; exact Nat.le_of_ble_eq_true rfl; dsimp only [Nat.reduceAdd, Nat.reduceMul, Nat.reduceSub, List.nil_append, List.cons_append, nbk, List.map_cons, List.map_nil]
     apply Trc.stp rfl rfl rfl; apply s_alloc; dsimp only [Nat.reduceAdd, Nat.reduceMul, Nat.reduceSub, List.nil_append, List.cons_append, nbk, List.map_cons, List.map_nil]
     apply Trc.stepN rfl rfl; exact wnt_n rfl; apply s_storeW; exact rfl; exact rfl; exact rfl; exact rfl; rfl; exact rfl; dsimp only [Nat.reduceAdd, Nat.reduceMul, Nat.reduceSub, List.nil_append, List.cons_append, nbk, List.map_cons, List.map_nil]
     exact Trc.done _ _ _; exact rfl; refine thn_n ?_; refine Gol.seq ?_; apply Gol.any; kernel_rfl; apply Trc.stp rfl rfl rfl; apply s_loadW; exact rfl; exact rfl; exact rfl; exact agu_cua _; dsimp only [Nat.reduceAdd, Nat.reduceMul, List.nil_append]
     apply Trc.stp rfl rfl rfl; apply s_loadW; exact rfl; exact rfl; exact rfl; exact agu_cua _; dsimp only [Nat.reduceAdd, Nat.reduceMul, List.nil_append]
     apply Trc.stp rfl rfl rfl; apply s_loadW; exact rfl; exact rfl; exact rfl; exact agu_cuv _; dsimp only [Nat.reduceAdd, Nat.reduceMul, List.nil_append]
     apply Trc.stp rfl rfl rfl; apply s_call (f := 27) rfl; apply evs.cons rfl; apply evs.cons rfl; exact evs.nil
     apply ArgL.cons; exact arg_clo; apply ArgL.cons; exact arg_clo; exact ArgL.nil; exact k2; exact Nat.le_of_ble_eq_true rfl; dsimp only [Nat.reduceAdd, Nat.reduceMul, Nat.reduceSub, List.nil_append, List.cons_append, nbk, List.map_cons, List.map_nil]
     apply Trc.stp rfl rfl rfl; apply s_call (f := 13) rfl; apply evs.cons rfl; apply evs.cons rfl; exact evs.nil
     apply ArgL.cons; apply arg_ag; apply ArgL.cons; exact arg_sl rfl; apply ArgL.cons; exact arg_sl rfl; apply ArgL.cons; exact arg_sl rfl; apply ArgL.cons
     exact arg_sl rfl; apply ArgL.cons; exact arg_clo; exact ArgL.nil; apply ArgL.cons; apply arg_ag; apply ArgL.cons; exact arg_sl rfl; apply ArgL.cons; exact arg_sl rfl
     apply ArgL.cons; exact arg_sl rfl; apply ArgL.cons; exact arg_sl rfl; apply ArgL.cons; exact arg_clo; exact ArgL.nil; exact ArgL.nil; exact sm; exact Nat.le_of_ble_eq_true rfl
     dsimp only [Nat.reduceAdd, Nat.reduceMul, Nat.reduceSub, List.nil_append, List.cons_append, nbk, List.map_cons, List.map_nil]; apply Trc.stp rfl rfl rfl; apply s_move; exact rfl; dsimp only [Nat.reduceAdd, Nat.reduceMul, List.nil_append]
     apply Trc.step rfl rfl; apply wnt_g; exact rfl; exact rfl; exact rfl; rfl; apply s_loadW; exact rfl; exact rfl; exact rfl; exact agu_cua _
     dsimp only [Nat.reduceAdd, Nat.reduceMul, List.nil_append]; apply Trc.step rfl rfl
     apply wnt_g; exact rfl; exact rfl; exact rfl; rfl; apply s_loadW; exact rfl; exact rfl; exact rfl; exact agu_cuv _; dsimp only [Nat.reduceAdd, Nat.reduceMul, List.nil_append]
     apply Trc.step rfl rfl; apply wnt_g; exact rfl; exact rfl; exact rfl; rfl; apply s_call (f := 28) rfl; apply evs.cons rfl; apply evs.cons rfl
     exact evs.nil; apply ArgL.cons; exact arg_clo; apply ArgL.cons; exact arg_clo; exact ArgL.nil; exact a1; exact Nat.le_of_ble_eq_true rfl; dsimp only [Nat.reduceAdd, Nat.reduceMul, Nat.reduceSub, List.nil_append, List.cons_append, nbk, List.map_cons, List.map_nil]
     apply Trc.step rfl rfl; apply wnt_g; exact rfl; exact rfl; exact rfl; rfl; apply s_fieldAddr; exact rfl; dsimp only [Nat.reduceAdd, Nat.reduceMul, List.nil_append]
     apply Trc.step rfl rfl; apply wnt_g; exact rfl; exact rfl; exact rfl; rfl; apply s_load; exact rfl; exact rfl; exact rfl; dsimp only [Nat.reduceAdd, Nat.reduceMul, List.nil_append]
     apply Trc.step rfl rfl; apply wnt_g; exact rfl; exact rfl; exact rfl; rfl; apply s_loadW; exact rfl; exact rfl; exact rfl; exact agu_cuv _
     dsimp only [Nat.reduceAdd, Nat.reduceMul, List.nil_append]; apply Trc.step rfl rfl
     apply wnt_g; exact rfl; exact rfl; exact rfl; rfl; apply s_call (f := 29) rfl; apply evs.cons rfl; apply evs.cons rfl
     exact evs.nil; apply ArgL.cons; exact arg_clo; apply ArgL.cons; exact arg_clo; exact ArgL.nil; exact a2 _; exact Nat.le_of_ble_eq_true rfl; dsimp only [Nat.reduceAdd, Nat.reduceMul, Nat.reduceSub, List.nil_append, List.cons_append, nbk, List.map_cons, List.map_nil]
     apply Trc.step rfl rfl; apply wnt_g; exact rfl; exact rfl; exact rfl; rfl; apply s_eqb; exact rfl; exact rfl; dsimp only [Nat.reduceAdd, Nat.reduceMul, List.nil_append]
     apply Trc.stp rfl rfl rfl; apply s_pick_t; exact rfl; rfl; exact rfl; dsimp only [Nat.reduceAdd, Nat.reduceMul, List.nil_append]
     apply Trc.stp rfl rfl rfl; apply s_move; exact rfl; dsimp only [Nat.reduceAdd, Nat.reduceMul, List.nil_append]
     apply Trc.step rfl rfl; apply wnt_g; exact rfl; exact rfl; exact rfl; (focus (simp only [*]; rfl)); apply s_loadW; exact rfl; exact rfl
     exact rfl; exact agu_cua _; dsimp only [Nat.reduceAdd, Nat.reduceMul, List.nil_append]
     apply Trc.step rfl rfl; apply wnt_g; exact rfl; exact rfl; exact rfl; (focus (simp only [*]; rfl)); apply s_loadW; exact rfl; exact rfl
     exact rfl; exact agu_cuv _; dsimp only [Nat.reduceAdd, Nat.reduceMul, List.nil_append]
     apply Trc.step rfl rfl; apply wnt_g; exact rfl; exact rfl; exact rfl; (focus (simp only [*]; rfl)); apply s_call (f := 28) rfl
     apply evs.cons rfl; apply evs.cons rfl; exact evs.nil; apply ArgL.cons; apply arg_ag; apply ArgL.cons; exact arg_sl rfl; apply ArgL.cons; exact arg_sl rfl
     apply ArgL.cons; exact arg_sl rfl; apply ArgL.cons; exact arg_sl rfl; apply ArgL.cons; exact arg_clo; exact ArgL.nil; apply ArgL.cons; exact arg_clo; exact ArgL.nil
     exact a3; exact Nat.le_of_ble_eq_true rfl; dsimp only [Nat.reduceAdd, Nat.reduceMul, Nat.reduceSub, List.nil_append, List.cons_append, nbk, List.map_cons, List.map_nil]
     apply Trc.stp rfl rfl rfl; apply s_pick_t; exact rfl; assumption; exact rfl; dsimp only [Nat.reduceAdd, Nat.reduceMul, List.nil_append]
     apply Trc.stp rfl rfl rfl; apply s_move; exact rfl; dsimp only [Nat.reduceAdd, Nat.reduceMul, List.nil_append]
     apply Trc.step rfl rfl; apply wnt_g; exact rfl; exact rfl; exact rfl; rfl; apply s_loadW; exact rfl; exact rfl; exact rfl; exact agu_cuv _
     dsimp only [Nat.reduceAdd, Nat.reduceMul, List.nil_append]; apply Trc.step rfl rfl
     apply wnt_g; exact rfl; exact rfl; exact rfl; rfl; apply s_loadW; exact rfl; exact rfl; exact rfl; exact agu_cuv _; dsimp only [Nat.reduceAdd, Nat.reduceMul, List.nil_append]
     apply Trc.step rfl rfl; apply wnt_g; exact rfl; exact rfl; exact rfl; rfl; apply s_eqN; exact rfl; exact rfl; dsimp only [Nat.reduceAdd, Nat.reduceMul, List.nil_append]
     apply Trc.step rfl rfl; apply wnt_g; exact rfl; exact rfl; exact rfl; rfl; apply s_move; exact rfl; dsimp only [Nat.reduceAdd, Nat.reduceMul, List.nil_append]
     apply Trc.skip rfl rfl; apply wnt_g; exact rfl; exact rfl; exact rfl; (focus (simp [*]; done)); dsimp only [Nat.reduceAdd, Nat.reduceMul, List.nil_append]
     apply Trc.skip rfl rfl; apply wnt_g; exact rfl; exact rfl; exact rfl; (focus (simp [*]; done)); dsimp only [Nat.reduceAdd, Nat.reduceMul, List.nil_append]
     apply Trc.skip rfl rfl; apply wnt_g; exact rfl; exact rfl; exact rfl; (focus (simp [*]; done)); dsimp only [Nat.reduceAdd, Nat.reduceMul, List.nil_append]
     apply Trc.skip rfl rfl; apply wnt_g; exact rfl; exact rfl; exact rfl; (focus (simp [*]; done)); dsimp only [Nat.reduceAdd, Nat.reduceMul, List.nil_append]
     apply Trc.skip rfl rfl; apply wnt_g; exact rfl; exact rfl; exact rfl; (focus (simp [*]; done)); dsimp only [Nat.reduceAdd, Nat.reduceMul, List.nil_append]
     apply Trc.skip rfl rfl; apply wnt_g; exact rfl; exact rfl; exact rfl; (focus (simp [*]; done)); dsimp only [Nat.reduceAdd, Nat.reduceMul, List.nil_append]
     apply Trc.skip rfl rfl; apply wnt_g; exact rfl; exact rfl; exact rfl; (focus (simp [*]; done)); dsimp only [Nat.reduceAdd, Nat.reduceMul, List.nil_append]
     apply Trc.step rfl rfl; apply wnt_g; exact rfl; exact rfl; exact rfl; rfl; apply s_pick_t; exact rfl; (focus (simp [*]; done)); exact rfl
     dsimp only [Nat.reduceAdd, Nat.reduceMul, List.nil_append]; apply Trc.stp rfl rfl rfl; apply s_pick_t; exact rfl; rfl; exact rfl; dsimp only [Nat.reduceAdd, Nat.reduceMul, List.nil_append]
     apply Trc.stp rfl rfl rfl; apply s_move; exact rfl; dsimp only [Nat.reduceAdd, Nat.reduceMul, List.nil_append]
     apply Trc.step rfl rfl; apply wnt_g; exact rfl; exact rfl; exact rfl; rfl; apply s_call (f := 10) rfl; exact evs.nil
     exact ArgL.nil; exact awake_ok S hS; exact Nat.le_of_ble_eq_true rfl; dsimp only [Nat.reduceAdd, Nat.reduceMul, Nat.reduceSub, List.nil_append, List.cons_append, nbk, List.map_cons, List.map_nil]
     apply Trc.stp rfl rfl rfl; apply s_pick_t; exact rfl; rfl; exact rfl; dsimp only [Nat.reduceAdd, Nat.reduceMul, List.nil_append]
     apply Trc.stp rfl rfl rfl; apply s_assign; exact rfl; dsimp only [Nat.reduceAdd, Nat.reduceMul, List.nil_append]
     exact Trc.done _ _ _; kernel_rfl; exact rfl; refine thn_n ?_; refine Gol.ret ?_)
    apply RetQ.bool
    · (apply RetQ.mk (by first | exact .inr rfl | exact .inl rfl); apply res_1 rfl; exact res_tmp rfl; exact out_val)
    · simp
  · have hmn' : (m == n) = false := by simpa using hmn
    rw [show (decide (m = n) || B) = B by simp [hmn]] at a4
    have hbb : (B == B) = true := by simp
    refine Fresh.of (fn := Try.f7) Try.func7 rfl (Nat.le_of_ble_eq_true rfl) fun w => ?_
    (refine Gol.seq ?_; apply Gol.region; apply Trc.stp rfl rfl rfl; apply s_box; exact rfl
     exact rfl; dsimp only [Nat.reduceAdd, Nat.reduceMul, Nat.reduceSub, List.nil_append, List.cons_append, nbk, List.map_cons, List.map_nil]; apply Trc.stp rfl rfl rfl; apply s_box; exact rfl; exact rfl; dsimp only [Nat.reduceAdd, Nat.reduceMul, Nat.reduceSub, List.nil_append, List.cons_append, nbk, List.map_cons, List.map_nil]
     apply Trc.stp rfl rfl rfl; apply s_box; exact rfl; exact rfl; dsimp only [Nat.reduceAdd, Nat.reduceMul, Nat.reduceSub, List.nil_append, List.cons_append, nbk, List.map_cons, List.map_nil]
     apply Trc.stp rfl rfl rfl; apply s_assign; exact rfl; dsimp only [Nat.reduceAdd, Nat.reduceMul, List.nil_append]
     exact Trc.done _ _ _; exact rfl; refine thn_n ?_; refine Gol.seq ?_; refine Gol.seq ?_; apply Gol.region
     apply Trc.stp rfl rfl rfl; apply s_loadW; exact rfl; exact rfl; exact rfl; exact agu_cua _; dsimp only [Nat.reduceAdd, Nat.reduceMul, List.nil_append]
     apply Trc.stp rfl rfl rfl; apply s_call (f := 11) rfl; apply evs.cons rfl; exact evs.nil; apply ArgL.cons
     exact arg_clo; exact ArgL.nil; exact hlg; exact Nat.le_of_ble_eq_true rfl; dsimp only [Nat.reduceAdd, Nat.reduceMul, Nat.reduceSub, List.nil_append, List.cons_append, nbk, List.map_cons, List.map_nil]
     exact Trc.done _ _ _; exact rfl; refine thn_n ?_)
    refine Gol.cond_f rfl rfl ?_
    (refine Gol.skip ?_; refine thn_n ?_; refine Gol.seq ?_; apply Gol.region; apply Trc.stp rfl rfl rfl; apply s_loadW; exact rfl; exact rfl; exact rfl; exact agu_cua _; dsimp only [Nat.reduceAdd, Nat.reduceMul, List.nil_append]
     apply Trc.stp rfl rfl rfl; apply s_loadW; exact rfl; exact rfl; exact rfl; exact agu_cuv _; dsimp only [Nat.reduceAdd, Nat.reduceMul, List.nil_append]
     apply Trc.stp rfl rfl rfl; apply s_call (f := 26) rfl; apply evs.cons rfl; apply evs.cons rfl; exact evs.nil; apply ArgL.cons
     exact arg_clo; apply ArgL.cons; exact arg_clo; exact ArgL.nil; exact k1; exact Nat.le_of_ble_eq_true rfl; dsimp only [Nat.reduceAdd, Nat.reduceMul, Nat.reduceSub, List.nil_append, List.cons_append, nbk, List.map_cons, List.map_nil]
     apply Trc.stp rfl rfl rfl; apply s_alloc; dsimp only [Nat.reduceAdd, Nat.reduceMul, Nat.reduceSub, List.nil_append, List.cons_append, nbk, List.map_cons, List.map_nil]
     apply Trc.stepN rfl rfl; exact wnt_n rfl; apply s_storeW; exact rfl; exact rfl; exact rfl; exact rfl; rfl; exact rfl; dsimp only [Nat.reduceAdd, Nat.reduceMul, Nat.reduceSub, List.nil_append, List.cons_append, nbk, List.map_cons, List.map_nil]
     exact Trc.done _ _ _; exact rfl; refine thn_n ?_; refine Gol.seq ?_; apply Gol.any; kernel_rfl; apply Trc.stp rfl rfl rfl; apply s_loadW; exact rfl; exact rfl; exact rfl; exact agu_cua _; dsimp only [Nat.reduceAdd, Nat.reduceMul, List.nil_append]
     apply Trc.stp rfl rfl rfl; apply s_loadW; exact rfl; exact rfl; exact rfl; exact agu_cua _; dsimp only [Nat.reduceAdd, Nat.reduceMul, List.nil_append]
     apply Trc.stp rfl rfl rfl; apply s_loadW; exact rfl; exact rfl; exact rfl; exact agu_cuv _; dsimp only [Nat.reduceAdd, Nat.reduceMul, List.nil_append]
     apply Trc.stp rfl rfl rfl; apply s_call (f := 27) rfl; apply evs.cons rfl; apply evs.cons rfl; exact evs.nil
     apply ArgL.cons; exact arg_clo; apply ArgL.cons; exact arg_clo; exact ArgL.nil; exact k2; exact Nat.le_of_ble_eq_true rfl; dsimp only [Nat.reduceAdd, Nat.reduceMul, Nat.reduceSub, List.nil_append, List.cons_append, nbk, List.map_cons, List.map_nil]
     apply Trc.stp rfl rfl rfl; apply s_call (f := 13) rfl; apply evs.cons rfl; apply evs.cons rfl; exact evs.nil
     apply ArgL.cons; apply arg_ag; apply ArgL.cons; exact arg_sl rfl; apply ArgL.cons; exact arg_sl rfl; apply ArgL.cons; exact arg_sl rfl; apply ArgL.cons
     exact arg_sl rfl; apply ArgL.cons; exact arg_clo; exact ArgL.nil; apply ArgL.cons; apply arg_ag; apply ArgL.cons; exact arg_sl rfl; apply ArgL.cons; exact arg_sl rfl
     apply ArgL.cons; exact arg_sl rfl; apply ArgL.cons; exact arg_sl rfl; apply ArgL.cons; exact arg_clo; exact ArgL.nil; exact ArgL.nil; exact sm; exact Nat.le_of_ble_eq_true rfl
     dsimp only [Nat.reduceAdd, Nat.reduceMul, Nat.reduceSub, List.nil_append, List.cons_append, nbk, List.map_cons, List.map_nil]; apply Trc.stp rfl rfl rfl; apply s_move; exact rfl; dsimp only [Nat.reduceAdd, Nat.reduceMul, List.nil_append]
     apply Trc.step rfl rfl; apply wnt_g; exact rfl; exact rfl; exact rfl; rfl; apply s_loadW; exact rfl; exact rfl; exact rfl; exact agu_cua _
     dsimp only [Nat.reduceAdd, Nat.reduceMul, List.nil_append]; apply Trc.step rfl rfl
     apply wnt_g; exact rfl; exact rfl; exact rfl; rfl; apply s_loadW; exact rfl; exact rfl; exact rfl; exact agu_cuv _; dsimp only [Nat.reduceAdd, Nat.reduceMul, List.nil_append]
     apply Trc.step rfl rfl; apply wnt_g; exact rfl; exact rfl; exact rfl; rfl; apply s_call (f := 28) rfl; apply evs.cons rfl; apply evs.cons rfl
     exact evs.nil; apply ArgL.cons; exact arg_clo; apply ArgL.cons; exact arg_clo; exact ArgL.nil; exact a1; exact Nat.le_of_ble_eq_true rfl; dsimp only [Nat.reduceAdd, Nat.reduceMul, Nat.reduceSub, List.nil_append, List.cons_append, nbk, List.map_cons, List.map_nil]
     apply Trc.step rfl rfl; apply wnt_g; exact rfl; exact rfl; exact rfl; rfl; apply s_fieldAddr; exact rfl; dsimp only [Nat.reduceAdd, Nat.reduceMul, List.nil_append]
     apply Trc.step rfl rfl; apply wnt_g; exact rfl; exact rfl; exact rfl; rfl; apply s_load; exact rfl; exact rfl; exact rfl; dsimp only [Nat.reduceAdd, Nat.reduceMul, List.nil_append]
     apply Trc.step rfl rfl; apply wnt_g; exact rfl; exact rfl; exact rfl; rfl; apply s_loadW; exact rfl; exact rfl; exact rfl; exact agu_cuv _
     dsimp only [Nat.reduceAdd, Nat.reduceMul, List.nil_append]; apply Trc.step rfl rfl
     apply wnt_g; exact rfl; exact rfl; exact rfl; rfl; apply s_call (f := 29) rfl; apply evs.cons rfl; apply evs.cons rfl
     exact evs.nil; apply ArgL.cons; exact arg_clo; apply ArgL.cons; exact arg_clo; exact ArgL.nil; exact a2 _; exact Nat.le_of_ble_eq_true rfl; dsimp only [Nat.reduceAdd, Nat.reduceMul, Nat.reduceSub, List.nil_append, List.cons_append, nbk, List.map_cons, List.map_nil]
     apply Trc.step rfl rfl; apply wnt_g; exact rfl; exact rfl; exact rfl; rfl; apply s_eqb; exact rfl; exact rfl; dsimp only [Nat.reduceAdd, Nat.reduceMul, List.nil_append]
     apply Trc.stp rfl rfl rfl; apply s_pick_t; exact rfl; rfl; exact rfl; dsimp only [Nat.reduceAdd, Nat.reduceMul, List.nil_append]
     apply Trc.stp rfl rfl rfl; apply s_move; exact rfl; dsimp only [Nat.reduceAdd, Nat.reduceMul, List.nil_append]
     apply Trc.step rfl rfl; apply wnt_g; exact rfl; exact rfl; exact rfl; (focus (simp only [*]; rfl)); apply s_loadW; exact rfl; exact rfl
     exact rfl; exact agu_cua _; dsimp only [Nat.reduceAdd, Nat.reduceMul, List.nil_append]
     apply Trc.step rfl rfl; apply wnt_g; exact rfl; exact rfl; exact rfl; (focus (simp only [*]; rfl)); apply s_loadW; exact rfl; exact rfl
     exact rfl; exact agu_cuv _; dsimp only [Nat.reduceAdd, Nat.reduceMul, List.nil_append]
     apply Trc.step rfl rfl; apply wnt_g; exact rfl; exact rfl; exact rfl; (focus (simp only [*]; rfl)); apply s_call (f := 28) rfl
     apply evs.cons rfl; apply evs.cons rfl; exact evs.nil; apply ArgL.cons; apply arg_ag; apply ArgL.cons; exact arg_sl rfl; apply ArgL.cons; exact arg_sl rfl
     apply ArgL.cons; exact arg_sl rfl; apply ArgL.cons; exact arg_sl rfl; apply ArgL.cons; exact arg_clo; exact ArgL.nil; apply ArgL.cons; exact arg_clo; exact ArgL.nil
     exact a3; exact Nat.le_of_ble_eq_true rfl; dsimp only [Nat.reduceAdd, Nat.reduceMul, Nat.reduceSub, List.nil_append, List.cons_append, nbk, List.map_cons, List.map_nil]
     apply Trc.stp rfl rfl rfl; apply s_pick_t; exact rfl; assumption; exact rfl; dsimp only [Nat.reduceAdd, Nat.reduceMul, List.nil_append]
     apply Trc.stp rfl rfl rfl; apply s_move; exact rfl; dsimp only [Nat.reduceAdd, Nat.reduceMul, List.nil_append]
     apply Trc.step rfl rfl; apply wnt_g; exact rfl; exact rfl; exact rfl; rfl; apply s_loadW; exact rfl; exact rfl; exact rfl; exact agu_cuv _
     dsimp only [Nat.reduceAdd, Nat.reduceMul, List.nil_append]; apply Trc.step rfl rfl
     apply wnt_g; exact rfl; exact rfl; exact rfl; rfl; apply s_loadW; exact rfl; exact rfl; exact rfl; exact agu_cuv _; dsimp only [Nat.reduceAdd, Nat.reduceMul, List.nil_append]
     apply Trc.step rfl rfl; apply wnt_g; exact rfl; exact rfl; exact rfl; rfl; apply s_eqN; exact rfl; exact rfl; dsimp only [Nat.reduceAdd, Nat.reduceMul, List.nil_append]
     apply Trc.step rfl rfl; apply wnt_g; exact rfl; exact rfl; exact rfl; rfl; apply s_move; exact rfl; dsimp only [Nat.reduceAdd, Nat.reduceMul, List.nil_append]
     apply Trc.step rfl rfl; apply wnt_g; exact rfl; exact rfl; exact rfl; (focus (simp only [*]; rfl)); apply s_loadW; exact rfl; exact rfl
     exact rfl; exact agu_cua _; dsimp only [Nat.reduceAdd, Nat.reduceMul, List.nil_append]
     apply Trc.step rfl rfl; apply wnt_g; exact rfl; exact rfl; exact rfl; (focus (simp only [*]; rfl)); apply s_loadW; exact rfl; exact rfl
     exact rfl; exact agu_cuv _; dsimp only [Nat.reduceAdd, Nat.reduceMul, List.nil_append]
     apply Trc.step rfl rfl; apply wnt_g; exact rfl; exact rfl; exact rfl; (focus (simp only [*]; rfl)); apply s_call (f := 28) rfl
     apply evs.cons rfl; apply evs.cons rfl; exact evs.nil; apply ArgL.cons; apply arg_ag; apply ArgL.cons; exact arg_sl rfl; apply ArgL.cons; exact arg_sl rfl
     apply ArgL.cons; exact arg_sl rfl; apply ArgL.cons; exact arg_sl rfl; apply ArgL.cons; exact arg_clo; exact ArgL.nil; apply ArgL.cons; exact arg_clo; exact ArgL.nil
     exact a4; exact Nat.le_of_ble_eq_true rfl; dsimp only [Nat.reduceAdd, Nat.reduceMul, Nat.reduceSub, List.nil_append, List.cons_append, nbk, List.map_cons, List.map_nil]
     apply Trc.step rfl rfl; apply wnt_g; exact rfl; exact rfl; exact rfl; (focus (simp only [*]; rfl)); apply s_loadW; exact rfl; exact rfl
     exact rfl; exact agu_cua _; dsimp only [Nat.reduceAdd, Nat.reduceMul, List.nil_append]
     apply Trc.step rfl rfl; apply wnt_g; exact rfl; exact rfl; exact rfl; (focus (simp only [*]; rfl)); apply s_loadW; exact rfl; exact rfl
     exact rfl; exact agu_cuv _; dsimp only [Nat.reduceAdd, Nat.reduceMul, List.nil_append]
     apply Trc.step rfl rfl; apply wnt_g; exact rfl; exact rfl; exact rfl; (focus (simp only [*]; rfl)); apply s_call (f := 28) rfl
     apply evs.cons rfl; apply evs.cons rfl; exact evs.nil; apply ArgL.cons; exact arg_clo; apply ArgL.cons; exact arg_clo; exact ArgL.nil; exact a1; exact Nat.le_of_ble_eq_true rfl
     dsimp only [Nat.reduceAdd, Nat.reduceMul, Nat.reduceSub, List.nil_append, List.cons_append, nbk, List.map_cons, List.map_nil]; apply Trc.step rfl rfl
     apply wnt_g; exact rfl; exact rfl; exact rfl; (focus (simp only [*]; rfl)); apply s_eqb; exact rfl; exact rfl; dsimp only [Nat.reduceAdd, Nat.reduceMul, List.nil_append]
     apply Trc.step rfl rfl; apply wnt_g; exact rfl; exact rfl; exact rfl; rfl; apply s_pick_f; exact rfl; assumption; exact rfl; dsimp only [Nat.reduceAdd, Nat.reduceMul, List.nil_append]
     apply Trc.stp rfl rfl rfl; apply s_pick_t; exact rfl; rfl; exact rfl; dsimp only [Nat.reduceAdd, Nat.reduceMul, List.nil_append]
     apply Trc.stp rfl rfl rfl; apply s_move; exact rfl; dsimp only [Nat.reduceAdd, Nat.reduceMul, List.nil_append]
     apply Trc.step rfl rfl; apply wnt_g; exact rfl; exact rfl; exact rfl; (focus (simp only [*]; rfl)); apply s_call (f := 10) rfl
     exact evs.nil; exact ArgL.nil; exact awake_ok S hS; exact Nat.le_of_ble_eq_true rfl; dsimp only [Nat.reduceAdd, Nat.reduceMul, Nat.reduceSub, List.nil_append, List.cons_append, nbk, List.map_cons, List.map_nil]
     apply Trc.stp rfl rfl rfl; apply s_pick_t; exact rfl; assumption; exact rfl; dsimp only [Nat.reduceAdd, Nat.reduceMul, List.nil_append]
     apply Trc.stp rfl rfl rfl; apply s_assign; exact rfl; dsimp only [Nat.reduceAdd, Nat.reduceMul, List.nil_append]
     exact Trc.done _ _ _; kernel_rfl; exact rfl; refine thn_n ?_; refine Gol.ret ?_)
    apply RetQ.bool
    · (apply RetQ.mk (by first | exact .inr rfl | exact .inl rfl); apply res_1 rfl; exact res_tmp rfl; exact out_val)
    · simp
end
end Go.Proofs.Ytkkeeokeihkagaa

