/-
  Texts laid together: Lw27, Opg, Op21, Opv7, Op26. Conditions: as told in each.
-/
import Derived.Test.YtneeclacmhhblaaGreatKC5
set_option linter.unusedSimpArgs false
set_option linter.unusedVariables false
set_option linter.unusedSectionVars false
/-
  The laws of layer 27 without worlds, given the sanity check: CoverOutflow, CoverLimit, CoverBound. No condition but the arguments' bounds.
-/
namespace Go.Proofs.YtneeclacmhhblaaGreat
open Go.RowKit
open Nat (reduceAdd reduceMul reduceSub)

section
variable (haw : Fresh Tryz.prog 18 [] (fun _ => .v (.bool true)) [])
include haw
theorem coverLimit_ok (n stake : Int) (hn : okZ n) (hs : okZ stake) : Fresh Tryz.prog 6 [.v (.int .i64 n), .v (.int .i64 stake)] (fun _ => .v (.bool true)) [] := by
  have h1 := limit_ok n stake hn hs
  have h2 := refLimit_ok n stake hn hs
  generalize limN n stake = c at h1 h2
  have d : decide (c = c) = true := by simp
  refine Fresh.of (fn := Tryz.f6) Tryz.func6 rfl (lb rfl) fun w => ?_
  (apply Gol.sr; apply t0; exact s_assign rfl; dsimp only [reduceAdd, reduceMul]; exact dn; exact rfl; apply Gol.sr; apply t0; exact s_move rfl; apply t0
   exact s_move rfl; apply tq; exact s_call (f := 21) rfl (evs.cons rfl (evs.cons rfl evs.nil)) (ArgL.cons arg_clo (ArgL.cons arg_clo ArgL.nil)) h1 (lb rfl)
   dsimp only [reduceAdd, reduceMul, reduceSub, na, ca, nbk, mc, ml]; apply t0; exact s_move rfl
   apply t0; exact s_move rfl; apply tq; exact s_call (f := 22) rfl (evs.cons rfl (evs.cons rfl evs.nil)) (ArgL.cons arg_clo (ArgL.cons arg_clo ArgL.nil)) h2 (lb rfl)
   dsimp only [reduceAdd, reduceMul, reduceSub, na, ca, nbk, mc, ml]; apply t0; exact s_eq rfl rfl
   apply t0; exact s_move rfl; apply gq; exact wnt_g rfl rfl rfl (by focus (simp only [*]; rfl)); exact s_call (f := 18) rfl evs.nil ArgL.nil haw (lb rfl)
   dsimp only [reduceAdd, reduceMul, reduceSub, na, ca, nbk, mc, ml]; apply t0; exact s_pick_t rfl (by assumption) rfl
   apply t0; exact s_assign rfl; dsimp only [reduceAdd, reduceMul]; exact dn; exact rfl; refine Gol.ret ?_)
  (apply RetQ.mk (by first | exact .inr rfl | exact .inl rfl); apply res_1 rfl; exact res_tmp rfl; exact out_val)
theorem coverOutflow_ok (x : It) : Fresh Tryz.prog 5 [.ag (itA x)] (fun _ => .v (.bool true)) [] := by
  have hh := (heavy27_ok [x] false 0 [] false (by simp)).sub sub_nil2
  have hn := heavy27_no (l := [x]) (vs := 0)
  have e : itsA [x] = itA x := by unfold itsA; rw [fA_one]
  rw [e] at hh
  generalize heavy27 [x] 0 = F at hh hn
  cases F with
  | true =>
    refine Fresh.of (fn := Tryz.f5) Tryz.func5 rfl (lb rfl) fun w => ?_
    (apply Gol.sr; apply t1; exact s_box rfl rfl; apply t0; exact s_assign rfl; dsimp only [reduceAdd, reduceMul]; exact dn; exact rfl; refine Gol.seq ?_
     apply Gol.sr; apply t0; exact s_loadW rfl rfl rfl (agu_cua _); apply t1; exact s_lit (PA.cons rfl rfl rfl PA.nil) rfl (by first | omega | exact lb rfl | decide | (simp <;> omega) | (dsimp <;> omega)); apply tq; exact s_call (f := 17) rfl (evs.cons rfl (evs.cons rfl evs.nil)) (ArgL.cons (arg_sl rfl) (ArgL.cons arg_clo ArgL.nil)) hh (lb rfl)
     dsimp only [reduceAdd, reduceMul, reduceSub, na, ca, nbk, mc, ml]; exact dn; exact rfl)
    refine Gol.cond_t rfl rfl ?_
    (apply Gol.sr; apply tq; exact s_call (f := 18) rfl evs.nil ArgL.nil haw (lb rfl); dsimp only [reduceAdd, reduceMul, reduceSub, na, ca, nbk, mc, ml]
     apply t0; exact s_assign rfl; dsimp only [reduceAdd, reduceMul]; exact dn; exact rfl; refine Gol.ret ?_; refine thn_r ?_)
    (apply RetQ.mk (by first | exact .inr rfl | exact .inl rfl); apply res_1 rfl; exact res_tmp rfl; exact out_val)
  | false =>
    have hx := (hn rfl).2.2 x (by simp)
    have h1 := outflow_ok x (by omega)
    have h2 := refOutflow_ok x (by omega)
    generalize outN x.rc 0 = c at h1 h2
    have d : decide (c = c) = true := by simp
    refine Fresh.of (fn := Tryz.f5) Tryz.func5 rfl (lb rfl) fun w => ?_
    (apply Gol.sr; apply t1; exact s_box rfl rfl; apply t0; exact s_assign rfl; dsimp only [reduceAdd, reduceMul]; exact dn; exact rfl; refine Gol.seq ?_
     apply Gol.sr; apply t0; exact s_loadW rfl rfl rfl (agu_cua _); apply t1; exact s_lit (PA.cons rfl rfl rfl PA.nil) rfl (by first | omega | exact lb rfl | decide | (simp <;> omega) | (dsimp <;> omega)); apply tq; exact s_call (f := 17) rfl (evs.cons rfl (evs.cons rfl evs.nil)) (ArgL.cons (arg_sl rfl) (ArgL.cons arg_clo ArgL.nil)) hh (lb rfl)
     dsimp only [reduceAdd, reduceMul, reduceSub, na, ca, nbk, mc, ml]; exact dn; exact rfl)
    refine Gol.cond_f rfl rfl ?_
    (refine Gol.skip ?_; refine thn_n ?_; refine Gol.seq ?_; apply Gol.any; kernel_rfl
     apply t0; exact s_loadW rfl rfl rfl (agu_cua _); apply tq; exact s_call (f := 19) rfl (evs.cons rfl evs.nil) (ArgL.cons arg_clo ArgL.nil) h1 (lb rfl)
     dsimp only [reduceAdd, reduceMul, reduceSub, na, ca, nbk, mc, ml]; apply t0; exact s_loadW rfl rfl rfl (agu_cua _)
     apply tq; exact s_call (f := 20) rfl (evs.cons rfl evs.nil) (ArgL.cons arg_clo ArgL.nil) h2 (lb rfl)
     dsimp only [reduceAdd, reduceMul, reduceSub, na, ca, nbk, mc, ml]; apply t0; exact s_eq rfl rfl
     apply t0; exact s_move rfl; apply gq; exact wnt_g rfl rfl rfl (by focus (simp only [*]; rfl)); exact s_call (f := 18) rfl evs.nil ArgL.nil haw (lb rfl)
     dsimp only [reduceAdd, reduceMul, reduceSub, na, ca, nbk, mc, ml]; apply t0; exact s_pick_t rfl (by assumption) rfl
     apply t0; exact s_assign rfl; dsimp only [reduceAdd, reduceMul]; exact dn; kernel_rfl; exact rfl; refine thn_n ?_; refine Gol.ret ?_)
    (apply RetQ.mk (by first | exact .inr rfl | exact .inl rfl); apply res_1 rfl; exact res_tmp rfl; exact out_val)
set_option maxHeartbeats 1600000 in
theorem coverBound_ok (n stake : Int) (hn : okZ n) (hs : okZ stake) : Fresh Tryz.prog 7 [.v (.int .i64 n), .v (.int .i64 stake)] (fun _ => .v (.bool true)) [] := by
  by_cases h1 : n < 1
  · have d1 : decide (n < 1) = true := decide_eq_true h1
    refine Fresh.of (fn := Tryz.f7) Tryz.func7 rfl (lb rfl) fun w => ?_
    (apply Gol.sr; apply t0; exact s_assign rfl; dsimp only [reduceAdd, reduceMul]; exact dn; exact rfl; refine Gol.seq ?_; apply Gol.sr
     apply t0; exact s_move rfl; apply t0; exact s_lt rfl rfl; apply t0; exact s_move rfl; apply sk; exact wnt_g rfl rfl rfl (by focus (simp only [*]; rfl))
     apply sk; exact wnt_g rfl rfl rfl (by focus (simp only [*]; rfl)); apply t0; exact s_pick_t rfl (by assumption) rfl; apply t0; exact s_move rfl; apply sk
     exact wnt_g rfl rfl rfl rfl; apply sk; exact wnt_g rfl rfl rfl rfl; apply t0; exact s_pick_t rfl rfl rfl; apply t0; exact s_move rfl; apply sk; exact wnt_g rfl rfl rfl rfl
     apply sk; exact wnt_g rfl rfl rfl rfl; apply t0; exact s_pick_t rfl rfl rfl; dsimp only [reduceAdd, reduceMul]; exact dn; exact rfl)
    refine Gol.cond_t rfl (by first | rfl | assumption) ?_
    (apply Gol.sr; apply tq; exact s_call (f := 18) rfl evs.nil ArgL.nil haw (lb rfl); dsimp only [reduceAdd, reduceMul, reduceSub, na, ca, nbk, mc, ml]
     apply t0; exact s_assign rfl; dsimp only [reduceAdd, reduceMul]; exact dn; exact rfl; refine Gol.ret ?_; refine thn_r ?_)
    (apply RetQ.mk (by first | exact .inr rfl | exact .inl rfl); apply res_1 rfl; exact res_tmp rfl; exact out_val)
  have d1 : decide (n < 1) = false := decide_eq_false h1
  by_cases h2 : 7 < n
  · have d2 : decide (7 < n) = true := decide_eq_true h2
    refine Fresh.of (fn := Tryz.f7) Tryz.func7 rfl (lb rfl) fun w => ?_
    (apply Gol.sr; apply t0; exact s_assign rfl; dsimp only [reduceAdd, reduceMul]; exact dn; exact rfl; refine Gol.seq ?_; apply Gol.sr
     apply t0; exact s_move rfl; apply t0; exact s_lt rfl rfl; apply t0; exact s_move rfl; apply g0; exact wnt_g rfl rfl rfl (by focus (simp only [*]; rfl))
     exact s_move rfl; apply g0; exact wnt_g rfl rfl rfl (by focus (simp only [*]; rfl)); exact s_gt rfl rfl; apply t0; exact s_pick_f rfl (by assumption) rfl
     apply t0; exact s_move rfl; apply sk; exact wnt_g rfl rfl rfl (by focus (simp only [*]; rfl)); apply sk; exact wnt_g rfl rfl rfl (by focus (simp only [*]; rfl))
     apply t0; exact s_pick_t rfl (by assumption) rfl; apply t0; exact s_move rfl; apply sk; exact wnt_g rfl rfl rfl rfl; apply sk; exact wnt_g rfl rfl rfl rfl
     apply t0; exact s_pick_t rfl rfl rfl; dsimp only [reduceAdd, reduceMul]; exact dn; exact rfl)
    refine Gol.cond_t rfl (by first | rfl | assumption) ?_
    (apply Gol.sr; apply tq; exact s_call (f := 18) rfl evs.nil ArgL.nil haw (lb rfl); dsimp only [reduceAdd, reduceMul, reduceSub, na, ca, nbk, mc, ml]
     apply t0; exact s_assign rfl; dsimp only [reduceAdd, reduceMul]; exact dn; exact rfl; refine Gol.ret ?_; refine thn_r ?_)
    (apply RetQ.mk (by first | exact .inr rfl | exact .inl rfl); apply res_1 rfl; exact res_tmp rfl; exact out_val)
  have d2 : decide (7 < n) = false := decide_eq_false h2
  by_cases h3 : stake < 0
  · have d3 : decide (stake < 0) = true := decide_eq_true h3
    refine Fresh.of (fn := Tryz.f7) Tryz.func7 rfl (lb rfl) fun w => ?_
    (apply Gol.sr; apply t0; exact s_assign rfl; dsimp only [reduceAdd, reduceMul]; exact dn; exact rfl; refine Gol.seq ?_; apply Gol.sr
     apply t0; exact s_move rfl; apply t0; exact s_lt rfl rfl; apply t0; exact s_move rfl; apply g0; exact wnt_g rfl rfl rfl (by focus (simp only [*]; rfl))
     exact s_move rfl; apply g0; exact wnt_g rfl rfl rfl (by focus (simp only [*]; rfl)); exact s_gt rfl rfl; apply t0; exact s_pick_f rfl (by assumption) rfl
     apply t0; exact s_move rfl; apply g0; exact wnt_g rfl rfl rfl (by focus (simp only [*]; rfl)); exact s_move rfl; apply g0; exact wnt_g rfl rfl rfl (by focus (simp only [*]; rfl))
     exact s_lt rfl rfl; apply t0; exact s_pick_f rfl (by assumption) rfl; apply t0; exact s_move rfl; apply sk; exact wnt_g rfl rfl rfl (by focus (simp only [*]; rfl))
     apply sk; exact wnt_g rfl rfl rfl (by focus (simp only [*]; rfl)); apply t0; exact s_pick_t rfl (by assumption) rfl; dsimp only [reduceAdd, reduceMul]
     exact dn; exact rfl)
    refine Gol.cond_t rfl (by first | rfl | assumption) ?_
    (apply Gol.sr; apply tq; exact s_call (f := 18) rfl evs.nil ArgL.nil haw (lb rfl); dsimp only [reduceAdd, reduceMul, reduceSub, na, ca, nbk, mc, ml]
     apply t0; exact s_assign rfl; dsimp only [reduceAdd, reduceMul]; exact dn; exact rfl; refine Gol.ret ?_; refine thn_r ?_)
    (apply RetQ.mk (by first | exact .inr rfl | exact .inl rfl); apply res_1 rfl; exact res_tmp rfl; exact out_val)
  have d3 : decide (stake < 0) = false := decide_eq_false h3
  by_cases h4 : 1099511627776 < stake
  · have d4 : decide (1099511627776 < stake) = true := decide_eq_true h4
    refine Fresh.of (fn := Tryz.f7) Tryz.func7 rfl (lb rfl) fun w => ?_
    (apply Gol.sr; apply t0; exact s_assign rfl; dsimp only [reduceAdd, reduceMul]; exact dn; exact rfl; refine Gol.seq ?_; apply Gol.sr
     apply t0; exact s_move rfl; apply t0; exact s_lt rfl rfl; apply t0; exact s_move rfl; apply g0; exact wnt_g rfl rfl rfl (by focus (simp only [*]; rfl))
     exact s_move rfl; apply g0; exact wnt_g rfl rfl rfl (by focus (simp only [*]; rfl)); exact s_gt rfl rfl; apply t0; exact s_pick_f rfl (by assumption) rfl
     apply t0; exact s_move rfl; apply g0; exact wnt_g rfl rfl rfl (by focus (simp only [*]; rfl)); exact s_move rfl; apply g0; exact wnt_g rfl rfl rfl (by focus (simp only [*]; rfl))
     exact s_lt rfl rfl; apply t0; exact s_pick_f rfl (by assumption) rfl; apply t0; exact s_move rfl; apply g0; exact wnt_g rfl rfl rfl (by focus (simp only [*]; rfl))
     exact s_move rfl; apply g0; exact wnt_g rfl rfl rfl (by focus (simp only [*]; rfl)); exact s_gt rfl rfl; apply t0; exact s_pick_f rfl (by assumption) rfl
     dsimp only [reduceAdd, reduceMul]; exact dn; exact rfl)
    refine Gol.cond_t rfl (by first | rfl | assumption) ?_
    (apply Gol.sr; apply tq; exact s_call (f := 18) rfl evs.nil ArgL.nil haw (lb rfl); dsimp only [reduceAdd, reduceMul, reduceSub, na, ca, nbk, mc, ml]
     apply t0; exact s_assign rfl; dsimp only [reduceAdd, reduceMul]; exact dn; exact rfl; refine Gol.ret ?_; refine thn_r ?_)
    (apply RetQ.mk (by first | exact .inr rfl | exact .inl rfl); apply res_1 rfl; exact res_tmp rfl; exact out_val)
  have d4 : decide (1099511627776 < stake) = false := decide_eq_false h4
  obtain ⟨s, rfl⟩ := Int.eq_ofNat_of_zero_le (a := stake) (by omega)
  have d3 : decide (s < 0) = false := decide_eq_false (by omega)
  have d4 : decide (1099511627776 < s) = false := decide_eq_false (by omega)
  have c1 := limit_ok n s hn hs
  have b1 := bound_few n s (by omega) (by omega) (by omega)
  have b2 := bound_many n s (by omega) (by omega) (by omega) (by omega)
  generalize limN n s = c at c1 b1 b2
  obtain ⟨q, rfl⟩ := Int.eq_ofNat_of_zero_le (a := n) (by omega)
  have c2 := refThird_ok q (by omega)
  have d1 : decide (q < 1) = false := decide_eq_false (by omega)
  have d2 : decide (7 < q) = false := decide_eq_false (by omega)
  rw [Int.toNat_natCast] at b1 b2
  obtain ⟨t, ht⟩ : ∃ t, thirdN q = t := ⟨_, rfl⟩
  have hv := third_vals q (by omega) (by omega)
  rw [ht] at c2 b1 b2 hv
  have hq : (q : Int) - (t : Int) = ((q - t : Nat) : Int) := by omega
  by_cases h5 : (q : Int) - (t : Int) - 1 < 1
  · obtain rfl := b1 h5
    clear b2
    have d5 : decide (((q - t : Nat) : Int) - 1 < 1) = true := decide_eq_true (by omega)
    refine Fresh.of (fn := Tryz.f7) Tryz.func7 rfl (lb rfl) fun w => ?_
    (apply Gol.sr; apply t0; exact s_assign rfl; dsimp only [reduceAdd, reduceMul]; exact dn; exact rfl; refine Gol.seq ?_; apply Gol.sr
     apply t0; exact s_move rfl; apply t0; exact s_ltn rfl rfl; apply t0; exact s_move rfl; apply g0; exact wnt_g rfl rfl rfl (by focus (simp only [*]; rfl))
     exact s_move rfl; apply g0; exact wnt_g rfl rfl rfl (by focus (simp only [*]; rfl)); exact s_gtn rfl rfl; apply t0; exact s_pick_f rfl (by assumption) rfl
     apply t0; exact s_move rfl; apply g0; exact wnt_g rfl rfl rfl (by focus (simp only [*]; rfl)); exact s_move rfl; apply g0; exact wnt_g rfl rfl rfl (by focus (simp only [*]; rfl))
     exact s_ltn rfl rfl; apply t0; exact s_pick_f rfl (by assumption) rfl; apply t0; exact s_move rfl; apply g0; exact wnt_g rfl rfl rfl rfl; exact s_move rfl
     apply g0; exact wnt_g rfl rfl rfl rfl; exact s_gtn rfl rfl; apply t0; exact s_pick_f rfl rfl rfl; dsimp only [reduceAdd, reduceMul]; exact dn
     exact rfl)
    refine Gol.cond_f rfl (by first | rfl | assumption) ?_
    (refine Gol.skip ?_; refine thn_n ?_; apply Gol.sr; apply t0; exact s_move rfl; apply tq; exact s_call (f := 23) rfl (evs.cons rfl evs.nil) (ArgL.cons arg_clo ArgL.nil) c2 (lb rfl)
     dsimp only [reduceAdd, reduceMul, reduceSub, na, ca, nbk, mc, ml]; apply t0; exact s_assign rfl
     dsimp only [reduceAdd, reduceMul]; exact dn; exact rfl; apply Gol.sr; apply t0; exact s_move rfl; apply t0; exact s_move rfl; apply t0; exact s_subn rfl rfl (by omega) (by omega)
     apply t0; exact s_sub rfl rfl (by omega); apply t0; exact s_assign rfl; dsimp only [reduceAdd, reduceMul]; exact dn; exact rfl; apply Gol.sr; apply t0
     exact s_move rfl; apply t0; exact s_move rfl; apply tq; exact s_call (f := 21) rfl (evs.cons rfl (evs.cons rfl evs.nil)) (ArgL.cons arg_clo (ArgL.cons arg_clo ArgL.nil)) c1 (lb rfl)
     dsimp only [reduceAdd, reduceMul, reduceSub, na, ca, nbk, mc, ml]; apply t0; exact s_assign rfl
     dsimp only [reduceAdd, reduceMul]; exact dn; exact rfl; refine Gol.seq ?_; apply Gol.sr; apply t0; exact s_move rfl; apply t0
     exact s_lt rfl rfl; dsimp only [reduceAdd, reduceMul]; exact dn; exact rfl)
    refine Gol.cond_t rfl d5 ?_
    (apply Gol.sr; apply t0; exact s_move rfl; apply t0; exact s_eqn rfl rfl; apply t0; exact s_move rfl; apply gq; exact wnt_g rfl rfl rfl rfl; exact s_call (f := 18) rfl evs.nil ArgL.nil haw (lb rfl)
     dsimp only [reduceAdd, reduceMul, reduceSub, na, ca, nbk, mc, ml]; apply t0; exact s_pick_t rfl rfl rfl
     apply t0; exact s_assign rfl; dsimp only [reduceAdd, reduceMul]; exact dn; exact rfl; refine Gol.ret ?_; refine thn_r ?_)
    (apply RetQ.mk (by first | exact .inr rfl | exact .inl rfl); apply res_1 rfl; exact res_tmp rfl; exact out_val)
  · obtain ⟨b3, b4, b5, b6⟩ := b2 h5
    clear b1 b2
    have d5 : decide (((q - t : Nat) : Int) - 1 < 1) = false := decide_eq_false (by omega)
    obtain ⟨C, rfl⟩ := Int.eq_ofNat_of_zero_le b3
    refine Fresh.of (fn := Tryz.f7) Tryz.func7 rfl (lb rfl) fun w => ?_
    (apply Gol.sr; apply t0; exact s_assign rfl; dsimp only [reduceAdd, reduceMul]; exact dn; exact rfl; refine Gol.seq ?_; apply Gol.sr
     apply t0; exact s_move rfl; apply t0; exact s_ltn rfl rfl; apply t0; exact s_move rfl; apply g0; exact wnt_g rfl rfl rfl (by focus (simp only [*]; rfl))
     exact s_move rfl; apply g0; exact wnt_g rfl rfl rfl (by focus (simp only [*]; rfl)); exact s_gtn rfl rfl; apply t0; exact s_pick_f rfl (by assumption) rfl
     apply t0; exact s_move rfl; apply g0; exact wnt_g rfl rfl rfl (by focus (simp only [*]; rfl)); exact s_move rfl; apply g0; exact wnt_g rfl rfl rfl (by focus (simp only [*]; rfl))
     exact s_ltn rfl rfl; apply t0; exact s_pick_f rfl (by assumption) rfl; apply t0; exact s_move rfl; apply g0; exact wnt_g rfl rfl rfl rfl; exact s_move rfl
     apply g0; exact wnt_g rfl rfl rfl rfl; exact s_gtn rfl rfl; apply t0; exact s_pick_f rfl rfl rfl; dsimp only [reduceAdd, reduceMul]; exact dn
     exact rfl)
    refine Gol.cond_f rfl (by first | rfl | assumption) ?_
    (refine Gol.skip ?_; refine thn_n ?_; apply Gol.sr; apply t0; exact s_move rfl; apply tq; exact s_call (f := 23) rfl (evs.cons rfl evs.nil) (ArgL.cons arg_clo ArgL.nil) c2 (lb rfl)
     dsimp only [reduceAdd, reduceMul, reduceSub, na, ca, nbk, mc, ml]; apply t0; exact s_assign rfl
     dsimp only [reduceAdd, reduceMul]; exact dn; exact rfl; apply Gol.sr; apply t0; exact s_move rfl; apply t0; exact s_move rfl; apply t0; exact s_subn rfl rfl (by omega) (by omega)
     apply t0; exact s_subn rfl rfl (by simp <;> omega) (by omega); apply t0; exact s_assign rfl; dsimp only [reduceAdd, reduceMul]; exact dn; exact rfl
     apply Gol.sr; apply t0; exact s_move rfl; apply t0; exact s_move rfl; apply tq; exact s_call (f := 21) rfl (evs.cons rfl (evs.cons rfl evs.nil)) (ArgL.cons arg_clo (ArgL.cons arg_clo ArgL.nil)) c1 (lb rfl)
     dsimp only [reduceAdd, reduceMul, reduceSub, na, ca, nbk, mc, ml]; apply t0; exact s_assign rfl
     dsimp only [reduceAdd, reduceMul]; exact dn; exact rfl; refine Gol.seq ?_; apply Gol.sr; apply t0; exact s_move rfl; apply t0
     exact s_ltn rfl rfl; dsimp only [reduceAdd, reduceMul]; exact dn; exact rfl)
    refine Gol.cond_f rfl (decide_eq_false (by omega)) ?_
    (refine Gol.skip ?_; refine thn_n ?_; refine Gol.seq ?_)
    have ho : (q : Int) - (t : Int) - 1 = ((q - t - 1 : Nat) : Int) := by omega
    rw [ho] at b5 b6
    obtain ⟨o, hoo⟩ : ∃ o, q - t - 1 = o := ⟨_, rfl⟩
    have ho3 : 1 ≤ o ∧ o ≤ 3 ∧ 1 ≤ t ∧ t ≤ 3 := by omega
    rw [hoo] at b5 b6 ⊢
    have m1 : o * C ≤ 9895604649984 := by
      have : o = 1 ∨ o = 2 ∨ o = 3 := by omega
      rcases this with rfl | rfl | rfl <;> omega
    have m3 : o * (C + 1) ≤ 9895604650000 := by
      have : o = 1 ∨ o = 2 ∨ o = 3 := by omega
      rcases this with rfl | rfl | rfl <;> omega
    have m2 : t * s ≤ 9895604649984 := by
      have : t = 1 ∨ t = 2 ∨ t = 3 := by omega
      rcases this with rfl | rfl | rfl <;> omega
    have d6 : decide (0 ≤ C) = true := decide_eq_true (Nat.zero_le _)
    have d7 : decide (o * C ≤ t * s) = true := decide_eq_true (Int.ofNat_le.1 (by rw [Int.natCast_mul, Int.natCast_mul]; exact b5))
    have d8 : decide (t * s < o * (C + 1)) = true := decide_eq_true (Int.ofNat_lt.1 (by rw [Int.natCast_mul, Int.natCast_mul, Int.natCast_add]; exact b6))
    clear hoo ho hv hq h5
    (apply Gol.region; apply t0; exact s_move rfl; apply t0; exact s_gen rfl rfl; apply t0; exact s_move rfl; apply g0; exact wnt_g rfl rfl rfl rfl
     exact s_move rfl; apply g0; exact wnt_g rfl rfl rfl rfl; exact s_move rfl; apply g0; exact wnt_g rfl rfl rfl rfl; exact s_muln rfl rfl (by omega); apply g0
     exact wnt_g rfl rfl rfl rfl; exact s_move rfl; apply g0; exact wnt_g rfl rfl rfl rfl; exact s_move rfl; apply g0; exact wnt_g rfl rfl rfl rfl; exact s_muln rfl rfl (by omega)
     apply g0; exact wnt_g rfl rfl rfl rfl; exact s_len' rfl rfl; apply t0; exact s_pick_t rfl rfl rfl; apply t0; exact s_move rfl; apply g0; exact wnt_g rfl rfl rfl (by focus (simp only [*]; rfl))
     exact s_move rfl; apply g0; exact wnt_g rfl rfl rfl (by focus (simp only [*]; rfl)); exact s_move rfl; apply g0; exact wnt_g rfl rfl rfl (by focus (simp only [*]; rfl))
     exact s_addn rfl rfl (by simp <;> omega); apply g0; exact wnt_g rfl rfl rfl (by focus (simp only [*]; rfl)); exact s_muln rfl rfl (by first | omega | exact lb rfl | decide | (simp <;> omega) | (dsimp <;> omega)); apply g0
     exact wnt_g rfl rfl rfl (by focus (simp only [*]; rfl)); exact s_move rfl; apply g0; exact wnt_g rfl rfl rfl (by focus (simp only [*]; rfl)); exact s_move rfl
     apply g0; exact wnt_g rfl rfl rfl (by focus (simp only [*]; rfl)); exact s_muln rfl rfl (by omega); apply g0; exact wnt_g rfl rfl rfl (by focus (simp only [*]; rfl))
     exact s_gtn rfl rfl; apply t0; exact s_pick_t rfl (by assumption) rfl; apply t0; exact s_move rfl; apply gq; exact wnt_g rfl rfl rfl (by focus (simp only [*]; rfl))
     exact s_call (f := 18) rfl evs.nil ArgL.nil haw (lb rfl); dsimp only [reduceAdd, reduceMul, reduceSub, na, ca, nbk, mc, ml]
     apply t0; exact s_pick_t rfl (by assumption) rfl; apply t0; exact s_assign rfl; dsimp only [reduceAdd, reduceMul]; exact dn; exact rfl; refine thn_n ?_
     refine Gol.ret ?_)
    (apply RetQ.mk (by first | exact .inr rfl | exact .inl rfl); apply res_1 rfl; exact res_tmp rfl; exact out_val)
end
end Go.Proofs.YtneeclacmhhblaaGreat


/-
  Arguments of any shape, opened into the program logic. No condition.
-/
namespace Go.Proofs.YtneeclacmhhblaaGreat
open Go.ChangeShapes Go.WideShapes Go.ChangeAt Go.RowKit

section
variable {P : Program}
def Opn (P : Program) (t : TypeId) (k : Nat) {α : Type} (q : α → Prop) (f : α → List AV) : Prop :=
  ∀ (H : Type) (enc : TypeId × Value → H) (w : World) (base : Nat) (held : Bool) (fuel : Nat) (cs : List Value) (x : DataW H × List MemPlace),
    DataW.trod enc P w base (fun _ => true) held fuel t cs = some x → (∀ n ∈ x.1.weights P t, n ≤ reachBytes) → ∃ a, q a ∧ (f a).length = k ∧ RVs (E0 w) (f a) cs
theorem RVs.one {E : Env} {a : AV} {x : Value} (h : RV E a x) : RVs E [a] [x] :=
  ⟨rfl, fun j c y hc hy => by cases j with | zero => simp at hc hy; subst hc hy; exact h | succ j => simp at hc⟩
theorem opn_i64 {t : TypeId} (ht : P.underlying t = some (.int .i64)) : Opn P t 1 (fun a : Int => -9223372036854775808 ≤ a ∧ a ≤ 9223372036854775807) (fun a => [.v (.int .i64 a)]) := by
  intro H enc w base held fuel cs x h _
  obtain ⟨z, rfl, _, hwf⟩ := DataW.trod_int ht h
  have hbd := bounds_i64 hwf
  exact ⟨z, by omega, rfl, RVs.one (.v _)⟩
theorem opn_name {t e : TypeId} (ht : P.underlying t = some (.array 8 e)) (he : P.underlying e = some (.int .u8)) (hce : P.cellsOf e = 1) (hct : P.cellsOf t = 8) : Opn P t 8 (fun _ : UInt64 => True) (fun a => byA (nameB a)) := by
  intro H enc w base held fuel cs x h _
  obtain ⟨n, rfl⟩ := trod_name ht he hce hct h
  refine ⟨n, trivial, rfl, ?_⟩
  exact RVs.vals (nameC n).toList
def OpnL (P : Program) (fs : List Field) (o k : Nat) {α : Type} (q : α → Prop) (f : α → List AV) : Prop :=
  ∀ (H : Type) (enc : TypeId × Value → H) (w : World) (base : Nat) (held : Bool) (n : Nat) (cs : List Value) (xs : List (DataW H × List MemPlace)), xs.length = fs.length →
    (∀ (i : Nat) (fd : Field), fs[i]? = some fd → DataW.trod enc P w base (fun _ => true) held n fd.type ((cs.drop fd.offset).take (P.cellsOf fd.type)) = xs[i]?) →
    (∀ m ∈ DataW.weightsEach P (fs.map (·.type)) (xs.map (·.1)), m ≤ reachBytes) → ∃ a, q a ∧ (f a).length = k ∧ RVs (E0 w) (f a) ((cs.drop o).take k)
theorem OpnL.nil {o : Nat} : OpnL P [] o 0 (fun _ : Unit => True) (fun _ => []) := by
  intro H enc w base held n cs xs _ _ _
  exact ⟨(), trivial, rfl, by rw [List.take_zero]; exact RVs.vals []⟩
theorem OpnL.cons {fd : Field} {fs : List Field} {o k0 k1 : Nat} {α β : Type} {q : α → Prop} {f : α → List AV} {r : β → Prop} {g : β → List AV} (ho : fd.offset = o) (hk : P.cellsOf fd.type = k0) (h0 : Opn P fd.type k0 q f) (h1 : OpnL P fs (o + k0) k1 r g) :
    OpnL P (fd :: fs) o (k0 + k1) (fun p : α × β => q p.1 ∧ r p.2) (fun p => f p.1 ++ g p.2) := by
  intro H enc w base held n cs xs hl h hw
  cases xs with
  | nil => simp at hl
  | cons x xs =>
    have hx := h 0 fd rfl
    simp only [List.getElem?_cons_zero] at hx
    simp only [List.map_cons, DataW.weightsEach, List.mem_append] at hw
    obtain ⟨a, qa, la, ra⟩ := h0 _ enc w base held n _ x hx (fun m hm => hw m (.inl hm))
    obtain ⟨b, qb, lb, rb⟩ := h1 _ enc w base held n cs xs (by simpa using hl) (fun i fd' hi => by simpa using h (i + 1) fd' (by simpa using hi)) (fun m hm => hw m (.inr hm))
    refine ⟨(a, b), ⟨qa, qb⟩, by simp [la, lb], ?_⟩
    rw [ho, hk] at ra
    rw [List.take_add, List.drop_drop]
    exact ra.append rb
theorem Opn.struct {t : TypeId} {fs : Array Field} {k : Nat} {α : Type} {q : α → Prop} {f : α → List AV} (ht : P.underlying t = some (.struct fs)) (hk : P.cellsOf t = k) (h : OpnL P fs.toList 0 k q f) : Opn P t k q f := by
  intro H enc w base held fuel cs x hx hw
  obtain ⟨xs, n, _, rfl, hl, hlen, hf⟩ := DataW.trod_struct ht hx
  simp only [DataW.weights, ht] at hw
  obtain ⟨a, qa, la, ra⟩ := h _ enc w base held n cs xs (by simpa using hlen) (fun i fd hi => hf i fd (by simpa using hi)) hw
  refine ⟨a, qa, la, ?_⟩
  rw [List.drop_zero, List.take_of_length_le (by omega)] at ra
  exact ra
theorem Opn.map {t : TypeId} {k : Nat} {α β : Type} {q : α → Prop} {f : α → List AV} {r : β → Prop} {g : β → List AV} (h : Opn P t k q f) (m : α → β) (hq : ∀ a, q a → r (m a)) (hf : ∀ a, g (m a) = f a) : Opn P t k r g := by
  intro H enc w base held fuel cs x hx hw
  obtain ⟨a, qa, la, ra⟩ := h _ enc w base held fuel cs x hx hw
  exact ⟨m a, hq a qa, by rw [hf]; exact la, by rw [hf]; exact ra⟩
theorem cells_get {w : World} {base : Nat} {a : Addr} {n : Nat} {xs : List Value} (h : w.cells? base a n = some xs) : xs.length = n ∧ ∀ (j : Nat) x, xs[j]? = some x → w.cell? (a.add j) = some x := by
  unfold World.cells? at h
  split at h
  · have hl := mapM_some_length h
    rw [List.length_range] at hl
    refine ⟨hl, fun j x hx => ?_⟩
    have hj : j < n := by
      by_cases hj : j < n
      · exact hj
      · rw [List.getElem?_eq_none (by omega)] at hx; cases hx
    have := mapM_some_get h j j (by simp [hj])
    rw [this, hx]
  · cases h
theorem weights_all {H : Type} {e : TypeId} {ds : List (DataW H)} {d : DataW H} (h : d ∈ ds) {n : Nat} (hn : n ∈ d.weights P e) : n ∈ DataW.weightsAll P e ds := by
  induction ds with
  | nil => cases h
  | cons x xs ih =>
    simp only [DataW.weightsAll, List.mem_append]
    rcases List.mem_cons.1 h with rfl | h
    · exact .inl hn
    · exact .inr (ih h)
theorem rows_of {α : Type} {k : Nat} {q : α → Prop} {f : α → List AV} {w : World} {blk : Nat} (n : Nat) : ∀ (off : Nat), (∀ i, i < n → ∃ a cs, q a ∧ (f a).length = k ∧ RVs (E0 w) (f a) cs ∧ ∀ (j : Nat) x, cs[j]? = some x → w.cell? ⟨blk, off + i * k + j, none⟩ = some x) →
    ∃ (l : List α) (xs : List Value), l.length = n ∧ (∀ a ∈ l, q a) ∧ RVs (E0 w) (l.flatMap f) xs ∧ (∀ (j : Nat) x, xs[j]? = some x → w.cell? ⟨blk, off + j, none⟩ = some x) := by
  induction n with
  | zero => intro off _; exact ⟨[], [], rfl, by simp, RVs.vals [], by simp⟩
  | succ n ih =>
    intro off h
    obtain ⟨a, cs, qa, la, ra, ca⟩ := h 0 (by omega)
    obtain ⟨l, xs, ll, ql, rl, cl⟩ := ih (off + k) (fun i hi => by
      obtain ⟨a, cs, qa, la, ra, ca⟩ := h (i + 1) (by omega)
      refine ⟨a, cs, qa, la, ra, fun j x hx => ?_⟩
      have := ca j x hx
      rw [Nat.add_mul, Nat.one_mul] at this
      rw [← this]
      congr 2
      omega)
    have lcs : cs.length = k := by rw [← la, ra.1]
    refine ⟨a :: l, cs ++ xs, by simp [ll], fun b hb => by rcases List.mem_cons.1 hb with rfl | hb; exact qa; exact ql b hb, by rw [List.flatMap_cons]; exact ra.append rl, fun j x hx => ?_⟩
    by_cases hj : j < k
    · rw [List.getElem?_append_left (by omega)] at hx
      simpa using ca j x hx
    · rw [List.getElem?_append_right (by omega), lcs] at hx
      have := cl _ x hx
      rw [← this]
      congr 2
      omega
theorem Opn.slice {t e : TypeId} {k : Nat} {α : Type} {q : α → Prop} {f : α → List AV} (ht : P.underlying t = some (.slice e)) (hk : P.cellsOf e = k) (h : Opn P e k q f) :
    Opn P t 1 (fun l : List α => l.length * P.bytesOf e ≤ reachBytes ∧ ∀ a ∈ l, q a) (fun l => [.ex l.length false (l.flatMap f)]) := by
  intro H enc w base held fuel cs x hx hw
  rcases DataW.trod_slice ht hx with ⟨rfl, rfl⟩ | ⟨a, len, cap, elems, rest, n, _, rfl, rfl, hb, hlc, hm, hel, hg, hs, _⟩
  · exact ⟨[], ⟨by simp, by simp⟩, rfl, RVs.one (.ex0 _ _ _ _ (Nat.le_refl _) (fun h => by cases h))⟩
  · simp only [DataW.weights, ht, List.mem_cons, List.mem_append] at hw
    have hsz := hw _ (.inl rfl)
    have hlen : (elems.map (·.1)).length * P.bytesOf e ≤ reachBytes := Nat.le_trans (Nat.mul_le_mul_right _ (Nat.le_add_right _ _)) hsz
    obtain ⟨blk, off, spot⟩ := a
    by_cases hc : len = 0 ∨ k = 0
    · have hz : ∃ l : List α, l.length = len ∧ (∀ a ∈ l, q a) ∧ l.flatMap f = [] := by
        rcases hc with rfl | rfl
        · exact ⟨[], rfl, by simp, rfl⟩
        · have : ∀ i, i < len → ∃ a, q a ∧ f a = [] := fun i hi => by
            have h1 := hg i hi
            rw [List.getElem?_eq_getElem (by omega)] at h1
            obtain ⟨ys, _, hy⟩ := Option.bind_eq_some_iff.1 h1
            obtain ⟨a, qa, la, _⟩ := h _ enc w base held n ys _ hy (fun m hm => hw m (.inr (.inl (weights_all (List.mem_map_of_mem (List.getElem_mem (by omega))) hm))))
            exact ⟨a, qa, List.eq_nil_of_length_eq_zero la⟩
          cases len with
          | zero => exact ⟨[], rfl, by simp, rfl⟩
          | succ m =>
            obtain ⟨a, qa, fa⟩ := this 0 (by omega)
            exact ⟨List.replicate (m + 1) a, by simp, fun b hb => by rw [(List.mem_replicate.1 hb).2]; exact qa, by simp [fa]⟩
      obtain ⟨l, ll, ql, fl⟩ := hz
      refine ⟨l, ⟨by rw [ll, ← hel]; simpa using hlen, ql⟩, rfl, RVs.one ?_⟩
      rw [fl, ll]
      exact .ex0 _ _ _ _ hlc (fun h => by cases h)
    · have hrow : ∀ i, i < len → ∃ a ys, q a ∧ (f a).length = k ∧ RVs (E0 w) (f a) ys ∧ ∀ (j : Nat) x, ys[j]? = some x → w.cell? ((⟨blk, off, spot⟩ : Addr).add (i * k) |>.add j) = some x := fun i hi => by
        have h1 := hg i hi
        rw [List.getElem?_eq_getElem (by omega)] at h1
        obtain ⟨ys, hc, hy⟩ := Option.bind_eq_some_iff.1 h1
        obtain ⟨a, qa, la, ra⟩ := h _ enc w base held n ys _ hy (fun m hm => hw m (.inr (.inl (weights_all (List.mem_map_of_mem (List.getElem_mem (by omega))) hm))))
        rw [hk] at hc
        exact ⟨a, ys, qa, la, ra, (cells_get hc).2⟩
      have hspot : spot = none := by
        obtain ⟨a, ys, qa, la, ra, ca⟩ := hrow 0 (by omega)
        have hys : 0 < ys.length := by have := ra.1; omega
        have := World.cell?_spot (ca 0 _ (List.getElem?_eq_getElem hys))
        unfold Addr.add at this
        split at this <;> simp_all
      subst hspot
      have hadd : ∀ i j, ((⟨blk, off, none⟩ : Addr).add i |>.add j) = ⟨blk, off + i + j, none⟩ := fun i j => by
        have : ∀ o m, (⟨blk, o, none⟩ : Addr).add m = ⟨blk, o + m, none⟩ := fun o m => by unfold Addr.add; split <;> simp_all
        rw [this, this]
      obtain ⟨l, xs, ll, ql, rl, cl⟩ := rows_of (w := w) (blk := blk) (k := k) len off (fun i hi => by
        obtain ⟨a, ys, qa, la, ra, ca⟩ := hrow i hi
        exact ⟨a, ys, qa, la, ra, fun j x hx => by rw [← hadd]; exact ca j x hx⟩)
      refine ⟨l, ⟨by rw [ll, ← hel]; simpa using hlen, ql⟩, rfl, RVs.one ?_⟩
      rw [ll]
      by_cases hx0 : xs = []
      · have : l.flatMap f = [] := List.eq_nil_of_length_eq_zero (by have := rl.1; rw [hx0] at this; simpa using this.symm)
        rw [this]
        exact .ex0 _ _ _ _ hlc (fun h => by cases h)
      · refine .ex _ _ _ blk off cap xs hlc (fun h => by cases h) ?_ (fun h => h) rl.1 cl rl.2
        have h0 : 0 < xs.length := List.length_pos_iff.2 hx0
        exact block_lt_of_cell (cl 0 _ (List.getElem?_eq_getElem h0))
theorem flat_cells (l : List UInt64) : l.flatMap (fun a => byA (nameB a)) = byA (flat l) := by
  induction l with
  | nil => rfl
  | cons a l ih => rw [List.flatMap_cons, ih]; simp only [flat, byA, List.flatMap_cons, List.map_append]
theorem opn_names {t e u : TypeId} (ht : P.underlying t = some (.slice e)) (he : P.underlying e = some (.array 8 u)) (hu : P.underlying u = some (.int .u8)) (hcu : P.cellsOf u = 1) (hce : P.cellsOf e = 8) (hb : P.bytesOf e = 8) :
    Opn P t 1 (fun l : List UInt64 => l.length * 8 ≤ 140737488351232) (fun l => [.ex l.length false (byA (flat l))]) :=
  (Opn.slice ht hce (opn_name he hu hcu hce)).map (fun l => l) (fun l h => by have := h.1; rw [hb] at this; exact this) (fun l => by rw [flat_cells])
end
theorem Opn.arg {P : Program} {t : TypeId} {k : Nat} {α : Type} {q : α → Prop} {f : α → List AV} (h : Opn P t k q f) {H : Type} {enc : TypeId × Value → H} {w : World} {base : Nat} {held : Bool} {v : Value} {d : DataW H} {p : List MemPlace}
    (hv : DataW.Trod enc P w base (fun _ => true) held t v d p) (hs : ∀ n ∈ d.weights P t, n ≤ reachBytes) : ∃ a, q a ∧ RVs (E0 w) (f a) v.cells.toList := by
  obtain ⟨fuel, hf⟩ := hv
  obtain ⟨a, qa, _, ra⟩ := h _ enc w base held fuel _ _ hf hs
  exact ⟨a, qa, ra⟩
theorem weights_arg {P : Program} {H : Type} {ts : List TypeId} {ds : List (DataW H)} (h : (DataW.weightsEach P ts ds).all (· ≤ reachBytes) = true) {j : Nat} {t : TypeId} {d : DataW H} (ht : ts[j]? = some t) (hd : ds[j]? = some d) : ∀ n ∈ d.weights P t, n ≤ reachBytes := fun n hn => by
  simpa using List.all_eq_true.1 h _ (DataW.weights_mem_each ht hd n hn)
end Go.Proofs.YtneeclacmhhblaaGreat


/-
  Layer 21: arguments that are cells, entries, locks, states and inclusions, opened. No condition.
-/
namespace Go.Proofs.YtneeclacmhhblaaGreat
open Go.ChangeShapes Go.WideShapes Go.ChangeAt Go.RowKit
theorem rv_struct {P : Program} {w : World} {r : Reach} {b0 : Nat} {t : TypeId} {v : Value} {fs : Array Field} {E : Env} {cs : List AV} (ht : P.underlying t = some (.struct fs)) (hv : Value.okWide P w r b0 t v) (h : RVs E cs v.cells.toList) : RV E (.ag cs) v := by
  simp only [Value.okWide, ht] at hv
  obtain ⟨xs, rfl, _⟩ := hv
  exact .ag _ _ (by simpa [Value.cells] using h.1) (fun j c x hc hx => h.2 j c x hc (by simpa [Value.cells] using hx))
def okC (c : Cl) : Prop := okZ c.k ∧ okZ c.i
def okD (d : Dl) : Prop := okZ d.k ∧ okZ d.i ∧ okZ d.a
def okK (d : Lk) : Prop := okZ d.o ∧ okZ d.t ∧ okZ d.u
theorem opn_cell : Opn Tryz.prog 136 10 okC (fun c => (cellC c.k c.i c.n).toList.map AV.v) := by
  have hI := opn_i64 Tryz.underlying3
  have hN := opn_name Tryz.underlying23 Tryz.underlying5 (by kernel_rfl) (by kernel_rfl)
  have h := Opn.struct (P := Tryz.prog) (t := 136) (k := 10) Tryz.underlying136 (by kernel_rfl)
    (OpnL.cons (k0 := 1) (k1 := 9) rfl (by kernel_rfl) hI (OpnL.cons (k0 := 1) (k1 := 8) rfl (by kernel_rfl) hI (OpnL.cons (k0 := 8) (k1 := 0) rfl (by kernel_rfl) hN OpnL.nil)))
  exact h.map (fun p => ⟨p.1, p.2.1, p.2.2.1⟩) (fun p q => ⟨q.1, q.2.1⟩) (fun p => rfl)
theorem opn_delta : Opn Tryz.prog 138 11 okD dA := by
  have hI := opn_i64 Tryz.underlying3
  have h := Opn.struct (P := Tryz.prog) (t := 138) (k := 11) Tryz.underlying138 (by kernel_rfl)
    (OpnL.cons (k0 := 10) (k1 := 1) rfl (by kernel_rfl) opn_cell (OpnL.cons (k0 := 1) (k1 := 0) rfl (by kernel_rfl) hI OpnL.nil))
  exact h.map (fun p => ⟨p.1.k, p.1.i, p.1.n, p.2.1⟩) (fun p q => ⟨q.1.1, q.1.2, q.2.1⟩) (fun p => rfl)
theorem opn_lock : Opn Tryz.prog 141 19 okK lA := by
  have hI := opn_i64 Tryz.underlying3
  have hN := opn_name Tryz.underlying23 Tryz.underlying5 (by kernel_rfl) (by kernel_rfl)
  have h := Opn.struct (P := Tryz.prog) (t := 141) (k := 19) Tryz.underlying141 (by kernel_rfl)
    (OpnL.cons (k0 := 8) (k1 := 11) rfl (by kernel_rfl) hN (OpnL.cons (k0 := 8) (k1 := 3) rfl (by kernel_rfl) hN (OpnL.cons (k0 := 1) (k1 := 2) rfl (by kernel_rfl) hI (OpnL.cons (k0 := 1) (k1 := 1) rfl (by kernel_rfl) hI (OpnL.cons (k0 := 1) (k1 := 0) rfl (by kernel_rfl) hI OpnL.nil)))))
  exact h.map (fun p => ⟨p.1, p.2.1, p.2.2.1, p.2.2.2.1, p.2.2.2.2.1⟩) (fun p q => ⟨q.2.2.1, q.2.2.2.1, q.2.2.2.2.1⟩) (fun p => rfl)
theorem opn_deltas : Opn Tryz.prog 27 1 (fun l : List Dl => l.length ≤ 140737488351232 ∧ ∀ a ∈ l, okD a) (fun l => [.ex l.length false (dsA l)]) :=
  (Opn.slice Tryz.underlying27 (by kernel_rfl) opn_delta).map (fun l => l) (fun l h => by
    have hb : Tryz.prog.bytesOf 138 = 32 := by kernel_rfl
    have := h.1
    rw [hb] at this
    have hr : reachBytes = 140737488351232 := rfl
    exact ⟨by omega, h.2⟩) (fun l => rfl)
theorem opn_locks : Opn Tryz.prog 29 1 (fun l : List Lk => l.length ≤ 140737488351232 ∧ ∀ a ∈ l, okK a) (fun l => [.ex l.length false (lsA l)]) :=
  (Opn.slice Tryz.underlying29 (by kernel_rfl) opn_lock).map (fun l => l) (fun l h => by
    have hb : Tryz.prog.bytesOf 141 = 40 := by kernel_rfl
    have := h.1
    rw [hb] at this
    have hr : reachBytes = 140737488351232 := rfl
    exact ⟨by omega, h.2⟩) (fun l => rfl)
theorem inA_cells (l : List Int) : l.flatMap (fun a => [AV.v (.int .i64 a)]) = inA l := by
  induction l with
  | nil => rfl
  | cons a l ih => rw [List.flatMap_cons, ih]; rfl
theorem opn_ints : Opn Tryz.prog 28 1 (fun l : List Int => l.length ≤ 140737488351232 ∧ ∀ a ∈ l, okZ a) (fun l => [.ex l.length false (inA l)]) :=
  (Opn.slice Tryz.underlying28 (by kernel_rfl) (opn_i64 Tryz.underlying3)).map (fun l => l) (fun l h => by
    have hb : Tryz.prog.bytesOf 3 = 8 := by kernel_rfl
    have := h.1
    rw [hb] at this
    have hr : reachBytes = 140737488351232 := rfl
    exact ⟨by omega, h.2⟩) (fun l => by rw [inA_cells])
structure OkS (S : Stt) : Prop where
  c : S.cells.length ≤ 140737488351232 ∧ ∀ a ∈ S.cells, okD a
  q : S.seqs.length ≤ 140737488351232 ∧ ∀ a ∈ S.seqs, okZ a
  l : S.locks.length ≤ 140737488351232 ∧ ∀ a ∈ S.locks, okK a
  a : S.applied.length * 8 ≤ 140737488351232
  g : okZ S.guilty
def stQ (s : Stt) : List AV := [.ex s.cells.length false (dsA s.cells), .ex s.seqs.length false (inA s.seqs), .ex s.locks.length false (lsA s.locks), .ex s.applied.length false (byA (flat s.applied)), .v (.int .i64 s.guilty)]
theorem opn_state : Opn Tryz.prog 31 5 OkS stQ := by
  have hM := opn_i64 Tryz.underlying26
  have hN := opn_names Tryz.underlying25 Tryz.underlying23 Tryz.underlying5 (by kernel_rfl) (by kernel_rfl) (by kernel_rfl)
  have h := Opn.struct (P := Tryz.prog) (t := 31) (k := 5) Tryz.underlying31 (by kernel_rfl)
    (OpnL.cons (k0 := 1) (k1 := 4) rfl (by kernel_rfl) opn_deltas (OpnL.cons (k0 := 1) (k1 := 3) rfl (by kernel_rfl) opn_ints (OpnL.cons (k0 := 1) (k1 := 2) rfl (by kernel_rfl) opn_locks (OpnL.cons (k0 := 1) (k1 := 1) rfl (by kernel_rfl) hN (OpnL.cons (k0 := 1) (k1 := 0) rfl (by kernel_rfl) hM OpnL.nil)))))
  exact h.map (fun x => ⟨x.1, x.2.1, x.2.2.1, x.2.2.2.1, x.2.2.2.2.1⟩) (fun x q => ⟨q.1, q.2.1, q.2.2.1, q.2.2.2.1, q.2.2.2.2.1⟩) (fun x => rfl)
structure Inc where
  i : Int
  n : Int
  p : List UInt64
end Go.Proofs.YtneeclacmhhblaaGreat


/-
  An argument that is a vote, opened. No condition.
-/
namespace Go.Proofs.YtneeclacmhhblaaGreat
open Go.ChangeShapes Go.WideShapes Go.ChangeAt Go.RowKit

end Go.Proofs.YtneeclacmhhblaaGreat


/-
  Layers 26 and 27: arguments that are items, lists of items and of votes, opened. No condition.
-/
namespace Go.Proofs.YtneeclacmhhblaaGreat
open Go.ChangeShapes Go.WideShapes Go.ChangeAt Go.RowKit
theorem Opn.slice0 {P : Program} {t e : TypeId} (ht : P.underlying t = some (.slice e)) : Opn P t 1 (fun n : Nat => n * P.bytesOf e ≤ reachBytes) (fun n => [.ex n false []]) := by
  intro H enc w base held fuel cs x hx hw
  rcases DataW.trod_slice ht hx with ⟨rfl, rfl⟩ | ⟨a, len, cap, elems, rest, n, _, rfl, rfl, hb, hlc, hm, hel, hg, hs, _⟩
  · exact ⟨0, by simp, rfl, RVs.one (.ex0 _ _ _ _ (Nat.le_refl _) (fun h => by cases h))⟩
  · simp only [DataW.weights, ht, List.mem_cons, List.mem_append] at hw
    have hsz := hw _ (.inl rfl)
    have hlen : (elems.map (·.1)).length * P.bytesOf e ≤ reachBytes := Nat.le_trans (Nat.mul_le_mul_right _ (Nat.le_add_right _ _)) hsz
    refine ⟨len, ?_, rfl, RVs.one (.ex0 _ _ _ _ hlc (fun h => by cases h))⟩
    rw [List.length_map, hel] at hlen
    exact hlen
theorem reach_val : reachBytes = 140737488351232 := rfl
def okR (r : Rc) : Prop := okZ r.c ∧ r.e ≤ 140737488351232 ∧ okZ r.o ∧ okZ r.g
theorem opn_receipt : Opn Tryz.prog 73 4 okR rcA := by
  have hI := opn_i64 Tryz.underlying3
  have hM := opn_i64 Tryz.underlying26
  have hE := opn_i64 Tryz.underlying71
  have hD := Opn.slice0 Tryz.underlying27
  have hb : Tryz.prog.bytesOf 138 = 32 := by kernel_rfl
  rw [hb, reach_val] at hD
  have h := Opn.struct (P := Tryz.prog) (t := 73) (k := 4) Tryz.underlying73 (by kernel_rfl)
    (OpnL.cons (k0 := 1) (k1 := 3) rfl (by kernel_rfl) hE (OpnL.cons (k0 := 1) (k1 := 2) rfl (by kernel_rfl) hD (OpnL.cons (k0 := 1) (k1 := 1) rfl (by kernel_rfl) hI (OpnL.cons (k0 := 1) (k1 := 0) rfl (by kernel_rfl) hM OpnL.nil))))
  exact h.map (fun p => (⟨p.1, p.2.1, p.2.2.1, p.2.2.2.1⟩ : Rc)) (fun p q => ⟨q.1, by have := q.2.1; show p.2.1 ≤ _; omega, q.2.2.1, q.2.2.2.1⟩) (fun p => rfl)
theorem opn_receipts : Opn Tryz.prog 33 1 (fun l : List Rc => l.length ≤ 140737488351232 ∧ ∀ a ∈ l, okR a) (fun l => [.ex l.length false (rcsA l)]) :=
  (Opn.slice Tryz.underlying33 (by kernel_rfl) opn_receipt).map (fun l => l) (fun l h => by
    have hb : Tryz.prog.bytesOf 73 = 48 := by kernel_rfl
    have := h.1
    rw [hb, reach_val] at this
    exact ⟨by omega, h.2⟩) (fun l => rfl)
structure OkI (x : It) : Prop where
  k : okZ x.k
  h : okZ x.h
  hd : x.hd ≤ 140737488351232
  tp : x.tp ≤ 140737488351232
  cm : okZ x.cm
  st : OkS x.st
  rc : x.rc.length ≤ 140737488351232 ∧ ∀ a ∈ x.rc, okR a
theorem opn_item : Opn Tryz.prog 35 28 OkI itA := by
  have hI := opn_i64 Tryz.underlying3
  have hN := opn_name Tryz.underlying23 Tryz.underlying5 (by kernel_rfl) (by kernel_rfl)
  have hM := opn_i64 Tryz.underlying26
  have hH := Opn.slice0 Tryz.underlying24
  have hT := Opn.slice0 Tryz.underlying25
  have hX := Opn.slice0 Tryz.underlying32
  have hb1 : Tryz.prog.bytesOf 200 = 16 := by kernel_rfl
  have hb2 : Tryz.prog.bytesOf 23 = 8 := by kernel_rfl
  rw [hb1, reach_val] at hH
  rw [hb2, reach_val] at hT
  have h := Opn.struct (P := Tryz.prog) (t := 35) (k := 28) Tryz.underlying35 (by kernel_rfl)
    (OpnL.cons (k0 := 8) (k1 := 20) rfl (by kernel_rfl) hN (OpnL.cons (k0 := 1) (k1 := 19) rfl (by kernel_rfl) hI (OpnL.cons (k0 := 1) (k1 := 18) rfl (by kernel_rfl) hI
    (OpnL.cons (k0 := 8) (k1 := 10) rfl (by kernel_rfl) hN (OpnL.cons (k0 := 1) (k1 := 9) rfl (by kernel_rfl) hH (OpnL.cons (k0 := 1) (k1 := 8) rfl (by kernel_rfl) hT
    (OpnL.cons (k0 := 1) (k1 := 7) rfl (by kernel_rfl) hM (OpnL.cons (k0 := 5) (k1 := 2) rfl (by kernel_rfl) opn_state (OpnL.cons (k0 := 1) (k1 := 1) rfl (by kernel_rfl) hX (OpnL.cons (k0 := 1) (k1 := 0) rfl (by kernel_rfl) opn_receipts OpnL.nil))))))))))
  exact h.map (fun p => (⟨p.1, p.2.1, p.2.2.1, p.2.2.2.1, p.2.2.2.2.1, p.2.2.2.2.2.1, p.2.2.2.2.2.2.1, p.2.2.2.2.2.2.2.1, p.2.2.2.2.2.2.2.2.1, p.2.2.2.2.2.2.2.2.2.1⟩ : It))
    (fun p q => ⟨q.2.1, q.2.2.1, by have := q.2.2.2.2.1; show p.2.2.2.2.1 ≤ _; omega, by have := q.2.2.2.2.2.1; show p.2.2.2.2.2.1 ≤ _; omega, q.2.2.2.2.2.2.1, q.2.2.2.2.2.2.2.1, q.2.2.2.2.2.2.2.2.2.1⟩) (fun p => rfl)
end Go.Proofs.YtneeclacmhhblaaGreat

