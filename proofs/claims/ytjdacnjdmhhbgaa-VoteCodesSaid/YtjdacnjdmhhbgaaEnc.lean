/-
  Votes: Encode, Decode, Name and the reference's. Conditions: none.
-/
import Derived.Test.YtjdacnjdmhhbgaaVote4
import Derived.Test.YtjdacnjdmhhbgaaCod
import Derived.Test.YtjdacnjdmhhbgaaFrz
import Derived.Test.YtjdacnjdmhhbgaaApw
import Derived.Test.YtjdacnjdmhhbgaaHF
set_option linter.unusedSimpArgs false
set_option linter.unusedVariables false
set_option linter.unusedSectionVars false
namespace Go.Proofs.Ytjdacnjdmhhbgaa
open Go.RowKit

def encH (v : Vt) : List UInt8 := [toU8 v.kind, toU8 v.slot, toU8 v.round, toU8 v.choice, toU8 v.signer]
def encV (v : Vt) : List UInt8 := ((encH v ++ beB (toU64 v.support) 2) ++ nameB v.parent) ++ nameB v.value
theorem encV_length (v : Vt) : (encV v).length = 23 := by simp [encV, encH, beB_length, nameB_length]
theorem and_not_small (x : BitVec 64) (h : x &&& ~~~(1023#64) = 0#64) : x.toNat ≤ 1023 := by
  have e : x = x &&& 1023#64 := by
    apply BitVec.eq_of_getElem_eq
    intro i hi
    have := congrArg (fun y => y[i]) h
    simp only [BitVec.getElem_and, BitVec.getElem_not, BitVec.getElem_zero] at this ⊢
    cases hx : x[i]
    · simp
    · rw [hx] at this
      simp at this
      simp [this]
  rw [e, BitVec.toNat_and]
  exact Nat.le_trans Nat.and_le_right (by decide)
theorem support_bd {v : Vt} (hv : validB v = true) (ho : -9223372036854775808 ≤ v.support ∧ v.support ≤ 9223372036854775807) : 0 ≤ v.support ∧ v.support ≤ 1023 := by
  have h := ((valid_iff v).1 hv).2.2.2.1
  unfold andNotI at h
  rw [IntKind.wrap_i64] at h
  have hlt := (BitVec.ofInt 64 v.support &&& ~~~BitVec.ofInt 64 1023).isLt
  have hz : (BitVec.ofInt 64 v.support &&& ~~~BitVec.ofInt 64 1023).toNat = 0 := by omega
  have h2 := and_not_small (BitVec.ofInt 64 v.support) (BitVec.eq_of_toNat_eq (by simpa using hz))
  rw [BitVec.toNat_ofInt] at h2
  omega
theorem enc_cells (v : Vt) : byA (encH v ++ beB (toU64 v.support) 2) ++ List.take 8 (List.drop 6 (cu (.v (.agg (voteC v))))) ++ List.take 8 (List.drop 14 (cu (.v (.agg (voteC v))))) = byA (encV v) := by
  unfold encV
  rw [byA_append (_ ++ nameB v.parent), byA_append _ (nameB v.parent)]
  rfl
theorem be_two (s : Int) (h : 0 ≤ s ∧ s ≤ 1023) : beB (toU64 s) 2 = [toU8 (shrI s 8), toU8 s] := by
  obtain ⟨n, rfl⟩ := Int.eq_ofNat_of_zero_le h.1
  have e0 : (toU64 (n : Int)).toNat = n := by rw [toU64, UInt64.toNat_ofNat']; omega
  have e1 : ((shr6 (toU64 (n : Int)) (8 * 1)).toNat : Int) = shrI (n : Int) 8 := by
    rw [shr6, e0, UInt64.toNat_ofNat', shrI, Int.fdiv_eq_ediv_of_nonneg _ (by decide)]
    simp; omega
  have e2 : ((shr6 (toU64 (n : Int)) (8 * 0)).toNat : Int) = (n : Int) := by
    rw [shr6, e0, UInt64.toNat_ofNat']; simp; omega
  show [byteAt (toU64 (n : Int)) 1, byteAt (toU64 (n : Int)) 0] = _
  unfold byteAt
  rw [e1, e2]
theorem enc_cells2 (v : Vt) (h : 0 ≤ v.support ∧ v.support ≤ 1023) : AV.v (.int .u8 ((toU8 v.kind).toNat : Int)) :: .v (.int .u8 ((toU8 v.slot).toNat : Int)) :: .v (.int .u8 ((toU8 v.round).toNat : Int)) :: .v (.int .u8 ((toU8 v.choice).toNat : Int)) :: .v (.int .u8 ((toU8 v.signer).toNat : Int)) :: .v (.int .u8 ((toU8 (shrI v.support 8)).toNat : Int)) :: .v (.int .u8 ((toU8 v.support).toNat : Int)) :: (List.take 8 (List.drop 6 (cu (.v (.agg (voteC v))))) ++ List.take 8 (List.drop 14 (cu (.v (.agg (voteC v)))))) = byA (encV v) := by
  unfold encV
  rw [be_two v.support h]
  rfl
theorem encode_no (v : Vt) (h : validB v = false) : Fresh Try.prog 19 [.v (.agg (voteC v))] (fun _ => .tp [.v (.slice none 0 0), .v (.bool false)]) [] := by
  have hv := valid_ok v
  rw [h] at hv
  refine Fresh.of (fn := Try.f19) Try.func19 rfl (Nat.le_of_ble_eq_true rfl) fun w => ?_
  ((with_reducible refine Gol.seq ?_); (with_reducible apply Gol.region); apply Trc.step rfl rfl; exact wnt_n rfl; (with_reducible apply s_box); exact rfl
   exact rfl; dsimp only [Nat.reduceAdd, Nat.reduceMul, Nat.reduceSub, List.nil_append, List.cons_append, nbk, List.map_cons, List.map_nil]; apply Trc.step rfl rfl
   exact wnt_n rfl; (with_reducible apply s_assign); exact rfl; dsimp only [Nat.reduceAdd, Nat.reduceMul, Nat.reduceSub, List.nil_append, List.cons_append, nbk, List.map_cons, List.map_nil]
   apply Trc.step rfl rfl; exact wnt_n rfl; (with_reducible apply s_assign); exact rfl; dsimp only [Nat.reduceAdd, Nat.reduceMul, Nat.reduceSub, List.nil_append, List.cons_append, nbk, List.map_cons, List.map_nil]
   exact Trc.done _ _ _; exact rfl; (with_reducible refine thn_n ?_); (with_reducible refine Gol.seq ?_); (with_reducible refine Gol.seq ?_); (with_reducible apply Gol.region)
   apply Trc.step rfl rfl; exact wnt_n rfl; (with_reducible apply s_loadW); exact rfl; exact rfl; exact rfl; exact agu_cuv _; dsimp only [Nat.reduceAdd, Nat.reduceMul, Nat.reduceSub, List.nil_append, List.cons_append, nbk, List.map_cons, List.map_nil]
   apply Trc.step rfl rfl; exact wnt_n rfl; apply s_call (f := 10) rfl; apply evs.cons rfl; exact evs.nil; apply ArgL.cons; exact arg_clo
   exact ArgL.nil; exact hv; exact Nat.le_of_ble_eq_true rfl; dsimp only [Nat.reduceAdd, Nat.reduceMul, Nat.reduceSub, List.nil_append, List.cons_append, nbk, List.map_cons, List.map_nil]
   apply Trc.step rfl rfl; exact wnt_n rfl; (with_reducible apply s_not); exact rfl; dsimp only [Nat.reduceAdd, Nat.reduceMul, Nat.reduceSub, List.nil_append, List.cons_append, nbk, List.map_cons, List.map_nil]
   exact Trc.done _ _ _; exact rfl; (with_reducible refine thn_n ?_))
  refine Gol.cond_t rfl rfl ?_
  ((with_reducible refine Gol.seq ?_); (with_reducible apply Gol.region); apply Trc.step rfl rfl; exact wnt_n rfl; (with_reducible apply s_assign); exact rfl
   dsimp only [Nat.reduceAdd, Nat.reduceMul, Nat.reduceSub, List.nil_append, List.cons_append, nbk, List.map_cons, List.map_nil]; apply Trc.step rfl rfl
   exact wnt_n rfl; (with_reducible apply s_assign); exact rfl; dsimp only [Nat.reduceAdd, Nat.reduceMul, Nat.reduceSub, List.nil_append, List.cons_append, nbk, List.map_cons, List.map_nil]
   exact Trc.done _ _ _; exact rfl; (with_reducible refine thn_n ?_); (with_reducible refine Gol.ret ?_); (with_reducible refine thn_r ?_))
  (apply RetQ.mk (by first | exact .inr rfl | exact .inl rfl); apply res_2 rfl; exact res_tmp rfl; exact res_tmp rfl; exact out_val)
theorem refEncode_no (v : Vt) (h : validB v = false) : Fresh Try.prog 22 [.v (.agg (voteC v))] (fun _ => .tp [.v (.slice none 0 0), .v (.bool false)]) [] := by
  have hv := refValid_ok v
  rw [h] at hv
  refine Fresh.of (fn := Try.f22) Try.func22 rfl (Nat.le_of_ble_eq_true rfl) fun w => ?_
  ((with_reducible refine Gol.seq ?_); (with_reducible apply Gol.region); apply Trc.step rfl rfl; exact wnt_n rfl; (with_reducible apply s_box); exact rfl
   exact rfl; dsimp only [Nat.reduceAdd, Nat.reduceMul, Nat.reduceSub, List.nil_append, List.cons_append, nbk, List.map_cons, List.map_nil]; apply Trc.step rfl rfl
   exact wnt_n rfl; (with_reducible apply s_assign); exact rfl; dsimp only [Nat.reduceAdd, Nat.reduceMul, Nat.reduceSub, List.nil_append, List.cons_append, nbk, List.map_cons, List.map_nil]
   apply Trc.step rfl rfl; exact wnt_n rfl; (with_reducible apply s_assign); exact rfl; dsimp only [Nat.reduceAdd, Nat.reduceMul, Nat.reduceSub, List.nil_append, List.cons_append, nbk, List.map_cons, List.map_nil]
   exact Trc.done _ _ _; exact rfl; (with_reducible refine thn_n ?_); (with_reducible refine Gol.seq ?_); (with_reducible refine Gol.seq ?_); (with_reducible apply Gol.region)
   apply Trc.step rfl rfl; exact wnt_n rfl; (with_reducible apply s_loadW); exact rfl; exact rfl; exact rfl; exact agu_cuv _; dsimp only [Nat.reduceAdd, Nat.reduceMul, Nat.reduceSub, List.nil_append, List.cons_append, nbk, List.map_cons, List.map_nil]
   apply Trc.step rfl rfl; exact wnt_n rfl; apply s_call (f := 11) rfl; apply evs.cons rfl; exact evs.nil; apply ArgL.cons
   exact arg_clo; exact ArgL.nil; exact hv; exact Nat.le_of_ble_eq_true rfl; dsimp only [Nat.reduceAdd, Nat.reduceMul, Nat.reduceSub, List.nil_append, List.cons_append, nbk, List.map_cons, List.map_nil]
   apply Trc.step rfl rfl; exact wnt_n rfl; (with_reducible apply s_not); exact rfl; dsimp only [Nat.reduceAdd, Nat.reduceMul, Nat.reduceSub, List.nil_append, List.cons_append, nbk, List.map_cons, List.map_nil]
   exact Trc.done _ _ _; exact rfl; (with_reducible refine thn_n ?_))
  refine Gol.cond_t rfl rfl ?_
  ((with_reducible refine Gol.seq ?_); (with_reducible apply Gol.region); apply Trc.step rfl rfl; exact wnt_n rfl; (with_reducible apply s_assign); exact rfl
   dsimp only [Nat.reduceAdd, Nat.reduceMul, Nat.reduceSub, List.nil_append, List.cons_append, nbk, List.map_cons, List.map_nil]; apply Trc.step rfl rfl
   exact wnt_n rfl; (with_reducible apply s_assign); exact rfl; dsimp only [Nat.reduceAdd, Nat.reduceMul, Nat.reduceSub, List.nil_append, List.cons_append, nbk, List.map_cons, List.map_nil]
   exact Trc.done _ _ _; exact rfl; (with_reducible refine thn_n ?_); (with_reducible refine Gol.ret ?_); (with_reducible refine thn_r ?_))
  (apply RetQ.mk (by first | exact .inr rfl | exact .inl rfl); apply res_2 rfl; exact res_tmp rfl; exact res_tmp rfl; exact out_val)
theorem encode_yes (v : Vt) (h : validB v = true) : Fresh Try.prog 19 [.v (.agg (voteC v))] (fun k => .tp [.sl k 23, .v (.bool true)]) [⟨byA (encV v), 5, 1⟩] := by
  have hv := valid_ok v
  rw [h] at hv
  have hb := beB_length (toU64 v.support) 2
  refine Fresh.of (fn := Try.f19) Try.func19 rfl (Nat.le_of_ble_eq_true rfl) fun w => ?_
  ((with_reducible refine Gol.seq ?_); (with_reducible apply Gol.region); apply Trc.step rfl rfl; exact wnt_n rfl; (with_reducible apply s_box); exact rfl
   exact rfl; dsimp only [Nat.reduceAdd, Nat.reduceMul, Nat.reduceSub, List.nil_append, List.cons_append, nbk, List.map_cons, List.map_nil]; apply Trc.step rfl rfl
   exact wnt_n rfl; (with_reducible apply s_assign); exact rfl; dsimp only [Nat.reduceAdd, Nat.reduceMul, Nat.reduceSub, List.nil_append, List.cons_append, nbk, List.map_cons, List.map_nil]
   apply Trc.step rfl rfl; exact wnt_n rfl; (with_reducible apply s_assign); exact rfl; dsimp only [Nat.reduceAdd, Nat.reduceMul, Nat.reduceSub, List.nil_append, List.cons_append, nbk, List.map_cons, List.map_nil]
   exact Trc.done _ _ _; exact rfl; (with_reducible refine thn_n ?_); (with_reducible refine Gol.seq ?_); (with_reducible refine Gol.seq ?_); (with_reducible apply Gol.region)
   apply Trc.step rfl rfl; exact wnt_n rfl; (with_reducible apply s_loadW); exact rfl; exact rfl; exact rfl; exact agu_cuv _; dsimp only [Nat.reduceAdd, Nat.reduceMul, Nat.reduceSub, List.nil_append, List.cons_append, nbk, List.map_cons, List.map_nil]
   apply Trc.step rfl rfl; exact wnt_n rfl; apply s_call (f := 10) rfl; apply evs.cons rfl; exact evs.nil; apply ArgL.cons; exact arg_clo
   exact ArgL.nil; exact hv; exact Nat.le_of_ble_eq_true rfl; dsimp only [Nat.reduceAdd, Nat.reduceMul, Nat.reduceSub, List.nil_append, List.cons_append, nbk, List.map_cons, List.map_nil]
   apply Trc.step rfl rfl; exact wnt_n rfl; (with_reducible apply s_not); exact rfl; dsimp only [Nat.reduceAdd, Nat.reduceMul, Nat.reduceSub, List.nil_append, List.cons_append, nbk, List.map_cons, List.map_nil]
   exact Trc.done _ _ _; exact rfl; (with_reducible refine thn_n ?_))
  refine Gol.cond_f rfl rfl ?_
  ((with_reducible refine Gol.skip ?_); (with_reducible refine thn_n ?_); (with_reducible refine Gol.seq ?_); (with_reducible apply Gol.region); apply Trc.step rfl rfl
   exact wnt_n rfl; (with_reducible apply s_make); exact rfl; exact rfl; exact rfl; decide; decide; dsimp only [Nat.reduceAdd, Nat.reduceMul, Nat.reduceSub, List.nil_append, List.cons_append, nbk, List.map_cons, List.map_nil]
   apply Trc.step rfl rfl; exact wnt_n rfl; (with_reducible apply s_assign); exact rfl; dsimp only [Nat.reduceAdd, Nat.reduceMul, Nat.reduceSub, List.nil_append, List.cons_append, nbk, List.map_cons, List.map_nil]
   exact Trc.done _ _ _; exact rfl; (with_reducible refine thn_n ?_); (with_reducible refine Gol.seq ?_); (with_reducible apply Gol.region); apply Trc.step rfl rfl
   exact wnt_n rfl; (with_reducible apply s_move); exact rfl; dsimp only [Nat.reduceAdd, Nat.reduceMul, Nat.reduceSub, List.nil_append, List.cons_append, nbk, List.map_cons, List.map_nil]
   apply Trc.step rfl rfl; exact wnt_n rfl; (with_reducible apply s_fieldAddr); exact rfl; dsimp only [Nat.reduceAdd, Nat.reduceMul, Nat.reduceSub, List.nil_append, List.cons_append, nbk, List.map_cons, List.map_nil]
   apply Trc.step rfl rfl; exact wnt_n rfl; (with_reducible apply s_load); exact rfl; exact rfl; exact rfl; dsimp only [Nat.reduceAdd, Nat.reduceMul, Nat.reduceSub, List.nil_append, List.cons_append, nbk, List.map_cons, List.map_nil]
   apply Trc.step rfl rfl; exact wnt_n rfl; (with_reducible apply s_cu8); exact rfl; dsimp only [Nat.reduceAdd, Nat.reduceMul, Nat.reduceSub, List.nil_append, List.cons_append, nbk, List.map_cons, List.map_nil]
   apply Trc.step rfl rfl; exact wnt_n rfl; (with_reducible apply s_fieldAddr); exact rfl; dsimp only [Nat.reduceAdd, Nat.reduceMul, Nat.reduceSub, List.nil_append, List.cons_append, nbk, List.map_cons, List.map_nil]
   apply Trc.step rfl rfl; exact wnt_n rfl; (with_reducible apply s_load); exact rfl; exact rfl; exact rfl; dsimp only [Nat.reduceAdd, Nat.reduceMul, Nat.reduceSub, List.nil_append, List.cons_append, nbk, List.map_cons, List.map_nil]
   apply Trc.step rfl rfl; exact wnt_n rfl; (with_reducible apply s_cu8); exact rfl; dsimp only [Nat.reduceAdd, Nat.reduceMul, Nat.reduceSub, List.nil_append, List.cons_append, nbk, List.map_cons, List.map_nil]
   apply Trc.step rfl rfl; exact wnt_n rfl; (with_reducible apply s_fieldAddr); exact rfl; dsimp only [Nat.reduceAdd, Nat.reduceMul, Nat.reduceSub, List.nil_append, List.cons_append, nbk, List.map_cons, List.map_nil]
   apply Trc.step rfl rfl; exact wnt_n rfl; (with_reducible apply s_load); exact rfl; exact rfl; exact rfl; dsimp only [Nat.reduceAdd, Nat.reduceMul, Nat.reduceSub, List.nil_append, List.cons_append, nbk, List.map_cons, List.map_nil]
   apply Trc.step rfl rfl; exact wnt_n rfl; (with_reducible apply s_cu8); exact rfl; dsimp only [Nat.reduceAdd, Nat.reduceMul, Nat.reduceSub, List.nil_append, List.cons_append, nbk, List.map_cons, List.map_nil]
   apply Trc.step rfl rfl; exact wnt_n rfl; (with_reducible apply s_fieldAddr); exact rfl; dsimp only [Nat.reduceAdd, Nat.reduceMul, Nat.reduceSub, List.nil_append, List.cons_append, nbk, List.map_cons, List.map_nil]
   apply Trc.step rfl rfl; exact wnt_n rfl; (with_reducible apply s_load); exact rfl; exact rfl; exact rfl; dsimp only [Nat.reduceAdd, Nat.reduceMul, Nat.reduceSub, List.nil_append, List.cons_append, nbk, List.map_cons, List.map_nil]
   apply Trc.step rfl rfl; exact wnt_n rfl; (with_reducible apply s_cu8); exact rfl; dsimp only [Nat.reduceAdd, Nat.reduceMul, Nat.reduceSub, List.nil_append, List.cons_append, nbk, List.map_cons, List.map_nil]
   apply Trc.step rfl rfl; exact wnt_n rfl; (with_reducible apply s_fieldAddr); exact rfl; dsimp only [Nat.reduceAdd, Nat.reduceMul, Nat.reduceSub, List.nil_append, List.cons_append, nbk, List.map_cons, List.map_nil]
   apply Trc.step rfl rfl; exact wnt_n rfl; (with_reducible apply s_load); exact rfl; exact rfl; exact rfl; dsimp only [Nat.reduceAdd, Nat.reduceMul, Nat.reduceSub, List.nil_append, List.cons_append, nbk, List.map_cons, List.map_nil]
   apply Trc.step rfl rfl; exact wnt_n rfl; (with_reducible apply s_cu8); exact rfl; dsimp only [Nat.reduceAdd, Nat.reduceMul, Nat.reduceSub, List.nil_append, List.cons_append, nbk, List.map_cons, List.map_nil]
   apply Trc.step rfl rfl; exact wnt_n rfl; (with_reducible apply s_bytesP); apply PV.cons; exact rfl; exact rfl; exact rfl; apply PV.cons; exact rfl; exact rfl
   exact rfl; apply PV.cons; exact rfl; exact rfl; exact rfl; apply PV.cons; exact rfl; exact rfl; exact rfl; apply PV.cons; exact rfl; exact rfl; exact rfl
   exact PV.nil; exact rfl; omega; dsimp only [Nat.reduceAdd, Nat.reduceMul, Nat.reduceSub, List.nil_append, List.cons_append, nbk, List.map_cons, List.map_nil]
   apply Trc.step rfl rfl; exact wnt_n rfl; (with_reducible apply s_app); exact rfl; exact rfl; exact rfl; apply rd_sl rfl; rfl; rfl; exact rfl; exact rfl
   exact OneL.one; omega; dsimp only [Nat.reduceAdd, Nat.reduceMul, Nat.reduceSub, List.nil_append, List.cons_append, nbk, List.map_cons, List.map_nil]; apply Trc.step rfl rfl
   exact wnt_n rfl; (with_reducible apply s_assign); exact rfl; dsimp only [Nat.reduceAdd, Nat.reduceMul, Nat.reduceSub, List.nil_append, List.cons_append, nbk, List.map_cons, List.map_nil]
   exact Trc.done _ _ _; exact rfl; (with_reducible refine thn_n ?_); (with_reducible refine Gol.seq ?_); (with_reducible apply Gol.region); apply Trc.step rfl rfl
   exact wnt_n rfl; (with_reducible apply s_move); exact rfl; dsimp only [Nat.reduceAdd, Nat.reduceMul, Nat.reduceSub, List.nil_append, List.cons_append, nbk, List.map_cons, List.map_nil]
   apply Trc.step rfl rfl; exact wnt_n rfl; (with_reducible apply s_fieldAddr); exact rfl; dsimp only [Nat.reduceAdd, Nat.reduceMul, Nat.reduceSub, List.nil_append, List.cons_append, nbk, List.map_cons, List.map_nil]
   apply Trc.step rfl rfl; exact wnt_n rfl; (with_reducible apply s_load); exact rfl; exact rfl; exact rfl; dsimp only [Nat.reduceAdd, Nat.reduceMul, Nat.reduceSub, List.nil_append, List.cons_append, nbk, List.map_cons, List.map_nil]
   apply Trc.step rfl rfl; exact wnt_n rfl; (with_reducible apply s_cu64); exact rfl; dsimp only [Nat.reduceAdd, Nat.reduceMul, Nat.reduceSub, List.nil_append, List.cons_append, nbk, List.map_cons, List.map_nil]
   apply Trc.step rfl rfl; exact wnt_n rfl; apply s_call (f := 30) rfl; apply evs.cons rfl; apply evs.cons rfl; apply evs.cons rfl
   exact evs.nil; apply ArgL.cons; exact arg_sl rfl; apply ArgL.cons; exact arg_clo; apply ArgL.cons; exact arg_clo; exact ArgL.nil; exact appUint_n (encH v) (toU64 v.support) 2 5 _ (by decide) rfl (by decide)
   exact Nat.le_of_ble_eq_true rfl; dsimp only [Nat.reduceAdd, Nat.reduceMul, Nat.reduceSub, List.nil_append, List.cons_append, nbk, List.map_cons, List.map_nil]
   apply Trc.step rfl rfl; exact wnt_n rfl; (with_reducible apply s_assign); exact rfl; dsimp only [Nat.reduceAdd, Nat.reduceMul, Nat.reduceSub, List.nil_append, List.cons_append, nbk, List.map_cons, List.map_nil]
   exact Trc.done _ _ _; exact rfl; (with_reducible refine thn_n ?_); (with_reducible refine Gol.seq ?_); (with_reducible apply Gol.region); apply Trc.step rfl rfl
   exact wnt_n rfl; (with_reducible apply s_move); exact rfl; dsimp only [Nat.reduceAdd, Nat.reduceMul, Nat.reduceSub, List.nil_append, List.cons_append, nbk, List.map_cons, List.map_nil]
   apply Trc.step rfl rfl; exact wnt_n rfl; (with_reducible apply s_fieldAddr); exact rfl; dsimp only [Nat.reduceAdd, Nat.reduceMul, Nat.reduceSub, List.nil_append, List.cons_append, nbk, List.map_cons, List.map_nil]
   apply Trc.step rfl rfl; exact wnt_n rfl; (with_reducible apply s_slA); exact rfl; exact rfl; exact rfl; exact rfl; simp; omega; omega; omega; dsimp only [Nat.reduceAdd, Nat.reduceMul, Nat.reduceSub, List.nil_append, List.cons_append, nbk, List.map_cons, List.map_nil]
   apply Trc.step rfl rfl; exact wnt_n rfl; (with_reducible apply s_app); exact rfl; exact rfl; exact rfl; apply rd_sb rfl; exact Nat.le_of_ble_eq_true rfl
   rfl; exact rfl; exact rfl; rfl; omega; dsimp only [Nat.reduceAdd, Nat.reduceMul, Nat.reduceSub, List.nil_append, List.cons_append, nbk, List.map_cons, List.map_nil]
   apply Trc.step rfl rfl; exact wnt_n rfl; (with_reducible apply s_assign); exact rfl; dsimp only [Nat.reduceAdd, Nat.reduceMul, Nat.reduceSub, List.nil_append, List.cons_append, nbk, List.map_cons, List.map_nil]
   exact Trc.done _ _ _; exact rfl; (with_reducible refine thn_n ?_); (with_reducible refine Gol.seq ?_); (with_reducible apply Gol.region); apply Trc.step rfl rfl
   exact wnt_n rfl; (with_reducible apply s_move); exact rfl; dsimp only [Nat.reduceAdd, Nat.reduceMul, Nat.reduceSub, List.nil_append, List.cons_append, nbk, List.map_cons, List.map_nil]
   apply Trc.step rfl rfl; exact wnt_n rfl; (with_reducible apply s_fieldAddr); exact rfl; dsimp only [Nat.reduceAdd, Nat.reduceMul, Nat.reduceSub, List.nil_append, List.cons_append, nbk, List.map_cons, List.map_nil]
   apply Trc.step rfl rfl; exact wnt_n rfl; (with_reducible apply s_slA); exact rfl; exact rfl; exact rfl; exact rfl; simp; omega; omega; omega; dsimp only [Nat.reduceAdd, Nat.reduceMul, Nat.reduceSub, List.nil_append, List.cons_append, nbk, List.map_cons, List.map_nil]
   apply Trc.step rfl rfl; exact wnt_n rfl; (with_reducible apply s_app); exact rfl; exact rfl; exact rfl; apply rd_sb rfl; exact Nat.le_of_ble_eq_true rfl
   rfl; exact rfl; exact rfl; rfl; omega; dsimp only [Nat.reduceAdd, Nat.reduceMul, Nat.reduceSub, List.nil_append, List.cons_append, nbk, List.map_cons, List.map_nil]
   apply Trc.step rfl rfl; exact wnt_n rfl; (with_reducible apply s_assign); exact rfl; dsimp only [Nat.reduceAdd, Nat.reduceMul, Nat.reduceSub, List.nil_append, List.cons_append, nbk, List.map_cons, List.map_nil]
   apply Trc.step rfl rfl; exact wnt_n rfl; (with_reducible apply s_assign); exact rfl; dsimp only [Nat.reduceAdd, Nat.reduceMul, Nat.reduceSub, List.nil_append, List.cons_append, nbk, List.map_cons, List.map_nil]
   exact Trc.done _ _ _; exact rfl; (with_reducible refine thn_n ?_); (with_reducible refine Gol.ret ?_))
  rw [enc_cells v]
  (apply RetQ.mk (by first | exact .inr rfl | exact .inl rfl); apply res_2 rfl; exact res_tmp rfl; exact res_tmp rfl; exact out_tp rfl)
theorem refEncode_yes (v : Vt) (h : validB v = true) (ho : -9223372036854775808 ≤ v.support ∧ v.support ≤ 9223372036854775807) : Fresh Try.prog 22 [.v (.agg (voteC v))] (fun k => .tp [.sl k 23, .v (.bool true)]) [⟨byA (encV v), 5, 1⟩] := by
  have hv := refValid_ok v
  rw [h] at hv
  refine Fresh.of (fn := Try.f22) Try.func22 rfl (Nat.le_of_ble_eq_true rfl) fun w => ?_
  ((with_reducible refine Gol.seq ?_); (with_reducible apply Gol.region); apply Trc.step rfl rfl; exact wnt_n rfl; (with_reducible apply s_box); exact rfl
   exact rfl; dsimp only [Nat.reduceAdd, Nat.reduceMul, Nat.reduceSub, List.nil_append, List.cons_append, nbk, List.map_cons, List.map_nil]; apply Trc.step rfl rfl
   exact wnt_n rfl; (with_reducible apply s_assign); exact rfl; dsimp only [Nat.reduceAdd, Nat.reduceMul, Nat.reduceSub, List.nil_append, List.cons_append, nbk, List.map_cons, List.map_nil]
   apply Trc.step rfl rfl; exact wnt_n rfl; (with_reducible apply s_assign); exact rfl; dsimp only [Nat.reduceAdd, Nat.reduceMul, Nat.reduceSub, List.nil_append, List.cons_append, nbk, List.map_cons, List.map_nil]
   exact Trc.done _ _ _; exact rfl; (with_reducible refine thn_n ?_); (with_reducible refine Gol.seq ?_); (with_reducible refine Gol.seq ?_); (with_reducible apply Gol.region)
   apply Trc.step rfl rfl; exact wnt_n rfl; (with_reducible apply s_loadW); exact rfl; exact rfl; exact rfl; exact agu_cuv _; dsimp only [Nat.reduceAdd, Nat.reduceMul, Nat.reduceSub, List.nil_append, List.cons_append, nbk, List.map_cons, List.map_nil]
   apply Trc.step rfl rfl; exact wnt_n rfl; apply s_call (f := 11) rfl; apply evs.cons rfl; exact evs.nil; apply ArgL.cons
   exact arg_clo; exact ArgL.nil; exact hv; exact Nat.le_of_ble_eq_true rfl; dsimp only [Nat.reduceAdd, Nat.reduceMul, Nat.reduceSub, List.nil_append, List.cons_append, nbk, List.map_cons, List.map_nil]
   apply Trc.step rfl rfl; exact wnt_n rfl; (with_reducible apply s_not); exact rfl; dsimp only [Nat.reduceAdd, Nat.reduceMul, Nat.reduceSub, List.nil_append, List.cons_append, nbk, List.map_cons, List.map_nil]
   exact Trc.done _ _ _; exact rfl; (with_reducible refine thn_n ?_))
  refine Gol.cond_f rfl rfl ?_
  ((with_reducible refine Gol.skip ?_); (with_reducible refine thn_n ?_); (with_reducible refine Gol.seq ?_); (with_reducible apply Gol.region); apply Trc.step rfl rfl
   exact wnt_n rfl; (with_reducible apply s_fieldAddr); exact rfl; dsimp only [Nat.reduceAdd, Nat.reduceMul, Nat.reduceSub, List.nil_append, List.cons_append, nbk, List.map_cons, List.map_nil]
   apply Trc.step rfl rfl; exact wnt_n rfl; (with_reducible apply s_load); exact rfl; exact rfl; exact rfl; dsimp only [Nat.reduceAdd, Nat.reduceMul, Nat.reduceSub, List.nil_append, List.cons_append, nbk, List.map_cons, List.map_nil]
   apply Trc.step rfl rfl; exact wnt_n rfl; (with_reducible apply s_cu8); exact rfl; dsimp only [Nat.reduceAdd, Nat.reduceMul, Nat.reduceSub, List.nil_append, List.cons_append, nbk, List.map_cons, List.map_nil]
   apply Trc.step rfl rfl; exact wnt_n rfl; (with_reducible apply s_fieldAddr); exact rfl; dsimp only [Nat.reduceAdd, Nat.reduceMul, Nat.reduceSub, List.nil_append, List.cons_append, nbk, List.map_cons, List.map_nil]
   apply Trc.step rfl rfl; exact wnt_n rfl; (with_reducible apply s_load); exact rfl; exact rfl; exact rfl; dsimp only [Nat.reduceAdd, Nat.reduceMul, Nat.reduceSub, List.nil_append, List.cons_append, nbk, List.map_cons, List.map_nil]
   apply Trc.step rfl rfl; exact wnt_n rfl; (with_reducible apply s_cu8); exact rfl; dsimp only [Nat.reduceAdd, Nat.reduceMul, Nat.reduceSub, List.nil_append, List.cons_append, nbk, List.map_cons, List.map_nil]
   apply Trc.step rfl rfl; exact wnt_n rfl; (with_reducible apply s_fieldAddr); exact rfl; dsimp only [Nat.reduceAdd, Nat.reduceMul, Nat.reduceSub, List.nil_append, List.cons_append, nbk, List.map_cons, List.map_nil]
   apply Trc.step rfl rfl; exact wnt_n rfl; (with_reducible apply s_load); exact rfl; exact rfl; exact rfl; dsimp only [Nat.reduceAdd, Nat.reduceMul, Nat.reduceSub, List.nil_append, List.cons_append, nbk, List.map_cons, List.map_nil]
   apply Trc.step rfl rfl; exact wnt_n rfl; (with_reducible apply s_cu8); exact rfl; dsimp only [Nat.reduceAdd, Nat.reduceMul, Nat.reduceSub, List.nil_append, List.cons_append, nbk, List.map_cons, List.map_nil]
   apply Trc.step rfl rfl; exact wnt_n rfl; (with_reducible apply s_fieldAddr); exact rfl; dsimp only [Nat.reduceAdd, Nat.reduceMul, Nat.reduceSub, List.nil_append, List.cons_append, nbk, List.map_cons, List.map_nil]
   apply Trc.step rfl rfl; exact wnt_n rfl; (with_reducible apply s_load); exact rfl; exact rfl; exact rfl; dsimp only [Nat.reduceAdd, Nat.reduceMul, Nat.reduceSub, List.nil_append, List.cons_append, nbk, List.map_cons, List.map_nil]
   apply Trc.step rfl rfl; exact wnt_n rfl; (with_reducible apply s_cu8); exact rfl; dsimp only [Nat.reduceAdd, Nat.reduceMul, Nat.reduceSub, List.nil_append, List.cons_append, nbk, List.map_cons, List.map_nil]
   apply Trc.step rfl rfl; exact wnt_n rfl; (with_reducible apply s_fieldAddr); exact rfl; dsimp only [Nat.reduceAdd, Nat.reduceMul, Nat.reduceSub, List.nil_append, List.cons_append, nbk, List.map_cons, List.map_nil]
   apply Trc.step rfl rfl; exact wnt_n rfl; (with_reducible apply s_load); exact rfl; exact rfl; exact rfl; dsimp only [Nat.reduceAdd, Nat.reduceMul, Nat.reduceSub, List.nil_append, List.cons_append, nbk, List.map_cons, List.map_nil]
   apply Trc.step rfl rfl; exact wnt_n rfl; (with_reducible apply s_cu8); exact rfl; dsimp only [Nat.reduceAdd, Nat.reduceMul, Nat.reduceSub, List.nil_append, List.cons_append, nbk, List.map_cons, List.map_nil]
   apply Trc.step rfl rfl; exact wnt_n rfl; (with_reducible apply s_fieldAddr); exact rfl; dsimp only [Nat.reduceAdd, Nat.reduceMul, Nat.reduceSub, List.nil_append, List.cons_append, nbk, List.map_cons, List.map_nil]
   apply Trc.step rfl rfl; exact wnt_n rfl; (with_reducible apply s_load); exact rfl; exact rfl; exact rfl; dsimp only [Nat.reduceAdd, Nat.reduceMul, Nat.reduceSub, List.nil_append, List.cons_append, nbk, List.map_cons, List.map_nil]
   apply Trc.step rfl rfl; exact wnt_n rfl; (with_reducible apply s_shrI); exact rfl; exact rfl; dsimp only [Nat.reduceAdd, Nat.reduceMul, Nat.reduceSub, List.nil_append, List.cons_append, nbk, List.map_cons, List.map_nil]
   apply Trc.step rfl rfl; exact wnt_n rfl; (with_reducible apply s_cu8); exact rfl; dsimp only [Nat.reduceAdd, Nat.reduceMul, Nat.reduceSub, List.nil_append, List.cons_append, nbk, List.map_cons, List.map_nil]
   apply Trc.step rfl rfl; exact wnt_n rfl; (with_reducible apply s_fieldAddr); exact rfl; dsimp only [Nat.reduceAdd, Nat.reduceMul, Nat.reduceSub, List.nil_append, List.cons_append, nbk, List.map_cons, List.map_nil]
   apply Trc.step rfl rfl; exact wnt_n rfl; (with_reducible apply s_load); exact rfl; exact rfl; exact rfl; dsimp only [Nat.reduceAdd, Nat.reduceMul, Nat.reduceSub, List.nil_append, List.cons_append, nbk, List.map_cons, List.map_nil]
   apply Trc.step rfl rfl; exact wnt_n rfl; (with_reducible apply s_cu8); exact rfl; dsimp only [Nat.reduceAdd, Nat.reduceMul, Nat.reduceSub, List.nil_append, List.cons_append, nbk, List.map_cons, List.map_nil]
   apply Trc.step rfl rfl; exact wnt_n rfl; (with_reducible apply s_bytesP); apply PV.cons; exact rfl; exact rfl; exact rfl; apply PV.cons; exact rfl; exact rfl
   exact rfl; apply PV.cons; exact rfl; exact rfl; exact rfl; apply PV.cons; exact rfl; exact rfl; exact rfl; apply PV.cons; exact rfl; exact rfl; exact rfl
   apply PV.cons; exact rfl; exact rfl; exact rfl; apply PV.cons; exact rfl; exact rfl; exact rfl; exact PV.nil; exact rfl; omega; dsimp only [Nat.reduceAdd, Nat.reduceMul, Nat.reduceSub, List.nil_append, List.cons_append, nbk, List.map_cons, List.map_nil]
   apply Trc.step rfl rfl; exact wnt_n rfl; (with_reducible apply s_assign); exact rfl; dsimp only [Nat.reduceAdd, Nat.reduceMul, Nat.reduceSub, List.nil_append, List.cons_append, nbk, List.map_cons, List.map_nil]
   exact Trc.done _ _ _; exact rfl; (with_reducible refine thn_n ?_); (with_reducible refine Gol.seq ?_); (with_reducible apply Gol.any); kernel_rfl; apply Trc.step rfl rfl
   exact wnt_n rfl; (with_reducible apply s_move); exact rfl; dsimp only [Nat.reduceAdd, Nat.reduceMul, Nat.reduceSub, List.nil_append, List.cons_append, nbk, List.map_cons, List.map_nil]
   apply Trc.step rfl rfl; exact wnt_n rfl; (with_reducible apply s_fieldAddr); exact rfl; dsimp only [Nat.reduceAdd, Nat.reduceMul, Nat.reduceSub, List.nil_append, List.cons_append, nbk, List.map_cons, List.map_nil]
   apply Trc.step rfl rfl; exact wnt_n rfl; (with_reducible apply s_slA); exact rfl; exact rfl; exact rfl; exact rfl; simp; omega; omega; omega; dsimp only [Nat.reduceAdd, Nat.reduceMul, Nat.reduceSub, List.nil_append, List.cons_append, nbk, List.map_cons, List.map_nil]
   apply Trc.step rfl rfl; exact wnt_n rfl; (with_reducible apply s_app); exact rfl; exact rfl; exact rfl; apply rd_sb rfl; exact Nat.le_of_ble_eq_true rfl
   rfl; exact rfl; exact rfl; rfl; omega; dsimp only [Nat.reduceAdd, Nat.reduceMul, Nat.reduceSub, List.nil_append, List.cons_append, nbk, List.map_cons, List.map_nil]
   apply Trc.step rfl rfl; exact wnt_n rfl; (with_reducible apply s_fieldAddr); exact rfl; dsimp only [Nat.reduceAdd, Nat.reduceMul, Nat.reduceSub, List.nil_append, List.cons_append, nbk, List.map_cons, List.map_nil]
   apply Trc.step rfl rfl; exact wnt_n rfl; (with_reducible apply s_slA); exact rfl; exact rfl; exact rfl; exact rfl; simp; omega; omega; omega; dsimp only [Nat.reduceAdd, Nat.reduceMul, Nat.reduceSub, List.nil_append, List.cons_append, nbk, List.map_cons, List.map_nil]
   apply Trc.step rfl rfl; exact wnt_n rfl; (with_reducible apply s_app); exact rfl; exact rfl; exact rfl; apply rd_sb rfl; exact Nat.le_of_ble_eq_true rfl
   rfl; exact rfl; exact rfl; rfl; omega; dsimp only [Nat.reduceAdd, Nat.reduceMul, Nat.reduceSub, List.nil_append, List.cons_append, nbk, List.map_cons, List.map_nil]
   apply Trc.step rfl rfl; exact wnt_n rfl; (with_reducible apply s_assign); exact rfl; dsimp only [Nat.reduceAdd, Nat.reduceMul, Nat.reduceSub, List.nil_append, List.cons_append, nbk, List.map_cons, List.map_nil]
   apply Trc.step rfl rfl; exact wnt_n rfl; (with_reducible apply s_assign); exact rfl; dsimp only [Nat.reduceAdd, Nat.reduceMul, Nat.reduceSub, List.nil_append, List.cons_append, nbk, List.map_cons, List.map_nil]
   exact Trc.done _ _ _; kernel_rfl; exact rfl; (with_reducible refine thn_n ?_); (with_reducible refine Gol.ret ?_))
  rw [enc_cells2 v (support_bd h ho)]
  (apply RetQ.mk (by first | exact .inr rfl | exact .inl rfl); apply res_2 rfl; exact res_tmp rfl; exact res_tmp rfl; exact out_tp rfl)
theorem list23 {l : List UInt8} (h : l.length = 23) : ∃ b0 b1 b2 b3 b4 b5 b6 b7 b8 b9 b10 b11 b12 b13 b14 b15 b16 b17 b18 b19 b20 b21 b22, l = [b0, b1, b2, b3, b4, b5, b6, b7, b8, b9, b10, b11, b12, b13, b14, b15, b16, b17, b18, b19, b20, b21, b22] := by
  match l, h with
  | [b0, b1, b2, b3, b4, b5, b6, b7, b8, b9, b10, b11, b12, b13, b14, b15, b16, b17, b18, b19, b20, b21, b22], _ => exact ⟨b0, b1, b2, b3, b4, b5, b6, b7, b8, b9, b10, b11, b12, b13, b14, b15, b16, b17, b18, b19, b20, b21, b22, rfl⟩
/-- what 23 bytes say -/
def decV (bs : List UInt8) : Vt := ⟨((bs.getD 0 0).toNat : Int), ((bs.getD 1 0).toNat : Int), ((bs.getD 2 0).toNat : Int), ((bs.getD 3 0).toNat : Int), ((bs.getD 4 0).toNat : Int), ((rdU ((bs.drop 5).take 2)).toNat : Int), rdU ((bs.drop 7).take 8), rdU ((bs.drop 15).take 8)⟩
def zeroV : Vt := ⟨0, 0, 0, 0, 0, 0, 0, 0⟩
def decE (bs : List UInt8) : Int := if bs.length < 23 then 2 else if 23 < bs.length then 3 else if validB (decV bs) then 0 else 11
def decR (bs : List UInt8) : Vt := if bs.length = 23 ∧ validB (decV bs) = true then decV bs else zeroV
theorem dec_cells (b0 b1 b2 b3 b4 b5 b6 b7 b8 b9 b10 b11 b12 b13 b14 b15 b16 b17 b18 b19 b20 b21 b22 : UInt8) (s : Int) (hs : s = ((rdU [b5, b6]).toNat : Int)) : ([.v (.int .i64 (b0.toNat : Int)), .v (.int .i64 (b1.toNat : Int)), .v (.int .i64 (b2.toNat : Int)), .v (.int .i64 (b3.toNat : Int)), .v (.int .i64 (b4.toNat : Int)), .v (.int .i64 s), .v (.int .u8 (b7.toNat : Int)), .v (.int .u8 (b8.toNat : Int)), .v (.int .u8 (b9.toNat : Int)), .v (.int .u8 (b10.toNat : Int)), .v (.int .u8 (b11.toNat : Int)), .v (.int .u8 (b12.toNat : Int)), .v (.int .u8 (b13.toNat : Int)), .v (.int .u8 (b14.toNat : Int)), .v (.int .u8 (b15.toNat : Int)), .v (.int .u8 (b16.toNat : Int)), .v (.int .u8 (b17.toNat : Int)), .v (.int .u8 (b18.toNat : Int)), .v (.int .u8 (b19.toNat : Int)), .v (.int .u8 (b20.toNat : Int)), .v (.int .u8 (b21.toNat : Int)), .v (.int .u8 (b22.toNat : Int))] : List AV) = cu (.v (.agg (voteC (decV [b0, b1, b2, b3, b4, b5, b6, b7, b8, b9, b10, b11, b12, b13, b14, b15, b16, b17, b18, b19, b20, b21, b22])))) := by
  have h1 := nameB_rd (l := [b7, b8, b9, b10, b11, b12, b13, b14]) rfl
  have h2 := nameB_rd (l := [b15, b16, b17, b18, b19, b20, b21, b22]) rfl
  unfold nameB at h1 h2
  simp only [List.cons.injEq, and_true] at h1 h2
  obtain ⟨p7, p6, p5, p4, p3, p2, p1, p0⟩ := h1
  obtain ⟨q7, q6, q5, q4, q3, q2, q1, q0⟩ := h2
  subst hs
  show _ = List.map AV.v [.int .i64 (b0.toNat : Int), .int .i64 (b1.toNat : Int), .int .i64 (b2.toNat : Int), .int .i64 (b3.toNat : Int), .int .i64 (b4.toNat : Int), .int .i64 ((rdU [b5, b6]).toNat : Int),
    .int .u8 ((nb (rdU [b7, b8, b9, b10, b11, b12, b13, b14]) 7).toNat : Int), .int .u8 ((nb (rdU [b7, b8, b9, b10, b11, b12, b13, b14]) 6).toNat : Int), .int .u8 ((nb (rdU [b7, b8, b9, b10, b11, b12, b13, b14]) 5).toNat : Int), .int .u8 ((nb (rdU [b7, b8, b9, b10, b11, b12, b13, b14]) 4).toNat : Int), .int .u8 ((nb (rdU [b7, b8, b9, b10, b11, b12, b13, b14]) 3).toNat : Int), .int .u8 ((nb (rdU [b7, b8, b9, b10, b11, b12, b13, b14]) 2).toNat : Int), .int .u8 ((nb (rdU [b7, b8, b9, b10, b11, b12, b13, b14]) 1).toNat : Int), .int .u8 ((nb (rdU [b7, b8, b9, b10, b11, b12, b13, b14]) 0).toNat : Int),
    .int .u8 ((nb (rdU [b15, b16, b17, b18, b19, b20, b21, b22]) 7).toNat : Int), .int .u8 ((nb (rdU [b15, b16, b17, b18, b19, b20, b21, b22]) 6).toNat : Int), .int .u8 ((nb (rdU [b15, b16, b17, b18, b19, b20, b21, b22]) 5).toNat : Int), .int .u8 ((nb (rdU [b15, b16, b17, b18, b19, b20, b21, b22]) 4).toNat : Int), .int .u8 ((nb (rdU [b15, b16, b17, b18, b19, b20, b21, b22]) 3).toNat : Int), .int .u8 ((nb (rdU [b15, b16, b17, b18, b19, b20, b21, b22]) 2).toNat : Int), .int .u8 ((nb (rdU [b15, b16, b17, b18, b19, b20, b21, b22]) 1).toNat : Int), .int .u8 ((nb (rdU [b15, b16, b17, b18, b19, b20, b21, b22]) 0).toNat : Int)]
  rw [p7, p6, p5, p4, p3, p2, p1, p0, q7, q6, q5, q4, q3, q2, q1, q0]
  rfl
theorem or_two (a b : UInt8) : orI (shlI (a.toNat : Int) 8) (b.toNat : Int) = ((rdU [a, b]).toNat : Int) := by
  have ha := a.toNat_lt
  have hb := b.toNat_lt
  have e : shlI (a.toNat : Int) 8 = ((a.toNat * 256 : Nat) : Int) := by
    unfold shlI
    rw [show (min 8 64 : Nat) = 8 from rfl, IntKind.wrap_i64]
    have : (a.toNat : Int) * 2 ^ 8 = ((a.toNat * 256 : Nat) : Int) := by simp
    rw [this]
    omega
  have n1 : (BitVec.ofInt 64 ((a.toNat * 256 : Nat) : Int)).toNat = 2 ^ 8 * a.toNat := by rw [BitVec.toNat_ofInt]; omega
  have n2 : (BitVec.ofInt 64 (b.toNat : Int)).toNat = b.toNat := by rw [BitVec.toNat_ofInt]; omega
  rw [rdU_toNat [a, b] (by simp)]
  unfold orI
  rw [e, BitVec.toNat_or, n1, n2, ← Nat.two_pow_add_eq_or_of_lt (by omega), IntKind.wrap_i64]
  simp only [rdN, List.foldl_cons, List.foldl_nil]
  omega
theorem decode_short (bs : List UInt8) (n : Nat) (f : Bool) (hn : bs.length = n) (h : n < 23) : Fresh Try.prog 24 [.ex n f (byA bs)] (fun _ => .tp [.v (.agg (voteC zeroV)), .v (.int .i64 2)]) [] := by
  refine Fresh.of (fn := Try.f24) Try.func24 rfl (Nat.le_of_ble_eq_true rfl) fun w => ?_
  ((with_reducible refine Gol.seq ?_); (with_reducible apply Gol.region); apply Trc.step rfl rfl; exact wnt_n rfl; (with_reducible apply s_alloc); dsimp only [Nat.reduceAdd, Nat.reduceMul, Nat.reduceSub, List.nil_append, List.cons_append, nbk, List.map_cons, List.map_nil]
   apply Trc.step rfl rfl; exact wnt_n rfl; (with_reducible apply s_assign); exact rfl; dsimp only [Nat.reduceAdd, Nat.reduceMul, Nat.reduceSub, List.nil_append, List.cons_append, nbk, List.map_cons, List.map_nil]
   exact Trc.done _ _ _; exact rfl; (with_reducible refine thn_n ?_); (with_reducible refine Gol.seq ?_); (with_reducible refine Gol.block ?_); (with_reducible refine Gol.seq ?_)
   (with_reducible apply Gol.region); apply Trc.step rfl rfl; exact wnt_n rfl; (with_reducible apply s_move); exact rfl; dsimp only [Nat.reduceAdd, Nat.reduceMul, Nat.reduceSub, List.nil_append, List.cons_append, nbk, List.map_cons, List.map_nil]
   apply Trc.step rfl rfl; exact wnt_n rfl; (with_reducible apply s_len); exact rfl; exact ln_ex; dsimp only [Nat.reduceAdd, Nat.reduceMul, Nat.reduceSub, List.nil_append, List.cons_append, nbk, List.map_cons, List.map_nil]
   apply Trc.step rfl rfl; exact wnt_n rfl; (with_reducible apply s_ltn); exact rfl; exact rfl; dsimp only [Nat.reduceAdd, Nat.reduceMul, Nat.reduceSub, List.nil_append, List.cons_append, nbk, List.map_cons, List.map_nil]
   apply Trc.step rfl rfl; exact wnt_n rfl; (with_reducible apply s_assign); exact rfl; dsimp only [Nat.reduceAdd, Nat.reduceMul, Nat.reduceSub, List.nil_append, List.cons_append, nbk, List.map_cons, List.map_nil]
   exact Trc.done _ _ _; exact rfl; (with_reducible refine thn_n ?_))
  refine Gol.cond_t rfl (decide_eq_true h) ?_
  ((with_reducible refine Gol.seq ?_); (with_reducible apply Gol.region); apply Trc.step rfl rfl; exact wnt_n rfl; (with_reducible apply s_zero); dsimp only [Nat.reduceAdd, Nat.reduceMul, Nat.reduceSub, List.nil_append, List.cons_append, nbk, List.map_cons, List.map_nil]
   apply Trc.stepN rfl rfl; exact wnt_n rfl; (with_reducible apply s_storeW); exact rfl; exact rfl; exact rfl; exact rfl; rfl; exact rfl; dsimp only [Nat.reduceAdd, Nat.reduceMul, Nat.reduceSub, List.nil_append, List.cons_append, nbk, List.map_cons, List.map_nil]
   apply Trc.step rfl rfl; exact wnt_n rfl; (with_reducible apply s_assign); exact rfl; dsimp only [Nat.reduceAdd, Nat.reduceMul, Nat.reduceSub, List.nil_append, List.cons_append, nbk, List.map_cons, List.map_nil]
   exact Trc.done _ _ _; exact rfl; (with_reducible refine thn_n ?_); (with_reducible refine Gol.ret ?_); (with_reducible refine inBlk_r ?_); (with_reducible refine thn_r ?_))
  (apply RetQ.mk (by first | exact .inr rfl | exact .inl rfl); apply res_2 rfl; exact res_cell rfl rfl rfl (agu_cuv _); exact res_tmp rfl; exact out_val)
theorem refDecode_short (bs : List UInt8) (n : Nat) (f : Bool) (hn : bs.length = n) (h : n < 23) : Fresh Try.prog 25 [.ex n f (byA bs)] (fun _ => .tp [.v (.agg (voteC zeroV)), .v (.int .i64 2)]) [] := by
  refine Fresh.of (fn := Try.f25) Try.func25 rfl (Nat.le_of_ble_eq_true rfl) fun w => ?_
  ((with_reducible refine Gol.seq ?_); (with_reducible apply Gol.region); apply Trc.step rfl rfl; exact wnt_n rfl; (with_reducible apply s_alloc); dsimp only [Nat.reduceAdd, Nat.reduceMul, Nat.reduceSub, List.nil_append, List.cons_append, nbk, List.map_cons, List.map_nil]
   apply Trc.step rfl rfl; exact wnt_n rfl; (with_reducible apply s_assign); exact rfl; dsimp only [Nat.reduceAdd, Nat.reduceMul, Nat.reduceSub, List.nil_append, List.cons_append, nbk, List.map_cons, List.map_nil]
   exact Trc.done _ _ _; exact rfl; (with_reducible refine thn_n ?_); (with_reducible refine Gol.seq ?_); (with_reducible refine Gol.seq ?_); (with_reducible apply Gol.region)
   apply Trc.step rfl rfl; exact wnt_n rfl; (with_reducible apply s_move); exact rfl; dsimp only [Nat.reduceAdd, Nat.reduceMul, Nat.reduceSub, List.nil_append, List.cons_append, nbk, List.map_cons, List.map_nil]
   apply Trc.step rfl rfl; exact wnt_n rfl; (with_reducible apply s_len); exact rfl; exact ln_ex; dsimp only [Nat.reduceAdd, Nat.reduceMul, Nat.reduceSub, List.nil_append, List.cons_append, nbk, List.map_cons, List.map_nil]
   apply Trc.step rfl rfl; exact wnt_n rfl; (with_reducible apply s_ltn); exact rfl; exact rfl; dsimp only [Nat.reduceAdd, Nat.reduceMul, Nat.reduceSub, List.nil_append, List.cons_append, nbk, List.map_cons, List.map_nil]
   exact Trc.done _ _ _; exact rfl; (with_reducible refine thn_n ?_))
  refine Gol.cond_t rfl (decide_eq_true h) ?_
  ((with_reducible refine Gol.seq ?_); (with_reducible apply Gol.region); apply Trc.step rfl rfl; exact wnt_n rfl; (with_reducible apply s_zero); dsimp only [Nat.reduceAdd, Nat.reduceMul, Nat.reduceSub, List.nil_append, List.cons_append, nbk, List.map_cons, List.map_nil]
   apply Trc.stepN rfl rfl; exact wnt_n rfl; (with_reducible apply s_storeW); exact rfl; exact rfl; exact rfl; exact rfl; rfl; exact rfl; dsimp only [Nat.reduceAdd, Nat.reduceMul, Nat.reduceSub, List.nil_append, List.cons_append, nbk, List.map_cons, List.map_nil]
   apply Trc.step rfl rfl; exact wnt_n rfl; (with_reducible apply s_assign); exact rfl; dsimp only [Nat.reduceAdd, Nat.reduceMul, Nat.reduceSub, List.nil_append, List.cons_append, nbk, List.map_cons, List.map_nil]
   exact Trc.done _ _ _; exact rfl; (with_reducible refine thn_n ?_); (with_reducible refine Gol.ret ?_); (with_reducible refine thn_r ?_))
  (apply RetQ.mk (by first | exact .inr rfl | exact .inl rfl); apply res_2 rfl; exact res_cell rfl rfl rfl (agu_cuv _); exact res_tmp rfl; exact out_val)
theorem decode_long (bs : List UInt8) (n : Nat) (f : Bool) (hn : bs.length = n) (h : 23 < n) : Fresh Try.prog 24 [.ex n f (byA bs)] (fun _ => .tp [.v (.agg (voteC zeroV)), .v (.int .i64 3)]) [] := by
  have h' : ¬ n < 23 := by omega
  refine Fresh.of (fn := Try.f24) Try.func24 rfl (Nat.le_of_ble_eq_true rfl) fun w => ?_
  ((with_reducible refine Gol.seq ?_); (with_reducible apply Gol.region); apply Trc.step rfl rfl; exact wnt_n rfl; (with_reducible apply s_alloc); dsimp only [Nat.reduceAdd, Nat.reduceMul, Nat.reduceSub, List.nil_append, List.cons_append, nbk, List.map_cons, List.map_nil]
   apply Trc.step rfl rfl; exact wnt_n rfl; (with_reducible apply s_assign); exact rfl; dsimp only [Nat.reduceAdd, Nat.reduceMul, Nat.reduceSub, List.nil_append, List.cons_append, nbk, List.map_cons, List.map_nil]
   exact Trc.done _ _ _; exact rfl; (with_reducible refine thn_n ?_); (with_reducible refine Gol.seq ?_); (with_reducible refine Gol.block ?_); (with_reducible refine Gol.seq ?_)
   (with_reducible apply Gol.region); apply Trc.step rfl rfl; exact wnt_n rfl; (with_reducible apply s_move); exact rfl; dsimp only [Nat.reduceAdd, Nat.reduceMul, Nat.reduceSub, List.nil_append, List.cons_append, nbk, List.map_cons, List.map_nil]
   apply Trc.step rfl rfl; exact wnt_n rfl; (with_reducible apply s_len); exact rfl; exact ln_ex; dsimp only [Nat.reduceAdd, Nat.reduceMul, Nat.reduceSub, List.nil_append, List.cons_append, nbk, List.map_cons, List.map_nil]
   apply Trc.step rfl rfl; exact wnt_n rfl; (with_reducible apply s_ltn); exact rfl; exact rfl; dsimp only [Nat.reduceAdd, Nat.reduceMul, Nat.reduceSub, List.nil_append, List.cons_append, nbk, List.map_cons, List.map_nil]
   apply Trc.step rfl rfl; exact wnt_n rfl; (with_reducible apply s_assign); exact rfl; dsimp only [Nat.reduceAdd, Nat.reduceMul, Nat.reduceSub, List.nil_append, List.cons_append, nbk, List.map_cons, List.map_nil]
   exact Trc.done _ _ _; exact rfl; (with_reducible refine thn_n ?_))
  refine Gol.cond_f rfl (decide_eq_false h') ?_
  ((with_reducible refine Gol.seq ?_); (with_reducible apply Gol.region); apply Trc.step rfl rfl; exact wnt_n rfl; (with_reducible apply s_move); exact rfl
   dsimp only [Nat.reduceAdd, Nat.reduceMul, Nat.reduceSub, List.nil_append, List.cons_append, nbk, List.map_cons, List.map_nil]; apply Trc.step rfl rfl
   exact wnt_n rfl; (with_reducible apply s_len); exact rfl; exact ln_ex; dsimp only [Nat.reduceAdd, Nat.reduceMul, Nat.reduceSub, List.nil_append, List.cons_append, nbk, List.map_cons, List.map_nil]
   apply Trc.step rfl rfl; exact wnt_n rfl; (with_reducible apply s_gtn); exact rfl; exact rfl; dsimp only [Nat.reduceAdd, Nat.reduceMul, Nat.reduceSub, List.nil_append, List.cons_append, nbk, List.map_cons, List.map_nil]
   apply Trc.step rfl rfl; exact wnt_n rfl; (with_reducible apply s_assign); exact rfl; dsimp only [Nat.reduceAdd, Nat.reduceMul, Nat.reduceSub, List.nil_append, List.cons_append, nbk, List.map_cons, List.map_nil]
   exact Trc.done _ _ _; exact rfl; (with_reducible refine thn_n ?_))
  refine Gol.cond_t rfl (decide_eq_true h) ?_
  ((with_reducible refine Gol.seq ?_); (with_reducible apply Gol.region); apply Trc.step rfl rfl; exact wnt_n rfl; (with_reducible apply s_zero); dsimp only [Nat.reduceAdd, Nat.reduceMul, Nat.reduceSub, List.nil_append, List.cons_append, nbk, List.map_cons, List.map_nil]
   apply Trc.stepN rfl rfl; exact wnt_n rfl; (with_reducible apply s_storeW); exact rfl; exact rfl; exact rfl; exact rfl; rfl; exact rfl; dsimp only [Nat.reduceAdd, Nat.reduceMul, Nat.reduceSub, List.nil_append, List.cons_append, nbk, List.map_cons, List.map_nil]
   apply Trc.step rfl rfl; exact wnt_n rfl; (with_reducible apply s_assign); exact rfl; dsimp only [Nat.reduceAdd, Nat.reduceMul, Nat.reduceSub, List.nil_append, List.cons_append, nbk, List.map_cons, List.map_nil]
   exact Trc.done _ _ _; exact rfl; (with_reducible refine thn_n ?_); (with_reducible refine Gol.ret ?_); (with_reducible refine inBlk_r ?_); (with_reducible refine thn_r ?_))
  (apply RetQ.mk (by first | exact .inr rfl | exact .inl rfl); apply res_2 rfl; exact res_cell rfl rfl rfl (agu_cuv _); exact res_tmp rfl; exact out_val)
theorem refDecode_long (bs : List UInt8) (n : Nat) (f : Bool) (hn : bs.length = n) (h : 23 < n) : Fresh Try.prog 25 [.ex n f (byA bs)] (fun _ => .tp [.v (.agg (voteC zeroV)), .v (.int .i64 3)]) [] := by
  have h' : ¬ n < 23 := by omega
  refine Fresh.of (fn := Try.f25) Try.func25 rfl (Nat.le_of_ble_eq_true rfl) fun w => ?_
  ((with_reducible refine Gol.seq ?_); (with_reducible apply Gol.region); apply Trc.step rfl rfl; exact wnt_n rfl; (with_reducible apply s_alloc); dsimp only [Nat.reduceAdd, Nat.reduceMul, Nat.reduceSub, List.nil_append, List.cons_append, nbk, List.map_cons, List.map_nil]
   apply Trc.step rfl rfl; exact wnt_n rfl; (with_reducible apply s_assign); exact rfl; dsimp only [Nat.reduceAdd, Nat.reduceMul, Nat.reduceSub, List.nil_append, List.cons_append, nbk, List.map_cons, List.map_nil]
   exact Trc.done _ _ _; exact rfl; (with_reducible refine thn_n ?_); (with_reducible refine Gol.seq ?_); (with_reducible refine Gol.seq ?_); (with_reducible apply Gol.region)
   apply Trc.step rfl rfl; exact wnt_n rfl; (with_reducible apply s_move); exact rfl; dsimp only [Nat.reduceAdd, Nat.reduceMul, Nat.reduceSub, List.nil_append, List.cons_append, nbk, List.map_cons, List.map_nil]
   apply Trc.step rfl rfl; exact wnt_n rfl; (with_reducible apply s_len); exact rfl; exact ln_ex; dsimp only [Nat.reduceAdd, Nat.reduceMul, Nat.reduceSub, List.nil_append, List.cons_append, nbk, List.map_cons, List.map_nil]
   apply Trc.step rfl rfl; exact wnt_n rfl; (with_reducible apply s_ltn); exact rfl; exact rfl; dsimp only [Nat.reduceAdd, Nat.reduceMul, Nat.reduceSub, List.nil_append, List.cons_append, nbk, List.map_cons, List.map_nil]
   exact Trc.done _ _ _; exact rfl; (with_reducible refine thn_n ?_))
  refine Gol.cond_f rfl (decide_eq_false h') ?_
  ((with_reducible refine Gol.skip ?_); (with_reducible refine thn_n ?_); (with_reducible refine Gol.seq ?_); (with_reducible refine Gol.seq ?_); (with_reducible apply Gol.region)
   apply Trc.step rfl rfl; exact wnt_n rfl; (with_reducible apply s_move); exact rfl; dsimp only [Nat.reduceAdd, Nat.reduceMul, Nat.reduceSub, List.nil_append, List.cons_append, nbk, List.map_cons, List.map_nil]
   apply Trc.step rfl rfl; exact wnt_n rfl; (with_reducible apply s_len); exact rfl; exact ln_ex; dsimp only [Nat.reduceAdd, Nat.reduceMul, Nat.reduceSub, List.nil_append, List.cons_append, nbk, List.map_cons, List.map_nil]
   apply Trc.step rfl rfl; exact wnt_n rfl; (with_reducible apply s_gtn); exact rfl; exact rfl; dsimp only [Nat.reduceAdd, Nat.reduceMul, Nat.reduceSub, List.nil_append, List.cons_append, nbk, List.map_cons, List.map_nil]
   exact Trc.done _ _ _; exact rfl; (with_reducible refine thn_n ?_))
  refine Gol.cond_t rfl (decide_eq_true h) ?_
  ((with_reducible refine Gol.seq ?_); (with_reducible apply Gol.region); apply Trc.step rfl rfl; exact wnt_n rfl; (with_reducible apply s_zero); dsimp only [Nat.reduceAdd, Nat.reduceMul, Nat.reduceSub, List.nil_append, List.cons_append, nbk, List.map_cons, List.map_nil]
   apply Trc.stepN rfl rfl; exact wnt_n rfl; (with_reducible apply s_storeW); exact rfl; exact rfl; exact rfl; exact rfl; rfl; exact rfl; dsimp only [Nat.reduceAdd, Nat.reduceMul, Nat.reduceSub, List.nil_append, List.cons_append, nbk, List.map_cons, List.map_nil]
   apply Trc.step rfl rfl; exact wnt_n rfl; (with_reducible apply s_assign); exact rfl; dsimp only [Nat.reduceAdd, Nat.reduceMul, Nat.reduceSub, List.nil_append, List.cons_append, nbk, List.map_cons, List.map_nil]
   exact Trc.done _ _ _; exact rfl; (with_reducible refine thn_n ?_); (with_reducible refine Gol.ret ?_); (with_reducible refine thn_r ?_))
  (apply RetQ.mk (by first | exact .inr rfl | exact .inl rfl); apply res_2 rfl; exact res_cell rfl rfl rfl (agu_cuv _); exact res_tmp rfl; exact out_val)
theorem decode_mid (bs : List UInt8) (f : Bool) (hn : bs.length = 23) : Fresh Try.prog 24 [.ex 23 f (byA bs)] (fun _ => .tp [.v (.agg (voteC (decR bs))), .v (.int .i64 (decE bs))]) [] := by
  obtain ⟨b0, b1, b2, b3, b4, b5, b6, b7, b8, b9, b10, b11, b12, b13, b14, b15, b16, b17, b18, b19, b20, b21, b22, rfl⟩ := list23 hn
  have hv := rdU2_lt [b0, b1, b2, b3, b4, b5, b6, b7, b8, b9, b10, b11, b12, b13, b14, b15, b16, b17, b18, b19, b20, b21, b22] 5
  refine Fresh.of (fn := Try.f24) Try.func24 rfl (Nat.le_of_ble_eq_true rfl) fun w => ?_
  ((with_reducible refine Gol.seq ?_); (with_reducible apply Gol.region); apply Trc.step rfl rfl; exact wnt_n rfl; (with_reducible apply s_alloc); dsimp only [Nat.reduceAdd, Nat.reduceMul, Nat.reduceSub, List.nil_append, List.cons_append, nbk, List.map_cons, List.map_nil]
   apply Trc.step rfl rfl; exact wnt_n rfl; (with_reducible apply s_assign); exact rfl; dsimp only [Nat.reduceAdd, Nat.reduceMul, Nat.reduceSub, List.nil_append, List.cons_append, nbk, List.map_cons, List.map_nil]
   exact Trc.done _ _ _; exact rfl; (with_reducible refine thn_n ?_); (with_reducible refine Gol.seq ?_); (with_reducible refine Gol.block ?_); (with_reducible refine Gol.seq ?_)
   (with_reducible apply Gol.region); apply Trc.step rfl rfl; exact wnt_n rfl; (with_reducible apply s_move); exact rfl; dsimp only [Nat.reduceAdd, Nat.reduceMul, Nat.reduceSub, List.nil_append, List.cons_append, nbk, List.map_cons, List.map_nil]
   apply Trc.step rfl rfl; exact wnt_n rfl; (with_reducible apply s_len); exact rfl; exact ln_ex; dsimp only [Nat.reduceAdd, Nat.reduceMul, Nat.reduceSub, List.nil_append, List.cons_append, nbk, List.map_cons, List.map_nil]
   apply Trc.step rfl rfl; exact wnt_n rfl; (with_reducible apply s_ltn); exact rfl; exact rfl; dsimp only [Nat.reduceAdd, Nat.reduceMul, Nat.reduceSub, List.nil_append, List.cons_append, nbk, List.map_cons, List.map_nil]
   apply Trc.step rfl rfl; exact wnt_n rfl; (with_reducible apply s_assign); exact rfl; dsimp only [Nat.reduceAdd, Nat.reduceMul, Nat.reduceSub, List.nil_append, List.cons_append, nbk, List.map_cons, List.map_nil]
   exact Trc.done _ _ _; exact rfl; (with_reducible refine thn_n ?_))
  refine Gol.cond_f rfl (by decide) ?_
  ((with_reducible refine Gol.seq ?_); (with_reducible apply Gol.region); apply Trc.step rfl rfl; exact wnt_n rfl; (with_reducible apply s_move); exact rfl
   dsimp only [Nat.reduceAdd, Nat.reduceMul, Nat.reduceSub, List.nil_append, List.cons_append, nbk, List.map_cons, List.map_nil]; apply Trc.step rfl rfl
   exact wnt_n rfl; (with_reducible apply s_len); exact rfl; exact ln_ex; dsimp only [Nat.reduceAdd, Nat.reduceMul, Nat.reduceSub, List.nil_append, List.cons_append, nbk, List.map_cons, List.map_nil]
   apply Trc.step rfl rfl; exact wnt_n rfl; (with_reducible apply s_gtn); exact rfl; exact rfl; dsimp only [Nat.reduceAdd, Nat.reduceMul, Nat.reduceSub, List.nil_append, List.cons_append, nbk, List.map_cons, List.map_nil]
   apply Trc.step rfl rfl; exact wnt_n rfl; (with_reducible apply s_assign); exact rfl; dsimp only [Nat.reduceAdd, Nat.reduceMul, Nat.reduceSub, List.nil_append, List.cons_append, nbk, List.map_cons, List.map_nil]
   exact Trc.done _ _ _; exact rfl; (with_reducible refine thn_n ?_))
  refine Gol.cond_f rfl (by decide) ?_
  ((with_reducible refine Gol.skip ?_); (with_reducible refine inBlk_n ?_); (with_reducible refine thn_n ?_); (with_reducible refine Gol.seq ?_); (with_reducible apply Gol.region)
   apply Trc.step rfl rfl; exact wnt_n rfl; (with_reducible apply s_move); exact rfl; dsimp only [Nat.reduceAdd, Nat.reduceMul, Nat.reduceSub, List.nil_append, List.cons_append, nbk, List.map_cons, List.map_nil]
   apply Trc.step rfl rfl; exact wnt_n rfl; apply s_call (f := 33) rfl; apply evs.cons rfl; apply evs.cons rfl; apply evs.cons rfl
   exact evs.nil; apply ArgL.cons; exact arg_clo; apply ArgL.cons; exact arg_clo; apply ArgL.cons; exact arg_clo; exact ArgL.nil; exact uint_yes [b0, b1, b2, b3, b4, b5, b6, b7, b8, b9, b10, b11, b12, b13, b14, b15, b16, b17, b18, b19, b20, b21, b22] 23 _ 5 2 hn (by decide) (by decide) (by decide) (by decide)
   exact Nat.le_of_ble_eq_true rfl; dsimp only [Nat.reduceAdd, Nat.reduceMul, Nat.reduceSub, List.nil_append, List.cons_append, nbk, List.map_cons, List.map_nil]
   apply Trc.step rfl rfl; exact wnt_n rfl; (with_reducible apply s_move); exact rfl; dsimp only [Nat.reduceAdd, Nat.reduceMul, Nat.reduceSub, List.nil_append, List.cons_append, nbk, List.map_cons, List.map_nil]
   apply Trc.step rfl rfl; exact wnt_n rfl; (with_reducible apply s_extract); exact rfl; exact rfl; dsimp only [Nat.reduceAdd, Nat.reduceMul, Nat.reduceSub, List.nil_append, List.cons_append, nbk, List.map_cons, List.map_nil]
   apply Trc.step rfl rfl; exact wnt_n rfl; (with_reducible apply s_extract); exact rfl; exact rfl; dsimp only [Nat.reduceAdd, Nat.reduceMul, Nat.reduceSub, List.nil_append, List.cons_append, nbk, List.map_cons, List.map_nil]
   apply Trc.step rfl rfl; exact wnt_n rfl; (with_reducible apply s_assign); exact rfl; dsimp only [Nat.reduceAdd, Nat.reduceMul, Nat.reduceSub, List.nil_append, List.cons_append, nbk, List.map_cons, List.map_nil]
   apply Trc.step rfl rfl; exact wnt_n rfl; (with_reducible apply s_assign); exact rfl; dsimp only [Nat.reduceAdd, Nat.reduceMul, Nat.reduceSub, List.nil_append, List.cons_append, nbk, List.map_cons, List.map_nil]
   exact Trc.done _ _ _; exact rfl; (with_reducible refine thn_n ?_); (with_reducible refine Gol.seq ?_); (with_reducible apply Gol.any); kernel_rfl; apply Trc.step rfl rfl
   exact wnt_n rfl; (with_reducible apply s_move); exact rfl; dsimp only [Nat.reduceAdd, Nat.reduceMul, Nat.reduceSub, List.nil_append, List.cons_append, nbk, List.map_cons, List.map_nil]
   apply Trc.step rfl rfl; exact wnt_n rfl; (with_reducible apply s_ixe); exact rfl; exact rfl; decide; exact byA_ne (by omega); dsimp only [Nat.reduceAdd, Nat.reduceMul, Nat.reduceSub, List.nil_append, List.cons_append, nbk, List.map_cons, List.map_nil]
   apply Trc.step rfl rfl; exact wnt_n rfl; (with_reducible apply s_loadE); exact rfl; exact rfl; dsimp only [Nat.reduceAdd, Nat.reduceMul, Nat.reduceSub, List.nil_append, List.cons_append, nbk, List.map_cons, List.map_nil]
   apply Trc.step rfl rfl; exact wnt_n rfl; (with_reducible apply s_ci64b); exact rfl; dsimp only [Nat.reduceAdd, Nat.reduceMul, Nat.reduceSub, List.nil_append, List.cons_append, nbk, List.map_cons, List.map_nil]
   apply Trc.step rfl rfl; exact wnt_n rfl; (with_reducible apply s_move); exact rfl; dsimp only [Nat.reduceAdd, Nat.reduceMul, Nat.reduceSub, List.nil_append, List.cons_append, nbk, List.map_cons, List.map_nil]
   apply Trc.step rfl rfl; exact wnt_n rfl; (with_reducible apply s_ixe); exact rfl; exact rfl; decide; exact byA_ne (by omega); dsimp only [Nat.reduceAdd, Nat.reduceMul, Nat.reduceSub, List.nil_append, List.cons_append, nbk, List.map_cons, List.map_nil]
   apply Trc.step rfl rfl; exact wnt_n rfl; (with_reducible apply s_loadE); exact rfl; exact rfl; dsimp only [Nat.reduceAdd, Nat.reduceMul, Nat.reduceSub, List.nil_append, List.cons_append, nbk, List.map_cons, List.map_nil]
   apply Trc.step rfl rfl; exact wnt_n rfl; (with_reducible apply s_ci64b); exact rfl; dsimp only [Nat.reduceAdd, Nat.reduceMul, Nat.reduceSub, List.nil_append, List.cons_append, nbk, List.map_cons, List.map_nil]
   apply Trc.step rfl rfl; exact wnt_n rfl; (with_reducible apply s_move); exact rfl; dsimp only [Nat.reduceAdd, Nat.reduceMul, Nat.reduceSub, List.nil_append, List.cons_append, nbk, List.map_cons, List.map_nil]
   apply Trc.step rfl rfl; exact wnt_n rfl; (with_reducible apply s_ixe); exact rfl; exact rfl; decide; exact byA_ne (by omega); dsimp only [Nat.reduceAdd, Nat.reduceMul, Nat.reduceSub, List.nil_append, List.cons_append, nbk, List.map_cons, List.map_nil]
   apply Trc.step rfl rfl; exact wnt_n rfl; (with_reducible apply s_loadE); exact rfl; exact rfl; dsimp only [Nat.reduceAdd, Nat.reduceMul, Nat.reduceSub, List.nil_append, List.cons_append, nbk, List.map_cons, List.map_nil]
   apply Trc.step rfl rfl; exact wnt_n rfl; (with_reducible apply s_ci64b); exact rfl; dsimp only [Nat.reduceAdd, Nat.reduceMul, Nat.reduceSub, List.nil_append, List.cons_append, nbk, List.map_cons, List.map_nil]
   apply Trc.step rfl rfl; exact wnt_n rfl; (with_reducible apply s_move); exact rfl; dsimp only [Nat.reduceAdd, Nat.reduceMul, Nat.reduceSub, List.nil_append, List.cons_append, nbk, List.map_cons, List.map_nil]
   apply Trc.step rfl rfl; exact wnt_n rfl; (with_reducible apply s_ixe); exact rfl; exact rfl; decide; exact byA_ne (by omega); dsimp only [Nat.reduceAdd, Nat.reduceMul, Nat.reduceSub, List.nil_append, List.cons_append, nbk, List.map_cons, List.map_nil]
   apply Trc.step rfl rfl; exact wnt_n rfl; (with_reducible apply s_loadE); exact rfl; exact rfl; dsimp only [Nat.reduceAdd, Nat.reduceMul, Nat.reduceSub, List.nil_append, List.cons_append, nbk, List.map_cons, List.map_nil]
   apply Trc.step rfl rfl; exact wnt_n rfl; (with_reducible apply s_ci64b); exact rfl; dsimp only [Nat.reduceAdd, Nat.reduceMul, Nat.reduceSub, List.nil_append, List.cons_append, nbk, List.map_cons, List.map_nil]
   apply Trc.step rfl rfl; exact wnt_n rfl; (with_reducible apply s_move); exact rfl; dsimp only [Nat.reduceAdd, Nat.reduceMul, Nat.reduceSub, List.nil_append, List.cons_append, nbk, List.map_cons, List.map_nil]
   apply Trc.step rfl rfl; exact wnt_n rfl; (with_reducible apply s_ixe); exact rfl; exact rfl; decide; exact byA_ne (by omega); dsimp only [Nat.reduceAdd, Nat.reduceMul, Nat.reduceSub, List.nil_append, List.cons_append, nbk, List.map_cons, List.map_nil]
   apply Trc.step rfl rfl; exact wnt_n rfl; (with_reducible apply s_loadE); exact rfl; exact rfl; dsimp only [Nat.reduceAdd, Nat.reduceMul, Nat.reduceSub, List.nil_append, List.cons_append, nbk, List.map_cons, List.map_nil]
   apply Trc.step rfl rfl; exact wnt_n rfl; (with_reducible apply s_ci64b); exact rfl; dsimp only [Nat.reduceAdd, Nat.reduceMul, Nat.reduceSub, List.nil_append, List.cons_append, nbk, List.map_cons, List.map_nil]
   apply Trc.step rfl rfl; exact wnt_n rfl; (with_reducible apply s_move); exact rfl; dsimp only [Nat.reduceAdd, Nat.reduceMul, Nat.reduceSub, List.nil_append, List.cons_append, nbk, List.map_cons, List.map_nil]
   apply Trc.step rfl rfl; exact wnt_n rfl; (with_reducible apply s_ci64); exact rfl; omega; dsimp only [Nat.reduceAdd, Nat.reduceMul, Nat.reduceSub, List.nil_append, List.cons_append, nbk, List.map_cons, List.map_nil]
   apply Trc.step rfl rfl; exact wnt_n rfl; (with_reducible apply s_bld); exact rfl; (focus (dsimp only [splB, cuB, spl, cu, Value.cells, nameC, List.map, List.take, List.drop, List.append, List.length, List.cons_append, List.nil_append, Nat.reduceAdd, List.take_succ_cons, List.take_zero, List.drop_succ_cons, List.drop_zero, List.take_nil, List.drop_nil, List.append_nil, List.length_cons, List.length_nil]; done))
   dsimp only [Nat.reduceAdd, Nat.reduceMul, Nat.reduceSub, List.nil_append, List.cons_append, nbk, List.map_cons, List.map_nil]; apply Trc.step rfl rfl
   exact wnt_n rfl; (with_reducible apply s_alloc); dsimp only [Nat.reduceAdd, Nat.reduceMul, Nat.reduceSub, List.nil_append, List.cons_append, nbk, List.map_cons, List.map_nil]
   apply Trc.stepN rfl rfl; exact wnt_n rfl; (with_reducible apply s_storeW); exact rfl; exact rfl; exact rfl; exact rfl; rfl; exact rfl; dsimp only [Nat.reduceAdd, Nat.reduceMul, Nat.reduceSub, List.nil_append, List.cons_append, nbk, List.map_cons, List.map_nil]
   exact Trc.done _ _ _; kernel_rfl; exact rfl; (with_reducible refine thn_n ?_); (with_reducible refine Gol.seq ?_); (with_reducible apply Gol.any); kernel_rfl
   apply Trc.step rfl rfl; exact wnt_n rfl; (with_reducible apply s_fieldAddr); exact rfl; dsimp only [Nat.reduceAdd, Nat.reduceMul, Nat.reduceSub, List.nil_append, List.cons_append, nbk, List.map_cons, List.map_nil]
   apply Trc.step rfl rfl; exact wnt_n rfl; (with_reducible apply s_slA); exact rfl; exact rfl; exact rfl; exact rfl; simp; omega; omega; omega; dsimp only [Nat.reduceAdd, Nat.reduceMul, Nat.reduceSub, List.nil_append, List.cons_append, nbk, List.map_cons, List.map_nil]
   apply Trc.step rfl rfl; exact wnt_n rfl; (with_reducible apply s_move); exact rfl; dsimp only [Nat.reduceAdd, Nat.reduceMul, Nat.reduceSub, List.nil_append, List.cons_append, nbk, List.map_cons, List.map_nil]
   apply Trc.step rfl rfl; exact wnt_n rfl; (with_reducible apply s_slE); exact rfl; exact ⟨_, rfl⟩; exact rfl; decide; omega; rfl; dsimp only [Nat.reduceAdd, Nat.reduceMul, Nat.reduceSub, List.nil_append, List.cons_append, nbk, List.map_cons, List.map_nil]
   apply Trc.step rfl rfl; exact wnt_n rfl; (with_reducible apply s_copy); exact rfl; exact rfl; exact rfl; apply rd_ex; rfl; omega; exact Nat.le_of_ble_eq_true rfl
   exact OneL.one; dsimp only [Nat.reduceAdd, Nat.reduceMul, Nat.reduceSub, List.nil_append, List.cons_append, nbk, List.map_cons, List.map_nil]; exact Trc.done _ _ _
   kernel_rfl; exact rfl; (with_reducible refine thn_n ?_); (with_reducible refine Gol.seq ?_); (with_reducible apply Gol.any); kernel_rfl; apply Trc.step rfl rfl
   exact wnt_n rfl; (with_reducible apply s_fieldAddr); exact rfl; dsimp only [Nat.reduceAdd, Nat.reduceMul, Nat.reduceSub, List.nil_append, List.cons_append, nbk, List.map_cons, List.map_nil]
   apply Trc.step rfl rfl; exact wnt_n rfl; (with_reducible apply s_slA); exact rfl; exact rfl; exact rfl; exact rfl; simp; omega; omega; omega; dsimp only [Nat.reduceAdd, Nat.reduceMul, Nat.reduceSub, List.nil_append, List.cons_append, nbk, List.map_cons, List.map_nil]
   apply Trc.step rfl rfl; exact wnt_n rfl; (with_reducible apply s_move); exact rfl; dsimp only [Nat.reduceAdd, Nat.reduceMul, Nat.reduceSub, List.nil_append, List.cons_append, nbk, List.map_cons, List.map_nil]
   apply Trc.step rfl rfl; exact wnt_n rfl; (with_reducible apply s_slE); exact rfl; exact ⟨_, rfl⟩; exact rfl; decide; omega; rfl; dsimp only [Nat.reduceAdd, Nat.reduceMul, Nat.reduceSub, List.nil_append, List.cons_append, nbk, List.map_cons, List.map_nil]
   apply Trc.step rfl rfl; exact wnt_n rfl; (with_reducible apply s_copy); exact rfl; exact rfl; exact rfl; apply rd_ex; rfl; omega; exact Nat.le_of_ble_eq_true rfl
   exact OneL.one; dsimp only [Nat.reduceAdd, Nat.reduceMul, Nat.reduceSub, List.nil_append, List.cons_append, nbk, List.map_cons, List.map_nil]; exact Trc.done _ _ _
   kernel_rfl; exact rfl; (with_reducible refine thn_n ?_); (with_reducible refine Gol.seq ?_); (with_reducible refine Gol.seq ?_))
  refine Gol.le (k' := 416) (H' := [(320, some ⟨cu (.v (.agg (voteC (decV [b0, b1, b2, b3, b4, b5, b6, b7, b8, b9, b10, b11, b12, b13, b14, b15, b16, b17, b18, b19, b20, b21, b22])))), 26, 22⟩), (0, some ⟨cu (.v (.agg (voteC zeroV))), 26, 22⟩)]) (T' := [(6, .pt 320 0), (2, .pt 0 0)]) ?_ ?_
  · (apply Le.mk' []; apply RnT.c; exact rfl; exact Rn.pt rfl rfl; apply RnT.c; exact rfl; exact Rn.pt rfl rfl; exact RnT.n; apply RnH.c; exact rfl; exact rfl
     exact dec_cells b0 b1 b2 b3 b4 b5 b6 b7 b8 b9 b10 b11 b12 b13 b14 b15 b16 b17 b18 b19 b20 b21 b22 _ (rfl); exact rfl; exact rfl; apply RnH.c; exact rfl
     exact rfl; rfl; exact rfl; exact rfl; exact RnH.n; exact rfl)
  cases hd : validB (decV [b0, b1, b2, b3, b4, b5, b6, b7, b8, b9, b10, b11, b12, b13, b14, b15, b16, b17, b18, b19, b20, b21, b22])
  · rw [show decR [b0, b1, b2, b3, b4, b5, b6, b7, b8, b9, b10, b11, b12, b13, b14, b15, b16, b17, b18, b19, b20, b21, b22] = zeroV by simp [decR, hd], show decE [b0, b1, b2, b3, b4, b5, b6, b7, b8, b9, b10, b11, b12, b13, b14, b15, b16, b17, b18, b19, b20, b21, b22] = 11 by simp [decE, hd]]
    ((with_reducible apply Gol.region); apply Trc.step rfl rfl; exact wnt_n rfl; (with_reducible apply s_loadW); exact rfl; exact rfl; exact rfl; exact agu_cuv _
     dsimp only [Nat.reduceAdd, Nat.reduceMul, Nat.reduceSub, List.nil_append, List.cons_append, nbk, List.map_cons, List.map_nil]; apply Trc.step rfl rfl
     exact wnt_n rfl; apply s_call (f := 10) rfl; apply evs.cons rfl; exact evs.nil; apply ArgL.cons; exact arg_clo; exact ArgL.nil
     exact valid_ok _; exact Nat.le_of_ble_eq_true rfl; dsimp only [Nat.reduceAdd, Nat.reduceMul, Nat.reduceSub, List.nil_append, List.cons_append, nbk, List.map_cons, List.map_nil]
     apply Trc.step rfl rfl; exact wnt_n rfl; (with_reducible apply s_not); exact rfl; dsimp only [Nat.reduceAdd, Nat.reduceMul, Nat.reduceSub, List.nil_append, List.cons_append, nbk, List.map_cons, List.map_nil]
     exact Trc.done _ _ _; exact rfl; (with_reducible refine thn_n ?_))
    refine Gol.cond_t rfl (by rw [hd]; rfl) ?_
    ((with_reducible refine Gol.seq ?_); (with_reducible apply Gol.region); apply Trc.step rfl rfl; exact wnt_n rfl; (with_reducible apply s_zero); dsimp only [Nat.reduceAdd, Nat.reduceMul, Nat.reduceSub, List.nil_append, List.cons_append, nbk, List.map_cons, List.map_nil]
     apply Trc.stepN rfl rfl; exact wnt_n rfl; (with_reducible apply s_storeW); exact rfl; exact rfl; exact rfl; exact rfl; rfl; exact rfl; dsimp only [Nat.reduceAdd, Nat.reduceMul, Nat.reduceSub, List.nil_append, List.cons_append, nbk, List.map_cons, List.map_nil]
     apply Trc.step rfl rfl; exact wnt_n rfl; (with_reducible apply s_assign); exact rfl; dsimp only [Nat.reduceAdd, Nat.reduceMul, Nat.reduceSub, List.nil_append, List.cons_append, nbk, List.map_cons, List.map_nil]
     exact Trc.done _ _ _; exact rfl; (with_reducible refine thn_n ?_); (with_reducible refine Gol.ret ?_); (with_reducible refine thn_r ?_))
    (apply RetQ.mk (by first | exact .inr rfl | exact .inl rfl); apply res_2 rfl; exact res_cell rfl rfl rfl (agu_cuv _); exact res_tmp rfl; exact out_val)
  · rw [show decR [b0, b1, b2, b3, b4, b5, b6, b7, b8, b9, b10, b11, b12, b13, b14, b15, b16, b17, b18, b19, b20, b21, b22] = decV [b0, b1, b2, b3, b4, b5, b6, b7, b8, b9, b10, b11, b12, b13, b14, b15, b16, b17, b18, b19, b20, b21, b22] by simp [decR, hd], show decE [b0, b1, b2, b3, b4, b5, b6, b7, b8, b9, b10, b11, b12, b13, b14, b15, b16, b17, b18, b19, b20, b21, b22] = 0 by simp [decE, hd]]
    ((with_reducible apply Gol.region); apply Trc.step rfl rfl; exact wnt_n rfl; (with_reducible apply s_loadW); exact rfl; exact rfl; exact rfl; exact agu_cuv _
     dsimp only [Nat.reduceAdd, Nat.reduceMul, Nat.reduceSub, List.nil_append, List.cons_append, nbk, List.map_cons, List.map_nil]; apply Trc.step rfl rfl
     exact wnt_n rfl; apply s_call (f := 10) rfl; apply evs.cons rfl; exact evs.nil; apply ArgL.cons; exact arg_clo; exact ArgL.nil
     exact valid_ok _; exact Nat.le_of_ble_eq_true rfl; dsimp only [Nat.reduceAdd, Nat.reduceMul, Nat.reduceSub, List.nil_append, List.cons_append, nbk, List.map_cons, List.map_nil]
     apply Trc.step rfl rfl; exact wnt_n rfl; (with_reducible apply s_not); exact rfl; dsimp only [Nat.reduceAdd, Nat.reduceMul, Nat.reduceSub, List.nil_append, List.cons_append, nbk, List.map_cons, List.map_nil]
     exact Trc.done _ _ _; exact rfl; (with_reducible refine thn_n ?_))
    refine Gol.cond_f rfl (by rw [hd]; rfl) ?_
    ((with_reducible refine Gol.skip ?_); (with_reducible refine thn_n ?_); (with_reducible refine Gol.seq ?_); (with_reducible apply Gol.region); apply Trc.step rfl rfl
     exact wnt_n rfl; (with_reducible apply s_loadW); exact rfl; exact rfl; exact rfl; exact agu_cuv _; dsimp only [Nat.reduceAdd, Nat.reduceMul, Nat.reduceSub, List.nil_append, List.cons_append, nbk, List.map_cons, List.map_nil]
     apply Trc.stepN rfl rfl; exact wnt_n rfl; (with_reducible apply s_storeW); exact rfl; exact rfl; exact rfl; exact rfl; rfl; exact rfl; dsimp only [Nat.reduceAdd, Nat.reduceMul, Nat.reduceSub, List.nil_append, List.cons_append, nbk, List.map_cons, List.map_nil]
     apply Trc.step rfl rfl; exact wnt_n rfl; (with_reducible apply s_assign); exact rfl; dsimp only [Nat.reduceAdd, Nat.reduceMul, Nat.reduceSub, List.nil_append, List.cons_append, nbk, List.map_cons, List.map_nil]
     exact Trc.done _ _ _; exact rfl; (with_reducible refine thn_n ?_); (with_reducible refine Gol.ret ?_))
    (apply RetQ.mk (by first | exact .inr rfl | exact .inl rfl); apply res_2 rfl; exact res_cell rfl rfl rfl (agu_cuv _); exact res_tmp rfl; exact out_val)
theorem refDecode_mid (bs : List UInt8) (f : Bool) (hn : bs.length = 23) : Fresh Try.prog 25 [.ex 23 f (byA bs)] (fun _ => .tp [.v (.agg (voteC (decR bs))), .v (.int .i64 (decE bs))]) [] := by
  obtain ⟨b0, b1, b2, b3, b4, b5, b6, b7, b8, b9, b10, b11, b12, b13, b14, b15, b16, b17, b18, b19, b20, b21, b22, rfl⟩ := list23 hn
  refine Fresh.of (fn := Try.f25) Try.func25 rfl (Nat.le_of_ble_eq_true rfl) fun w => ?_
  ((with_reducible refine Gol.seq ?_); (with_reducible apply Gol.region); apply Trc.step rfl rfl; exact wnt_n rfl; (with_reducible apply s_alloc); dsimp only [Nat.reduceAdd, Nat.reduceMul, Nat.reduceSub, List.nil_append, List.cons_append, nbk, List.map_cons, List.map_nil]
   apply Trc.step rfl rfl; exact wnt_n rfl; (with_reducible apply s_assign); exact rfl; dsimp only [Nat.reduceAdd, Nat.reduceMul, Nat.reduceSub, List.nil_append, List.cons_append, nbk, List.map_cons, List.map_nil]
   exact Trc.done _ _ _; exact rfl; (with_reducible refine thn_n ?_); (with_reducible refine Gol.seq ?_); (with_reducible refine Gol.seq ?_); (with_reducible apply Gol.region)
   apply Trc.step rfl rfl; exact wnt_n rfl; (with_reducible apply s_move); exact rfl; dsimp only [Nat.reduceAdd, Nat.reduceMul, Nat.reduceSub, List.nil_append, List.cons_append, nbk, List.map_cons, List.map_nil]
   apply Trc.step rfl rfl; exact wnt_n rfl; (with_reducible apply s_len); exact rfl; exact ln_ex; dsimp only [Nat.reduceAdd, Nat.reduceMul, Nat.reduceSub, List.nil_append, List.cons_append, nbk, List.map_cons, List.map_nil]
   apply Trc.step rfl rfl; exact wnt_n rfl; (with_reducible apply s_ltn); exact rfl; exact rfl; dsimp only [Nat.reduceAdd, Nat.reduceMul, Nat.reduceSub, List.nil_append, List.cons_append, nbk, List.map_cons, List.map_nil]
   exact Trc.done _ _ _; exact rfl; (with_reducible refine thn_n ?_))
  refine Gol.cond_f rfl (by decide) ?_
  ((with_reducible refine Gol.skip ?_); (with_reducible refine thn_n ?_); (with_reducible refine Gol.seq ?_); (with_reducible refine Gol.seq ?_); (with_reducible apply Gol.region)
   apply Trc.step rfl rfl; exact wnt_n rfl; (with_reducible apply s_move); exact rfl; dsimp only [Nat.reduceAdd, Nat.reduceMul, Nat.reduceSub, List.nil_append, List.cons_append, nbk, List.map_cons, List.map_nil]
   apply Trc.step rfl rfl; exact wnt_n rfl; (with_reducible apply s_len); exact rfl; exact ln_ex; dsimp only [Nat.reduceAdd, Nat.reduceMul, Nat.reduceSub, List.nil_append, List.cons_append, nbk, List.map_cons, List.map_nil]
   apply Trc.step rfl rfl; exact wnt_n rfl; (with_reducible apply s_gtn); exact rfl; exact rfl; dsimp only [Nat.reduceAdd, Nat.reduceMul, Nat.reduceSub, List.nil_append, List.cons_append, nbk, List.map_cons, List.map_nil]
   exact Trc.done _ _ _; exact rfl; (with_reducible refine thn_n ?_))
  refine Gol.cond_f rfl (by decide) ?_
  ((with_reducible refine Gol.skip ?_); (with_reducible refine thn_n ?_); (with_reducible refine Gol.seq ?_); (with_reducible apply Gol.any); kernel_rfl
   apply Trc.step rfl rfl; exact wnt_n rfl; (with_reducible apply s_move); exact rfl; dsimp only [Nat.reduceAdd, Nat.reduceMul, Nat.reduceSub, List.nil_append, List.cons_append, nbk, List.map_cons, List.map_nil]
   apply Trc.step rfl rfl; exact wnt_n rfl; (with_reducible apply s_ixe); exact rfl; exact rfl; decide; exact byA_ne (by omega); dsimp only [Nat.reduceAdd, Nat.reduceMul, Nat.reduceSub, List.nil_append, List.cons_append, nbk, List.map_cons, List.map_nil]
   apply Trc.step rfl rfl; exact wnt_n rfl; (with_reducible apply s_loadE); exact rfl; exact rfl; dsimp only [Nat.reduceAdd, Nat.reduceMul, Nat.reduceSub, List.nil_append, List.cons_append, nbk, List.map_cons, List.map_nil]
   apply Trc.step rfl rfl; exact wnt_n rfl; (with_reducible apply s_ci64b); exact rfl; dsimp only [Nat.reduceAdd, Nat.reduceMul, Nat.reduceSub, List.nil_append, List.cons_append, nbk, List.map_cons, List.map_nil]
   apply Trc.step rfl rfl; exact wnt_n rfl; (with_reducible apply s_move); exact rfl; dsimp only [Nat.reduceAdd, Nat.reduceMul, Nat.reduceSub, List.nil_append, List.cons_append, nbk, List.map_cons, List.map_nil]
   apply Trc.step rfl rfl; exact wnt_n rfl; (with_reducible apply s_ixe); exact rfl; exact rfl; decide; exact byA_ne (by omega); dsimp only [Nat.reduceAdd, Nat.reduceMul, Nat.reduceSub, List.nil_append, List.cons_append, nbk, List.map_cons, List.map_nil]
   apply Trc.step rfl rfl; exact wnt_n rfl; (with_reducible apply s_loadE); exact rfl; exact rfl; dsimp only [Nat.reduceAdd, Nat.reduceMul, Nat.reduceSub, List.nil_append, List.cons_append, nbk, List.map_cons, List.map_nil]
   apply Trc.step rfl rfl; exact wnt_n rfl; (with_reducible apply s_ci64b); exact rfl; dsimp only [Nat.reduceAdd, Nat.reduceMul, Nat.reduceSub, List.nil_append, List.cons_append, nbk, List.map_cons, List.map_nil]
   apply Trc.step rfl rfl; exact wnt_n rfl; (with_reducible apply s_move); exact rfl; dsimp only [Nat.reduceAdd, Nat.reduceMul, Nat.reduceSub, List.nil_append, List.cons_append, nbk, List.map_cons, List.map_nil]
   apply Trc.step rfl rfl; exact wnt_n rfl; (with_reducible apply s_ixe); exact rfl; exact rfl; decide; exact byA_ne (by omega); dsimp only [Nat.reduceAdd, Nat.reduceMul, Nat.reduceSub, List.nil_append, List.cons_append, nbk, List.map_cons, List.map_nil]
   apply Trc.step rfl rfl; exact wnt_n rfl; (with_reducible apply s_loadE); exact rfl; exact rfl; dsimp only [Nat.reduceAdd, Nat.reduceMul, Nat.reduceSub, List.nil_append, List.cons_append, nbk, List.map_cons, List.map_nil]
   apply Trc.step rfl rfl; exact wnt_n rfl; (with_reducible apply s_ci64b); exact rfl; dsimp only [Nat.reduceAdd, Nat.reduceMul, Nat.reduceSub, List.nil_append, List.cons_append, nbk, List.map_cons, List.map_nil]
   apply Trc.step rfl rfl; exact wnt_n rfl; (with_reducible apply s_move); exact rfl; dsimp only [Nat.reduceAdd, Nat.reduceMul, Nat.reduceSub, List.nil_append, List.cons_append, nbk, List.map_cons, List.map_nil]
   apply Trc.step rfl rfl; exact wnt_n rfl; (with_reducible apply s_ixe); exact rfl; exact rfl; decide; exact byA_ne (by omega); dsimp only [Nat.reduceAdd, Nat.reduceMul, Nat.reduceSub, List.nil_append, List.cons_append, nbk, List.map_cons, List.map_nil]
   apply Trc.step rfl rfl; exact wnt_n rfl; (with_reducible apply s_loadE); exact rfl; exact rfl; dsimp only [Nat.reduceAdd, Nat.reduceMul, Nat.reduceSub, List.nil_append, List.cons_append, nbk, List.map_cons, List.map_nil]
   apply Trc.step rfl rfl; exact wnt_n rfl; (with_reducible apply s_ci64b); exact rfl; dsimp only [Nat.reduceAdd, Nat.reduceMul, Nat.reduceSub, List.nil_append, List.cons_append, nbk, List.map_cons, List.map_nil]
   apply Trc.step rfl rfl; exact wnt_n rfl; (with_reducible apply s_move); exact rfl; dsimp only [Nat.reduceAdd, Nat.reduceMul, Nat.reduceSub, List.nil_append, List.cons_append, nbk, List.map_cons, List.map_nil]
   apply Trc.step rfl rfl; exact wnt_n rfl; (with_reducible apply s_ixe); exact rfl; exact rfl; decide; exact byA_ne (by omega); dsimp only [Nat.reduceAdd, Nat.reduceMul, Nat.reduceSub, List.nil_append, List.cons_append, nbk, List.map_cons, List.map_nil]
   apply Trc.step rfl rfl; exact wnt_n rfl; (with_reducible apply s_loadE); exact rfl; exact rfl; dsimp only [Nat.reduceAdd, Nat.reduceMul, Nat.reduceSub, List.nil_append, List.cons_append, nbk, List.map_cons, List.map_nil]
   apply Trc.step rfl rfl; exact wnt_n rfl; (with_reducible apply s_ci64b); exact rfl; dsimp only [Nat.reduceAdd, Nat.reduceMul, Nat.reduceSub, List.nil_append, List.cons_append, nbk, List.map_cons, List.map_nil]
   apply Trc.step rfl rfl; exact wnt_n rfl; (with_reducible apply s_move); exact rfl; dsimp only [Nat.reduceAdd, Nat.reduceMul, Nat.reduceSub, List.nil_append, List.cons_append, nbk, List.map_cons, List.map_nil]
   apply Trc.step rfl rfl; exact wnt_n rfl; (with_reducible apply s_ixe); exact rfl; exact rfl; decide; exact byA_ne (by omega); dsimp only [Nat.reduceAdd, Nat.reduceMul, Nat.reduceSub, List.nil_append, List.cons_append, nbk, List.map_cons, List.map_nil]
   apply Trc.step rfl rfl; exact wnt_n rfl; (with_reducible apply s_loadE); exact rfl; exact rfl; dsimp only [Nat.reduceAdd, Nat.reduceMul, Nat.reduceSub, List.nil_append, List.cons_append, nbk, List.map_cons, List.map_nil]
   apply Trc.step rfl rfl; exact wnt_n rfl; (with_reducible apply s_ci64b); exact rfl; dsimp only [Nat.reduceAdd, Nat.reduceMul, Nat.reduceSub, List.nil_append, List.cons_append, nbk, List.map_cons, List.map_nil]
   apply Trc.step rfl rfl; exact wnt_n rfl; (with_reducible apply s_shlI); exact rfl; exact rfl; dsimp only [Nat.reduceAdd, Nat.reduceMul, Nat.reduceSub, List.nil_append, List.cons_append, nbk, List.map_cons, List.map_nil]
   apply Trc.step rfl rfl; exact wnt_n rfl; (with_reducible apply s_move); exact rfl; dsimp only [Nat.reduceAdd, Nat.reduceMul, Nat.reduceSub, List.nil_append, List.cons_append, nbk, List.map_cons, List.map_nil]
   apply Trc.step rfl rfl; exact wnt_n rfl; (with_reducible apply s_ixe); exact rfl; exact rfl; decide; exact byA_ne (by omega); dsimp only [Nat.reduceAdd, Nat.reduceMul, Nat.reduceSub, List.nil_append, List.cons_append, nbk, List.map_cons, List.map_nil]
   apply Trc.step rfl rfl; exact wnt_n rfl; (with_reducible apply s_loadE); exact rfl; exact rfl; dsimp only [Nat.reduceAdd, Nat.reduceMul, Nat.reduceSub, List.nil_append, List.cons_append, nbk, List.map_cons, List.map_nil]
   apply Trc.step rfl rfl; exact wnt_n rfl; (with_reducible apply s_ci64b); exact rfl; dsimp only [Nat.reduceAdd, Nat.reduceMul, Nat.reduceSub, List.nil_append, List.cons_append, nbk, List.map_cons, List.map_nil]
   apply Trc.step rfl rfl; exact wnt_n rfl; (with_reducible apply s_orI); exact rfl; exact rfl; dsimp only [Nat.reduceAdd, Nat.reduceMul, Nat.reduceSub, List.nil_append, List.cons_append, nbk, List.map_cons, List.map_nil]
   apply Trc.step rfl rfl; exact wnt_n rfl; (with_reducible apply s_bld); exact rfl; (focus (dsimp only [splB, cuB, spl, cu, Value.cells, nameC, List.map, List.take, List.drop, List.append, List.length, List.cons_append, List.nil_append, Nat.reduceAdd, List.take_succ_cons, List.take_zero, List.drop_succ_cons, List.drop_zero, List.take_nil, List.drop_nil, List.append_nil, List.length_cons, List.length_nil]; done))
   dsimp only [Nat.reduceAdd, Nat.reduceMul, Nat.reduceSub, List.nil_append, List.cons_append, nbk, List.map_cons, List.map_nil]; apply Trc.step rfl rfl
   exact wnt_n rfl; (with_reducible apply s_alloc); dsimp only [Nat.reduceAdd, Nat.reduceMul, Nat.reduceSub, List.nil_append, List.cons_append, nbk, List.map_cons, List.map_nil]
   apply Trc.stepN rfl rfl; exact wnt_n rfl; (with_reducible apply s_storeW); exact rfl; exact rfl; exact rfl; exact rfl; rfl; exact rfl; dsimp only [Nat.reduceAdd, Nat.reduceMul, Nat.reduceSub, List.nil_append, List.cons_append, nbk, List.map_cons, List.map_nil]
   exact Trc.done _ _ _; kernel_rfl; exact rfl; (with_reducible refine thn_n ?_); (with_reducible refine Gol.seq ?_); (with_reducible apply Gol.any); kernel_rfl
   apply Trc.step rfl rfl; exact wnt_n rfl; (with_reducible apply s_fieldAddr); exact rfl; dsimp only [Nat.reduceAdd, Nat.reduceMul, Nat.reduceSub, List.nil_append, List.cons_append, nbk, List.map_cons, List.map_nil]
   apply Trc.step rfl rfl; exact wnt_n rfl; (with_reducible apply s_slA); exact rfl; exact rfl; exact rfl; exact rfl; simp; omega; omega; omega; dsimp only [Nat.reduceAdd, Nat.reduceMul, Nat.reduceSub, List.nil_append, List.cons_append, nbk, List.map_cons, List.map_nil]
   apply Trc.step rfl rfl; exact wnt_n rfl; (with_reducible apply s_move); exact rfl; dsimp only [Nat.reduceAdd, Nat.reduceMul, Nat.reduceSub, List.nil_append, List.cons_append, nbk, List.map_cons, List.map_nil]
   apply Trc.step rfl rfl; exact wnt_n rfl; (with_reducible apply s_slE); exact rfl; exact ⟨_, rfl⟩; exact ⟨_, rfl⟩; decide; decide; rfl; dsimp only [Nat.reduceAdd, Nat.reduceMul, Nat.reduceSub, List.nil_append, List.cons_append, nbk, List.map_cons, List.map_nil]
   apply Trc.step rfl rfl; exact wnt_n rfl; (with_reducible apply s_copy); exact rfl; exact rfl; exact rfl; apply rd_ex; rfl; omega; exact Nat.le_of_ble_eq_true rfl
   exact OneL.one; dsimp only [Nat.reduceAdd, Nat.reduceMul, Nat.reduceSub, List.nil_append, List.cons_append, nbk, List.map_cons, List.map_nil]; exact Trc.done _ _ _
   kernel_rfl; exact rfl; (with_reducible refine thn_n ?_); (with_reducible refine Gol.seq ?_); (with_reducible apply Gol.any); kernel_rfl; apply Trc.step rfl rfl
   exact wnt_n rfl; (with_reducible apply s_fieldAddr); exact rfl; dsimp only [Nat.reduceAdd, Nat.reduceMul, Nat.reduceSub, List.nil_append, List.cons_append, nbk, List.map_cons, List.map_nil]
   apply Trc.step rfl rfl; exact wnt_n rfl; (with_reducible apply s_slA); exact rfl; exact rfl; exact rfl; exact rfl; simp; omega; omega; omega; dsimp only [Nat.reduceAdd, Nat.reduceMul, Nat.reduceSub, List.nil_append, List.cons_append, nbk, List.map_cons, List.map_nil]
   apply Trc.step rfl rfl; exact wnt_n rfl; (with_reducible apply s_move); exact rfl; dsimp only [Nat.reduceAdd, Nat.reduceMul, Nat.reduceSub, List.nil_append, List.cons_append, nbk, List.map_cons, List.map_nil]
   apply Trc.step rfl rfl; exact wnt_n rfl; (with_reducible apply s_slE); exact rfl; exact ⟨_, rfl⟩; exact ⟨_, rfl⟩; decide; decide; rfl; dsimp only [Nat.reduceAdd, Nat.reduceMul, Nat.reduceSub, List.nil_append, List.cons_append, nbk, List.map_cons, List.map_nil]
   apply Trc.step rfl rfl; exact wnt_n rfl; (with_reducible apply s_copy); exact rfl; exact rfl; exact rfl; apply rd_ex; rfl; omega; exact Nat.le_of_ble_eq_true rfl
   exact OneL.one; dsimp only [Nat.reduceAdd, Nat.reduceMul, Nat.reduceSub, List.nil_append, List.cons_append, nbk, List.map_cons, List.map_nil]; exact Trc.done _ _ _
   kernel_rfl; exact rfl; (with_reducible refine thn_n ?_); (with_reducible refine Gol.seq ?_); (with_reducible refine Gol.seq ?_))
  refine Gol.le (k' := 408) (H' := [(312, some ⟨cu (.v (.agg (voteC (decV [b0, b1, b2, b3, b4, b5, b6, b7, b8, b9, b10, b11, b12, b13, b14, b15, b16, b17, b18, b19, b20, b21, b22])))), 26, 22⟩), (0, some ⟨cu (.v (.agg (voteC zeroV))), 26, 22⟩)]) (T' := [(4, .pt 312 0), (2, .pt 0 0)]) ?_ ?_
  · (apply Le.mk' []; apply RnT.c; exact rfl; exact Rn.pt rfl rfl; apply RnT.c; exact rfl; exact Rn.pt rfl rfl; exact RnT.n; apply RnH.c; exact rfl; exact rfl
     exact dec_cells b0 b1 b2 b3 b4 b5 b6 b7 b8 b9 b10 b11 b12 b13 b14 b15 b16 b17 b18 b19 b20 b21 b22 _ (or_two b5 b6); exact rfl; exact rfl; apply RnH.c
     exact rfl; exact rfl; rfl; exact rfl; exact rfl; exact RnH.n; exact rfl)
  cases hd : validB (decV [b0, b1, b2, b3, b4, b5, b6, b7, b8, b9, b10, b11, b12, b13, b14, b15, b16, b17, b18, b19, b20, b21, b22])
  · rw [show decR [b0, b1, b2, b3, b4, b5, b6, b7, b8, b9, b10, b11, b12, b13, b14, b15, b16, b17, b18, b19, b20, b21, b22] = zeroV by simp [decR, hd], show decE [b0, b1, b2, b3, b4, b5, b6, b7, b8, b9, b10, b11, b12, b13, b14, b15, b16, b17, b18, b19, b20, b21, b22] = 11 by simp [decE, hd]]
    ((with_reducible apply Gol.region); apply Trc.step rfl rfl; exact wnt_n rfl; (with_reducible apply s_loadW); exact rfl; exact rfl; exact rfl; exact agu_cuv _
     dsimp only [Nat.reduceAdd, Nat.reduceMul, Nat.reduceSub, List.nil_append, List.cons_append, nbk, List.map_cons, List.map_nil]; apply Trc.step rfl rfl
     exact wnt_n rfl; apply s_call (f := 11) rfl; apply evs.cons rfl; exact evs.nil; apply ArgL.cons; exact arg_clo; exact ArgL.nil
     exact refValid_ok _; exact Nat.le_of_ble_eq_true rfl; dsimp only [Nat.reduceAdd, Nat.reduceMul, Nat.reduceSub, List.nil_append, List.cons_append, nbk, List.map_cons, List.map_nil]
     apply Trc.step rfl rfl; exact wnt_n rfl; (with_reducible apply s_not); exact rfl; dsimp only [Nat.reduceAdd, Nat.reduceMul, Nat.reduceSub, List.nil_append, List.cons_append, nbk, List.map_cons, List.map_nil]
     exact Trc.done _ _ _; exact rfl; (with_reducible refine thn_n ?_))
    refine Gol.cond_t rfl (by rw [hd]; rfl) ?_
    ((with_reducible refine Gol.seq ?_); (with_reducible apply Gol.region); apply Trc.step rfl rfl; exact wnt_n rfl; (with_reducible apply s_zero); dsimp only [Nat.reduceAdd, Nat.reduceMul, Nat.reduceSub, List.nil_append, List.cons_append, nbk, List.map_cons, List.map_nil]
     apply Trc.stepN rfl rfl; exact wnt_n rfl; (with_reducible apply s_storeW); exact rfl; exact rfl; exact rfl; exact rfl; rfl; exact rfl; dsimp only [Nat.reduceAdd, Nat.reduceMul, Nat.reduceSub, List.nil_append, List.cons_append, nbk, List.map_cons, List.map_nil]
     apply Trc.step rfl rfl; exact wnt_n rfl; (with_reducible apply s_assign); exact rfl; dsimp only [Nat.reduceAdd, Nat.reduceMul, Nat.reduceSub, List.nil_append, List.cons_append, nbk, List.map_cons, List.map_nil]
     exact Trc.done _ _ _; exact rfl; (with_reducible refine thn_n ?_); (with_reducible refine Gol.ret ?_); (with_reducible refine thn_r ?_))
    (apply RetQ.mk (by first | exact .inr rfl | exact .inl rfl); apply res_2 rfl; exact res_cell rfl rfl rfl (agu_cuv _); exact res_tmp rfl; exact out_val)
  · rw [show decR [b0, b1, b2, b3, b4, b5, b6, b7, b8, b9, b10, b11, b12, b13, b14, b15, b16, b17, b18, b19, b20, b21, b22] = decV [b0, b1, b2, b3, b4, b5, b6, b7, b8, b9, b10, b11, b12, b13, b14, b15, b16, b17, b18, b19, b20, b21, b22] by simp [decR, hd], show decE [b0, b1, b2, b3, b4, b5, b6, b7, b8, b9, b10, b11, b12, b13, b14, b15, b16, b17, b18, b19, b20, b21, b22] = 0 by simp [decE, hd]]
    ((with_reducible apply Gol.region); apply Trc.step rfl rfl; exact wnt_n rfl; (with_reducible apply s_loadW); exact rfl; exact rfl; exact rfl; exact agu_cuv _
     dsimp only [Nat.reduceAdd, Nat.reduceMul, Nat.reduceSub, List.nil_append, List.cons_append, nbk, List.map_cons, List.map_nil]; apply Trc.step rfl rfl
     exact wnt_n rfl; apply s_call (f := 11) rfl; apply evs.cons rfl; exact evs.nil; apply ArgL.cons; exact arg_clo; exact ArgL.nil
     exact refValid_ok _; exact Nat.le_of_ble_eq_true rfl; dsimp only [Nat.reduceAdd, Nat.reduceMul, Nat.reduceSub, List.nil_append, List.cons_append, nbk, List.map_cons, List.map_nil]
     apply Trc.step rfl rfl; exact wnt_n rfl; (with_reducible apply s_not); exact rfl; dsimp only [Nat.reduceAdd, Nat.reduceMul, Nat.reduceSub, List.nil_append, List.cons_append, nbk, List.map_cons, List.map_nil]
     exact Trc.done _ _ _; exact rfl; (with_reducible refine thn_n ?_))
    refine Gol.cond_f rfl (by rw [hd]; rfl) ?_
    ((with_reducible refine Gol.skip ?_); (with_reducible refine thn_n ?_); (with_reducible refine Gol.seq ?_); (with_reducible apply Gol.region); apply Trc.step rfl rfl
     exact wnt_n rfl; (with_reducible apply s_loadW); exact rfl; exact rfl; exact rfl; exact agu_cuv _; dsimp only [Nat.reduceAdd, Nat.reduceMul, Nat.reduceSub, List.nil_append, List.cons_append, nbk, List.map_cons, List.map_nil]
     apply Trc.stepN rfl rfl; exact wnt_n rfl; (with_reducible apply s_storeW); exact rfl; exact rfl; exact rfl; exact rfl; rfl; exact rfl; dsimp only [Nat.reduceAdd, Nat.reduceMul, Nat.reduceSub, List.nil_append, List.cons_append, nbk, List.map_cons, List.map_nil]
     apply Trc.step rfl rfl; exact wnt_n rfl; (with_reducible apply s_assign); exact rfl; dsimp only [Nat.reduceAdd, Nat.reduceMul, Nat.reduceSub, List.nil_append, List.cons_append, nbk, List.map_cons, List.map_nil]
     exact Trc.done _ _ _; exact rfl; (with_reducible refine thn_n ?_); (with_reducible refine Gol.ret ?_))
    (apply RetQ.mk (by first | exact .inr rfl | exact .inl rfl); apply res_2 rfl; exact res_cell rfl rfl rfl (agu_cuv _); exact res_tmp rfl; exact out_val)
end Go.Proofs.Ytjdacnjdmhhbgaa
