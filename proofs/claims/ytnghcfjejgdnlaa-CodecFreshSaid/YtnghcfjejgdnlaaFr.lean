/-
  Layer 2: the law CodecFresh returns true. Conditions: lengths below 2^47.
-/
import Derived.Test.YtnghcfjejgdnlaaCod4
import Derived.Test.YtnghcfjejgdnlaaLe2
set_option linter.unusedSimpArgs false
set_option linter.unusedVariables false
set_option linter.unusedSectionVars false
namespace Go.Proofs.Ytnghcfjejgdnlaa
open Go.RowKit
def xorP (xs : List UInt8) (i : Nat) : List UInt8 := (xs.take i).map (fun c => xorB c 255) ++ xs.drop i
theorem xorP_length (xs : List UInt8) (i : Nat) : (xorP xs i).length = xs.length := by simp [xorP]; omega
theorem xorP_zero (xs : List UInt8) : xorP xs 0 = xs := by simp [xorP]
theorem xorP_get (xs : List UInt8) (i : Nat) (h : i < xs.length) : (xorP xs i).getD i 0 = xs.getD i 0 := by
  have hl : ((xs.take i).map (fun c => xorB c 255)).length = i := by simp; omega
  rw [List.getD_eq_getElem?_getD, List.getD_eq_getElem?_getD, xorP, List.getElem?_append_right (by omega), hl, Nat.sub_self, List.getElem?_drop, Nat.add_zero]
theorem xorP_step (xs : List UInt8) (i : Nat) (h : i < xs.length) : spl (byA (xorP xs i)) (i * 1) [AV.v (.int .u8 ((xorB ((xorP xs i).getD i 0) 255).toNat : Int))] = byA (xorP xs (i + 1)) := by
  have hl : ((xs.take i).map (fun c => xorB c 255)).length = i := by simp; omega
  rw [xorP_get xs i h, List.getD_eq_getElem?_getD, List.getElem?_eq_getElem h, Nat.mul_one]
  unfold spl
  rw [byA_take, byA_drop, List.length_singleton]
  rw [show xorP xs (i + 1) = ((xs.take i).map (fun c => xorB c 255)) ++ [xorB xs[i] 255] ++ xs.drop (i + 1) by
    rw [xorP, List.take_succ_eq_append_getElem h, List.map_append]; rfl]
  rw [byA_append, byA_append]
  have e1 : (xorP xs i).take i = (xs.take i).map (fun c => xorB c 255) := by rw [xorP, List.take_left' hl]
  have e2 : (xorP xs i).drop (i + 1) = xs.drop (i + 1) := by
    rw [xorP, List.drop_append, hl, List.drop_of_length_le (by omega), List.nil_append, Nat.add_sub_cancel_left, List.drop_drop]
  rw [e1, e2]
  rfl
instance : EI Try.prog 39 3 := ⟨24, Try.underlying39, fun _ => by kernel_rfl, fun _ => by kernel_rfl⟩
def flp (b : Bool) (xs : List UInt8) : List UInt8 := if b then xorP xs xs.length else xs
def frH (xs ys zs rs : List UInt8) (c : Nat) : AH := [(3, some ⟨byA (flp (Nat.blt 0 c) xs), 5, 1⟩), (4, some ⟨byA (flp (Nat.blt 1 c) ys), 5, 1⟩), (5, some ⟨byA (flp (Nat.blt 2 c) zs), 5, 1⟩), (6, some ⟨byA rs, 5, 1⟩)]
def frT (n1 n2 n3 r cap : Nat) (rs : List UInt8) (c : Nat) : AT := [(71, .ag [.sl 3 n1, .sl 4 n2, .sl 5 n3]), (72, .v (.int .i64 (c : Int))), (13, .sc 6 r cap), (14, .v (.string (strB rs)))]
theorem appBytes_b (bs ps : List UInt8) (n m : Nat) (hn : bs.length = n) (hm : ps.length = m) (h : n ≤ 140737488355000) : ∃ (out : List UInt8) (l : Nat) (ok : Bool), out.length = l ∧ l ≤ 140737500000000 ∧ ∀ f g, Fresh Try.prog 16 [.ex n f (byA bs), .ex m g (byA ps)] (fun k => .tp [.sl k l, .v (.bool ok)]) [⟨byA out, 5, 1⟩] := by
  by_cases hb : 65535 < m
  · exact ⟨[], 0, false, rfl, by omega, fun f g => .nilTp _ _ (appBytes_no bs ps n m f g hb)⟩
  · exact ⟨_, n + 2 + m, true, by simp [hn, hm, beB_length]; omega, by omega, fun f g => appBytes_yes bs ps n m f g hn hm h hb⟩
theorem appNames_b (bs : List UInt8) (ns : List UInt64) (n m : Nat) (hn : bs.length = n) (hm : ns.length = m) (h : n ≤ 140737488355000) : ∃ (out : List UInt8) (l : Nat) (ok : Bool), out.length = l ∧ l ≤ 140737500000000 ∧ ∀ f g, Fresh Try.prog 17 [.ex n f (byA bs), .ex m g (byA (flat ns))] (fun k => .tp [.sl k l, .v (.bool ok)]) [⟨byA out, 5, 1⟩] := by
  by_cases hb : 255 < m
  · exact ⟨[], 0, false, rfl, by omega, fun f g => .nilTp _ _ (appNames_no bs ns n m f g hb)⟩
  · exact ⟨_, n + 1 + m * 8, true, by simp [hn, hm, beB_length, flat_length]; omega, by omega, fun f g => appNames_yes bs ns n m f g hn hm h hb⟩
theorem fresh_ok (bs ms ps : List UInt8) (v : UInt64) (width : Int) (ns : List UInt64) (n m q r : Nat) (hn : bs.length = n) (hm : ms.length = m) (hq : ps.length = q) (hr : ns.length = r) (h1 : n ≤ 140737488351232) (h2 : m ≤ 140737488351232) :
    Fresh Try.prog 4 [.ex n false (byA bs), .ex m false (byA ms), .ex q false (byA ps), .v (.int .u64 (v.toNat : Int)), .v (.int .i64 width), .ex r false (byA (flat ns))] (fun _ => .v (.bool true)) [] := by
  have hT : List.take n (byA (bs ++ ms)) = byA bs := by rw [byA_append]; exact List.take_left' (by rw [byA_length, hn])
  have hF : List.take ((n + m) * 1) (byA (bs ++ ms)) = byA (bs ++ ms) := List.take_of_length_le (by rw [byA_length, List.length_append]; omega)
  have hF0 : List.take ((0 + n + m) * 1) (byA (bs ++ ms)) = byA (bs ++ ms) := by rw [Nat.zero_add]; exact hF
  obtain ⟨o1, l1, ok1, ho1, hl1, hA⟩ := appBytes_b bs ps n q hn hq (by omega)
  obtain ⟨o2, l2, ok2, ho2, hl2, hB⟩ := appNames_b bs ns n r hn hr (by omega)
  have hw := clampW_le width
  have hlt : ¬ (n + clampW width < n) := by omega
  refine Fresh.of (fn := Try.f4) Try.func4 rfl (Nat.le_of_ble_eq_true rfl) fun w => ?_
  ((with_reducible refine Gol.seq ?_); (with_reducible apply Gol.region); apply Trc.step rfl rfl; exact wnt_n rfl; (with_reducible apply s_assign); exact rfl
   dsimp only [Nat.reduceAdd, Nat.reduceMul, Nat.reduceSub, List.nil_append, List.cons_append, nbk, List.map_cons, List.map_nil]; exact Trc.done _ _ _; exact rfl
   (with_reducible refine thn_n ?_); (with_reducible refine Gol.seq ?_); (with_reducible apply Gol.region); apply Trc.step rfl rfl; exact wnt_n rfl; (with_reducible apply s_move)
   exact rfl; dsimp only [Nat.reduceAdd, Nat.reduceMul, Nat.reduceSub, List.nil_append, List.cons_append, nbk, List.map_cons, List.map_nil]; apply Trc.step rfl rfl
   exact wnt_n rfl; (with_reducible apply s_len); exact rfl; exact ln_ex; dsimp only [Nat.reduceAdd, Nat.reduceMul, Nat.reduceSub, List.nil_append, List.cons_append, nbk, List.map_cons, List.map_nil]
   apply Trc.step rfl rfl; exact wnt_n rfl; (with_reducible apply s_move); exact rfl; dsimp only [Nat.reduceAdd, Nat.reduceMul, Nat.reduceSub, List.nil_append, List.cons_append, nbk, List.map_cons, List.map_nil]
   apply Trc.step rfl rfl; exact wnt_n rfl; (with_reducible apply s_len); exact rfl; exact ln_ex; dsimp only [Nat.reduceAdd, Nat.reduceMul, Nat.reduceSub, List.nil_append, List.cons_append, nbk, List.map_cons, List.map_nil]
   apply Trc.step rfl rfl; exact wnt_n rfl; (with_reducible apply s_addn); exact rfl; exact rfl; omega; dsimp only [Nat.reduceAdd, Nat.reduceMul, Nat.reduceSub, List.nil_append, List.cons_append, nbk, List.map_cons, List.map_nil]
   apply Trc.step rfl rfl; exact wnt_n rfl; (with_reducible apply s_addn); exact rfl; exact rfl; simp <;> omega; dsimp only [Nat.reduceAdd, Nat.reduceMul, Nat.reduceSub, List.nil_append, List.cons_append, nbk, List.map_cons, List.map_nil]
   apply Trc.step rfl rfl; exact wnt_n rfl; apply s_makeC; exact rfl; exact rfl; exact rfl; simp <;> omega; omega; dsimp only [Nat.reduceAdd, Nat.reduceMul, Nat.reduceSub, List.nil_append, List.cons_append, nbk, List.map_cons, List.map_nil]
   apply Trc.step rfl rfl; exact wnt_n rfl; (with_reducible apply s_move); exact rfl; dsimp only [Nat.reduceAdd, Nat.reduceMul, Nat.reduceSub, List.nil_append, List.cons_append, nbk, List.map_cons, List.map_nil]
   apply Trc.step rfl rfl; exact wnt_n rfl; (with_reducible apply s_appC); exact rfl; exact rfl; exact rfl; apply rd_ex; simp only [byA_length, List.length_append, List.length_cons, List.length_nil, List.length_take, List.length_drop, List.length_replicate, List.length_map, Nat.mul_one, nameB_length, flat_length, List.length_set, inA_length] <;> omega
   rfl; exact rfl; exact rfl; exact OneL.one; omega; omega; dsimp only [Nat.reduceAdd, Nat.reduceMul, Nat.reduceSub, List.nil_append, List.cons_append, nbk, List.map_cons, List.map_nil]
   apply Trc.step rfl rfl; exact wnt_n rfl; (with_reducible apply s_move); exact rfl; dsimp only [Nat.reduceAdd, Nat.reduceMul, Nat.reduceSub, List.nil_append, List.cons_append, nbk, List.map_cons, List.map_nil]
   apply Trc.step rfl rfl; exact wnt_n rfl; (with_reducible apply s_appC); exact rfl; exact rfl; exact rfl; apply rd_ex; simp only [byA_length, List.length_append, List.length_cons, List.length_nil, List.length_take, List.length_drop, List.length_replicate, List.length_map, Nat.mul_one, nameB_length, flat_length, List.length_set, inA_length] <;> omega
   simp only [byA_length, List.length_append, List.length_cons, List.length_nil, List.length_take, List.length_drop, List.length_replicate, List.length_map, Nat.mul_one, nameB_length, flat_length, List.length_set, inA_length] <;> omega
   exact rfl; exact rfl; exact OneL.one; omega; omega; dsimp only [Nat.reduceAdd, Nat.reduceMul, Nat.reduceSub, List.nil_append, List.cons_append, nbk, List.map_cons, List.map_nil]
   apply Trc.step rfl rfl; exact wnt_n rfl; (with_reducible apply s_assign); exact rfl; dsimp only [Nat.reduceAdd, Nat.reduceMul, Nat.reduceSub, List.nil_append, List.cons_append, nbk, List.map_cons, List.map_nil]
   exact Trc.done _ _ _; exact rfl; (with_reducible refine thn_n ?_); (with_reducible refine Gol.seq ?_))
  simp only [List.replicate_zero, List.nil_append, Nat.zero_add]
  rw [← byA_append]
  ((with_reducible apply Gol.region); apply Trc.step rfl rfl; exact wnt_n rfl; (with_reducible apply s_move); exact rfl; dsimp only [Nat.reduceAdd, Nat.reduceMul, Nat.reduceSub, List.nil_append, List.cons_append, nbk, List.map_cons, List.map_nil]
   apply Trc.step rfl rfl; exact wnt_n rfl; (with_reducible apply s_string); exact rfl; apply rd_sc rfl; assumption; simp only [byA_length, List.length_append, List.length_cons, List.length_nil, List.length_take, List.length_drop, List.length_replicate, List.length_map, Nat.mul_one, nameB_length, flat_length, List.length_set, inA_length] <;> omega
   exact rfl; dsimp only [Nat.reduceAdd, Nat.reduceMul, Nat.reduceSub, List.nil_append, List.cons_append, nbk, List.map_cons, List.map_nil]; apply Trc.step rfl rfl
   exact wnt_n rfl; (with_reducible apply s_assign); exact rfl; dsimp only [Nat.reduceAdd, Nat.reduceMul, Nat.reduceSub, List.nil_append, List.cons_append, nbk, List.map_cons, List.map_nil]
   exact Trc.done _ _ _; exact rfl; (with_reducible refine thn_n ?_); (with_reducible refine Gol.seq ?_); (with_reducible apply Gol.region); apply Trc.step rfl rfl
   exact wnt_n rfl; (with_reducible apply s_move); exact rfl; dsimp only [Nat.reduceAdd, Nat.reduceMul, Nat.reduceSub, List.nil_append, List.cons_append, nbk, List.map_cons, List.map_nil]
   apply Trc.step rfl rfl; exact wnt_n rfl; (with_reducible apply s_move); exact rfl; dsimp only [Nat.reduceAdd, Nat.reduceMul, Nat.reduceSub, List.nil_append, List.cons_append, nbk, List.map_cons, List.map_nil]
   apply Trc.step rfl rfl; exact wnt_n rfl; (with_reducible apply s_len); exact rfl; exact ln_ex; dsimp only [Nat.reduceAdd, Nat.reduceMul, Nat.reduceSub, List.nil_append, List.cons_append, nbk, List.map_cons, List.map_nil]
   apply Trc.step rfl rfl; exact wnt_n rfl; (with_reducible apply s_slC); exact rfl; exact ⟨_, rfl⟩; omega; exact rfl; dsimp only [Nat.reduceAdd, Nat.reduceMul, Nat.reduceSub, List.nil_append, List.cons_append, nbk, List.map_cons, List.map_nil]
   apply Trc.step rfl rfl; exact wnt_n rfl; (with_reducible apply s_assign); exact rfl; dsimp only [Nat.reduceAdd, Nat.reduceMul, Nat.reduceSub, List.nil_append, List.cons_append, nbk, List.map_cons, List.map_nil]
   exact Trc.done _ _ _; exact rfl; (with_reducible refine thn_n ?_); (with_reducible refine Gol.seq ?_); (with_reducible apply Gol.region); apply Trc.step rfl rfl
   exact wnt_n rfl; (with_reducible apply s_move); exact rfl; dsimp only [Nat.reduceAdd, Nat.reduceMul, Nat.reduceSub, List.nil_append, List.cons_append, nbk, List.map_cons, List.map_nil]
   apply Trc.step rfl rfl; exact wnt_n rfl; (with_reducible apply s_move); exact rfl; dsimp only [Nat.reduceAdd, Nat.reduceMul, Nat.reduceSub, List.nil_append, List.cons_append, nbk, List.map_cons, List.map_nil]
   apply Trc.step rfl rfl; exact wnt_n rfl; (with_reducible apply s_move); exact rfl; dsimp only [Nat.reduceAdd, Nat.reduceMul, Nat.reduceSub, List.nil_append, List.cons_append, nbk, List.map_cons, List.map_nil]
   apply Trc.step rfl rfl; exact wnt_n rfl; apply s_call (f := 15) rfl; apply evs.cons rfl; apply evs.cons rfl; apply evs.cons rfl
   exact evs.nil; apply ArgL.cons; exact arg_sc1 rfl (by assumption); apply ArgL.cons; exact arg_clo; apply ArgL.cons; exact arg_clo; exact ArgL.nil; exact appUint_ok bs v width n _ hn (by omega)
   exact Nat.le_of_ble_eq_true rfl; dsimp only [Nat.reduceAdd, Nat.reduceMul, Nat.reduceSub, List.nil_append, List.cons_append, nbk, List.map_cons, List.map_nil]
   apply Trc.step rfl rfl; exact wnt_n rfl; (with_reducible apply s_assign); exact rfl; dsimp only [Nat.reduceAdd, Nat.reduceMul, Nat.reduceSub, List.nil_append, List.cons_append, nbk, List.map_cons, List.map_nil]
   exact Trc.done _ _ _; exact rfl; (with_reducible refine thn_n ?_); (with_reducible refine Gol.seq ?_); (with_reducible apply Gol.region); apply Trc.step rfl rfl
   exact wnt_n rfl; (with_reducible apply s_move); exact rfl; dsimp only [Nat.reduceAdd, Nat.reduceMul, Nat.reduceSub, List.nil_append, List.cons_append, nbk, List.map_cons, List.map_nil]
   apply Trc.step rfl rfl; exact wnt_n rfl; (with_reducible apply s_move); exact rfl; dsimp only [Nat.reduceAdd, Nat.reduceMul, Nat.reduceSub, List.nil_append, List.cons_append, nbk, List.map_cons, List.map_nil]
   apply Trc.step rfl rfl; exact wnt_n rfl; apply s_call (f := 16) rfl; apply evs.cons rfl; apply evs.cons rfl; exact evs.nil
   apply ArgL.cons; exact arg_sc1 rfl (by assumption); apply ArgL.cons; exact arg_clo; exact ArgL.nil; exact hA _ _; exact Nat.le_of_ble_eq_true rfl; dsimp only [Nat.reduceAdd, Nat.reduceMul, Nat.reduceSub, List.nil_append, List.cons_append, nbk, List.map_cons, List.map_nil]
   apply Trc.step rfl rfl; exact wnt_n rfl; (with_reducible apply s_move); exact rfl; dsimp only [Nat.reduceAdd, Nat.reduceMul, Nat.reduceSub, List.nil_append, List.cons_append, nbk, List.map_cons, List.map_nil]
   apply Trc.step rfl rfl; exact wnt_n rfl; (with_reducible apply s_extract); exact rfl; exact rfl; dsimp only [Nat.reduceAdd, Nat.reduceMul, Nat.reduceSub, List.nil_append, List.cons_append, nbk, List.map_cons, List.map_nil]
   apply Trc.step rfl rfl; exact wnt_n rfl; (with_reducible apply s_extract); exact rfl; exact rfl; dsimp only [Nat.reduceAdd, Nat.reduceMul, Nat.reduceSub, List.nil_append, List.cons_append, nbk, List.map_cons, List.map_nil]
   apply Trc.step rfl rfl; exact wnt_n rfl; (with_reducible apply s_assign); exact rfl; dsimp only [Nat.reduceAdd, Nat.reduceMul, Nat.reduceSub, List.nil_append, List.cons_append, nbk, List.map_cons, List.map_nil]
   apply Trc.step rfl rfl; exact wnt_n rfl; (with_reducible apply s_assign); exact rfl; dsimp only [Nat.reduceAdd, Nat.reduceMul, Nat.reduceSub, List.nil_append, List.cons_append, nbk, List.map_cons, List.map_nil]
   exact Trc.done _ _ _; exact rfl; (with_reducible refine thn_n ?_); (with_reducible refine Gol.seq ?_); (with_reducible apply Gol.region); apply Trc.step rfl rfl
   exact wnt_n rfl; (with_reducible apply s_move); exact rfl; dsimp only [Nat.reduceAdd, Nat.reduceMul, Nat.reduceSub, List.nil_append, List.cons_append, nbk, List.map_cons, List.map_nil]
   apply Trc.step rfl rfl; exact wnt_n rfl; (with_reducible apply s_move); exact rfl; dsimp only [Nat.reduceAdd, Nat.reduceMul, Nat.reduceSub, List.nil_append, List.cons_append, nbk, List.map_cons, List.map_nil]
   apply Trc.step rfl rfl; exact wnt_n rfl; apply s_call (f := 17) rfl; apply evs.cons rfl; apply evs.cons rfl; exact evs.nil
   apply ArgL.cons; exact arg_sc1 rfl (by assumption); apply ArgL.cons; exact arg_clo; exact ArgL.nil; exact hB _ _; exact Nat.le_of_ble_eq_true rfl; dsimp only [Nat.reduceAdd, Nat.reduceMul, Nat.reduceSub, List.nil_append, List.cons_append, nbk, List.map_cons, List.map_nil]
   apply Trc.step rfl rfl; exact wnt_n rfl; (with_reducible apply s_move); exact rfl; dsimp only [Nat.reduceAdd, Nat.reduceMul, Nat.reduceSub, List.nil_append, List.cons_append, nbk, List.map_cons, List.map_nil]
   apply Trc.step rfl rfl; exact wnt_n rfl; (with_reducible apply s_extract); exact rfl; exact rfl; dsimp only [Nat.reduceAdd, Nat.reduceMul, Nat.reduceSub, List.nil_append, List.cons_append, nbk, List.map_cons, List.map_nil]
   apply Trc.step rfl rfl; exact wnt_n rfl; (with_reducible apply s_extract); exact rfl; exact rfl; dsimp only [Nat.reduceAdd, Nat.reduceMul, Nat.reduceSub, List.nil_append, List.cons_append, nbk, List.map_cons, List.map_nil]
   apply Trc.step rfl rfl; exact wnt_n rfl; (with_reducible apply s_assign); exact rfl; dsimp only [Nat.reduceAdd, Nat.reduceMul, Nat.reduceSub, List.nil_append, List.cons_append, nbk, List.map_cons, List.map_nil]
   apply Trc.step rfl rfl; exact wnt_n rfl; (with_reducible apply s_assign); exact rfl; dsimp only [Nat.reduceAdd, Nat.reduceMul, Nat.reduceSub, List.nil_append, List.cons_append, nbk, List.map_cons, List.map_nil]
   exact Trc.done _ _ _; exact rfl; (with_reducible refine thn_n ?_); (with_reducible refine Gol.seq ?_); (with_reducible refine Gol.seq ?_); (with_reducible apply Gol.region)
   apply Trc.step rfl rfl; exact wnt_n rfl; (with_reducible apply s_move); exact rfl; dsimp only [Nat.reduceAdd, Nat.reduceMul, Nat.reduceSub, List.nil_append, List.cons_append, nbk, List.map_cons, List.map_nil]
   apply Trc.step rfl rfl; exact wnt_n rfl; (with_reducible apply s_len); exact rfl; exact ln_sl; dsimp only [Nat.reduceAdd, Nat.reduceMul, Nat.reduceSub, List.nil_append, List.cons_append, nbk, List.map_cons, List.map_nil]
   apply Trc.step rfl rfl; exact wnt_n rfl; (with_reducible apply s_move); exact rfl; dsimp only [Nat.reduceAdd, Nat.reduceMul, Nat.reduceSub, List.nil_append, List.cons_append, nbk, List.map_cons, List.map_nil]
   apply Trc.step rfl rfl; exact wnt_n rfl; (with_reducible apply s_len); exact rfl; exact ln_ex; dsimp only [Nat.reduceAdd, Nat.reduceMul, Nat.reduceSub, List.nil_append, List.cons_append, nbk, List.map_cons, List.map_nil]
   apply Trc.step rfl rfl; exact wnt_n rfl; (with_reducible apply s_ltn); exact rfl; exact rfl; dsimp only [Nat.reduceAdd, Nat.reduceMul, Nat.reduceSub, List.nil_append, List.cons_append, nbk, List.map_cons, List.map_nil]
   apply Trc.step rfl rfl; exact wnt_n rfl; (with_reducible apply s_move); exact rfl; dsimp only [Nat.reduceAdd, Nat.reduceMul, Nat.reduceSub, List.nil_append, List.cons_append, nbk, List.map_cons, List.map_nil]
   apply Trc.step rfl rfl; apply wnt_g; exact rfl; exact rfl; exact rfl; (focus (simp only [*]; rfl)); (with_reducible apply s_move); exact rfl; dsimp only [Nat.reduceAdd, Nat.reduceMul, Nat.reduceSub, List.nil_append, List.cons_append, nbk, List.map_cons, List.map_nil]
   apply Trc.step rfl rfl; apply wnt_g; exact rfl; exact rfl; exact rfl; (focus (simp only [*]; rfl)); (with_reducible apply s_string); exact rfl; apply rd_sc rfl
   assumption; simp only [byA_length, List.length_append, List.length_cons, List.length_nil, List.length_take, List.length_drop, List.length_replicate, List.length_map, Nat.mul_one, nameB_length, flat_length, List.length_set, inA_length] <;> omega
   exact rfl; dsimp only [Nat.reduceAdd, Nat.reduceMul, Nat.reduceSub, List.nil_append, List.cons_append, nbk, List.map_cons, List.map_nil]; apply Trc.step rfl rfl
   apply wnt_g; exact rfl; exact rfl; exact rfl; (focus (simp only [*]; rfl)); (with_reducible apply s_move); exact rfl; dsimp only [Nat.reduceAdd, Nat.reduceMul, Nat.reduceSub, List.nil_append, List.cons_append, nbk, List.map_cons, List.map_nil]
   apply Trc.step rfl rfl; apply wnt_g; exact rfl; exact rfl; exact rfl; (focus (simp only [*]; rfl)); (with_reducible apply s_nes); exact rfl; exact rfl
   dsimp only [Nat.reduceAdd, Nat.reduceMul, Nat.reduceSub, List.nil_append, List.cons_append, nbk, List.map_cons, List.map_nil]; apply Trc.step rfl rfl
   exact wnt_n rfl; (with_reducible apply s_pick_f); exact rfl; (focus (simp only [*]; rfl)); exact rfl; dsimp only [Nat.reduceAdd, Nat.reduceMul, Nat.reduceSub, List.nil_append, List.cons_append, nbk, List.map_cons, List.map_nil]
   exact Trc.done _ _ _; exact rfl; (with_reducible refine thn_n ?_))
  refine Gol.cond_f rfl (by simp) ?_
  ((with_reducible refine Gol.skip ?_); (with_reducible refine thn_n ?_); (with_reducible refine Gol.seq ?_); (with_reducible refine Gol.seq ?_); (with_reducible apply Gol.region)
   apply Trc.step rfl rfl; exact wnt_n rfl; (with_reducible apply s_move); exact rfl; dsimp only [Nat.reduceAdd, Nat.reduceMul, Nat.reduceSub, List.nil_append, List.cons_append, nbk, List.map_cons, List.map_nil]
   apply Trc.step rfl rfl; exact wnt_n rfl; (with_reducible apply s_move); exact rfl; dsimp only [Nat.reduceAdd, Nat.reduceMul, Nat.reduceSub, List.nil_append, List.cons_append, nbk, List.map_cons, List.map_nil]
   apply Trc.step rfl rfl; exact wnt_n rfl; (with_reducible apply s_move); exact rfl; dsimp only [Nat.reduceAdd, Nat.reduceMul, Nat.reduceSub, List.nil_append, List.cons_append, nbk, List.map_cons, List.map_nil]
   apply Trc.step rfl rfl; exact wnt_n rfl; (with_reducible apply s_bld); exact rfl; (focus (dsimp only [splB, cuB, spl, cu, Value.cells, nameC, List.map, List.take, List.drop, List.append, List.length, List.cons_append, List.nil_append, Nat.reduceAdd, List.take_succ_cons, List.take_zero, List.drop_succ_cons, List.drop_zero, List.take_nil, List.drop_nil, List.append_nil, List.length_cons, List.length_nil]; done))
   dsimp only [Nat.reduceAdd, Nat.reduceMul, Nat.reduceSub, List.nil_append, List.cons_append, nbk, List.map_cons, List.map_nil]; apply Trc.step rfl rfl
   exact wnt_n rfl; (with_reducible apply s_move); exact rfl; dsimp only [Nat.reduceAdd, Nat.reduceMul, Nat.reduceSub, List.nil_append, List.cons_append, nbk, List.map_cons, List.map_nil]
   exact Trc.done _ _ _; exact rfl; (with_reducible refine thn_n ?_); (with_reducible refine Gol.block ?_))
  generalize clampW width = W at hw hlt
  have h1' : (bs ++ beB v W).length = n + W := by rw [List.length_append, beB_length, hn]
  generalize bs ++ beB v W = xs at h1'
  have hb1 : n + W ≤ 140737500000000 := by omega
  generalize n + W = n1 at h1' hb1
  have hrl : (bs ++ ms).length = n + m := by rw [List.length_append, hn, hm]
  generalize hrs : bs ++ ms = rs at hF hF0 hT hrl
  generalize hnr : n + m = nr at hF hrl
  clear hF0 hT
  generalize hcap : nr + 40 = cap
  generalize hys : o1 = ys at ho1
  generalize hzs : o2 = zs at ho2
  generalize hn2 : l1 = n2 at ho1 hl1
  generalize hn3 : l2 = n3 at ho2 hl2
  refine Gol.loop (ι := Nat) (fun c => c ≤ 3) (fun c => 3 - c) 400 (frH xs ys zs rs) (frT n1 n2 n3 nr cap rs) 0 (Nat.zero_le _) ?_ ?_
  · rw [show frH xs ys zs rs 0 = [(3, some ⟨byA xs, 5, 1⟩), (4, some ⟨byA ys, 5, 1⟩), (5, some ⟨byA zs, 5, 1⟩), (6, some ⟨byA rs, 5, 1⟩)] from rfl, show frT n1 n2 n3 nr cap rs 0 = [(71, .ag [.sl 3 n1, .sl 4 n2, .sl 5 n3]), (72, .v (.int .i64 ((0 : Nat) : Int))), (13, .sc 6 nr cap), (14, .v (.string (strB rs)))] from rfl]
    (apply Le.mk2' [(3, 192), (4, 224), (5, 288), (6, 56)]; apply RnT2.c; exact rfl; apply Rn2.ag; apply RnL.cons; exact Rn.sl rfl rfl; apply RnL.cons; exact Rn.sl rfl rfl
     apply RnL.cons; exact Rn.sl rfl rfl; exact RnL.nil; apply RnT2.c; exact rfl; apply Rn2.r; exact Rn.v rfl; apply RnT2.c; exact rfl; apply Rn2.r; exact Rn.sc rfl rfl rfl
     apply RnT2.c; exact rfl; apply Rn2.r; exact Rn.v rfl; exact RnT2.n; apply RnH.c; exact rfl; exact rfl; rfl; exact rfl; exact rfl; apply RnH.c; exact rfl
     exact rfl; rfl; exact rfl; exact rfl; apply RnH.c; exact rfl; exact rfl; rfl; exact rfl; exact rfl; apply RnH.c; exact rfl; exact rfl; rfl; exact rfl
     exact rfl; exact RnH.n; exact rfl)
  intro c hc
  rcases (show c = 0 ∨ c = 1 ∨ c = 2 ∨ c = 3 by omega) with rfl | rfl | rfl | rfl
  · rw [show frH xs ys zs rs 0 = [(3, some ⟨byA (xs), 5, 1⟩), (4, some ⟨byA (ys), 5, 1⟩), (5, some ⟨byA (zs), 5, 1⟩), (6, some ⟨byA rs, 5, 1⟩)] from rfl, show frT n1 n2 n3 nr cap rs 0 = [(71, .ag [.sl 3 n1, .sl 4 n2, .sl 5 n3]), (72, .v (.int .i64 ((0 : Nat) : Int))), (13, .sc 6 nr cap), (14, .v (.string (strB rs)))] from rfl]
    ((with_reducible refine Gol.seq ?_); (with_reducible apply Gol.region); apply Trc.step rfl rfl; exact wnt_n rfl; (with_reducible apply s_ltn); exact rfl
     exact rfl; dsimp only [Nat.reduceAdd, Nat.reduceMul, Nat.reduceSub, List.nil_append, List.cons_append, nbk, List.map_cons, List.map_nil]; exact Trc.done _ _ _
     exact rfl; (with_reducible refine thn_n ?_); (with_reducible refine Gol.seq ?_))
    refine Gol.cond_t rfl (by rfl) ?_
    ((with_reducible refine Gol.skip ?_); (with_reducible refine thn_n ?_); (with_reducible refine Gol.seq ?_); (with_reducible refine Gol.block ?_); (with_reducible refine Gol.seq ?_)
     (with_reducible apply Gol.region); apply Trc.step rfl rfl; exact wnt_n rfl; apply s_idxA; exact rfl; exact rfl; omega; exact rfl; dsimp only [Nat.reduceAdd, Nat.reduceMul, Nat.reduceSub, List.nil_append, List.cons_append, nbk, List.map_cons, List.map_nil]
     apply Trc.step rfl rfl; exact wnt_n rfl; (with_reducible apply s_assign); exact rfl; dsimp only [Nat.reduceAdd, Nat.reduceMul, Nat.reduceSub, List.nil_append, List.cons_append, nbk, List.map_cons, List.map_nil]
     exact Trc.done _ _ _; exact rfl; (with_reducible refine thn_n ?_); (with_reducible refine Gol.seq ?_); (with_reducible apply Gol.region); apply Trc.step rfl rfl
     exact wnt_n rfl; (with_reducible apply s_assign); exact rfl; dsimp only [Nat.reduceAdd, Nat.reduceMul, Nat.reduceSub, List.nil_append, List.cons_append, nbk, List.map_cons, List.map_nil]
     exact Trc.done _ _ _; exact rfl; (with_reducible refine thn_n ?_); (with_reducible refine Gol.block ?_))
    refine Gol.loop (ι := Nat) (fun i => i ≤ n1) (fun i => n1 - i) 400 (fun i => [(3, some ⟨byA (xorP xs i), 5, 1⟩), (4, some ⟨byA (ys), 5, 1⟩), (5, some ⟨byA (zs), 5, 1⟩), (6, some ⟨byA rs, 5, 1⟩)]) (fun i => [(22, .sl 3 n1), (23, .v (.int .i64 (i : Int))), (71, .ag [.sl 3 n1, .sl 4 n2, .sl 5 n3]), (72, .v (.int .i64 ((0 : Nat) : Int))), (13, .sc 6 nr cap), (14, .v (.string (strB rs)))]) 0 (Nat.zero_le _) ?_ ?_
    · rw [xorP_zero]
      (apply Le.mk2' []; apply RnT2.c; exact rfl; apply Rn2.r; exact Rn.sl rfl rfl; apply RnT2.c; exact rfl; apply Rn2.r; exact Rn.v rfl; apply RnT2.c; exact rfl
       apply Rn2.ag; apply RnL.cons; exact Rn.sl rfl rfl; apply RnL.cons; exact Rn.sl rfl rfl; apply RnL.cons; exact Rn.sl rfl rfl; exact RnL.nil; apply RnT2.c
       exact rfl; apply Rn2.r; exact Rn.v rfl; apply RnT2.c; exact rfl; apply Rn2.r; exact Rn.sc rfl rfl rfl; apply RnT2.c; exact rfl; apply Rn2.r; exact Rn.v rfl
       exact RnT2.n; apply RnH.c; exact rfl; exact rfl; rfl; exact rfl; exact rfl; apply RnH.c; exact rfl; exact rfl; rfl; exact rfl; exact rfl; apply RnH.c
       exact rfl; exact rfl; rfl; exact rfl; exact rfl; apply RnH.c; exact rfl; exact rfl; rfl; exact rfl; exact rfl; exact RnH.n; exact rfl)
    intro i hi
    have hxl := xorP_length xs i
    ((with_reducible refine Gol.seq ?_); (with_reducible refine Gol.seq ?_); (with_reducible apply Gol.region); apply Trc.step rfl rfl; exact wnt_n rfl; (with_reducible apply s_move)
     exact rfl; dsimp only [Nat.reduceAdd, Nat.reduceMul, Nat.reduceSub, List.nil_append, List.cons_append, nbk, List.map_cons, List.map_nil]; apply Trc.step rfl rfl
     exact wnt_n rfl; (with_reducible apply s_move); exact rfl; dsimp only [Nat.reduceAdd, Nat.reduceMul, Nat.reduceSub, List.nil_append, List.cons_append, nbk, List.map_cons, List.map_nil]
     apply Trc.step rfl rfl; exact wnt_n rfl; (with_reducible apply s_len); exact rfl; exact ln_sl; dsimp only [Nat.reduceAdd, Nat.reduceMul, Nat.reduceSub, List.nil_append, List.cons_append, nbk, List.map_cons, List.map_nil]
     apply Trc.step rfl rfl; exact wnt_n rfl; (with_reducible apply s_ltn); exact rfl; exact rfl; dsimp only [Nat.reduceAdd, Nat.reduceMul, Nat.reduceSub, List.nil_append, List.cons_append, nbk, List.map_cons, List.map_nil]
     exact Trc.done _ _ _; exact rfl; (with_reducible refine thn_n ?_))
    by_cases hlt : i < n1
    · refine Gol.cond_t rfl (by simp [hlt]) ?_
      have hst := xorP_step xs i (by omega)
      ((with_reducible refine Gol.skip ?_); (with_reducible refine thn_n ?_); (with_reducible refine Gol.seq ?_); (with_reducible refine Gol.block ?_); (with_reducible apply Gol.region)
       apply Trc.step rfl rfl; exact wnt_n rfl; (with_reducible apply s_move); exact rfl; dsimp only [Nat.reduceAdd, Nat.reduceMul, Nat.reduceSub, List.nil_append, List.cons_append, nbk, List.map_cons, List.map_nil]
       apply Trc.step rfl rfl; exact wnt_n rfl; (with_reducible apply s_move); exact rfl; dsimp only [Nat.reduceAdd, Nat.reduceMul, Nat.reduceSub, List.nil_append, List.cons_append, nbk, List.map_cons, List.map_nil]
       apply Trc.step rfl rfl; exact wnt_n rfl; (with_reducible apply s_ixl); exact rfl; exact rfl; exact rfl; omega; dsimp only [Nat.reduceAdd, Nat.reduceMul, Nat.reduceSub, List.nil_append, List.cons_append, nbk, List.map_cons, List.map_nil]
       apply Trc.step rfl rfl; exact wnt_n rfl; (with_reducible apply s_load); exact rfl; exact rfl; apply by_get; omega; dsimp only [Nat.reduceAdd, Nat.reduceMul, Nat.reduceSub, List.nil_append, List.cons_append, nbk, List.map_cons, List.map_nil]
       apply Trc.step rfl rfl; exact wnt_n rfl; apply s_xorB (b := 255); exact rfl; exact rfl; dsimp only [Nat.reduceAdd, Nat.reduceMul, Nat.reduceSub, List.nil_append, List.cons_append, nbk, List.map_cons, List.map_nil]
       apply Trc.step rfl rfl; exact wnt_n rfl; (with_reducible apply s_ixl); exact rfl; exact rfl; exact rfl; omega; dsimp only [Nat.reduceAdd, Nat.reduceMul, Nat.reduceSub, List.nil_append, List.cons_append, nbk, List.map_cons, List.map_nil]
       apply Trc.stepN rfl rfl; exact wnt_n rfl; (with_reducible apply s_store); exact rfl; exact rfl; exact rfl; exact rfl; rfl; simp only [byA_length, List.length_append, List.length_cons, List.length_nil, List.length_take, List.length_drop, List.length_replicate, List.length_map, Nat.mul_one, nameB_length, flat_length, List.length_set, inA_length] <;> omega
       dsimp only [Nat.reduceAdd, Nat.reduceMul, Nat.reduceSub, List.nil_append, List.cons_append, nbk, List.map_cons, List.map_nil]; exact Trc.done _ _ _; exact rfl
       (with_reducible refine inBlk_n ?_); (with_reducible refine thn_n ?_); (with_reducible apply Gol.region); apply Trc.step rfl rfl; exact wnt_n rfl; (with_reducible apply s_move)
       exact rfl; dsimp only [Nat.reduceAdd, Nat.reduceMul, Nat.reduceSub, List.nil_append, List.cons_append, nbk, List.map_cons, List.map_nil]; apply Trc.step rfl rfl
       exact wnt_n rfl; (with_reducible apply s_addn); exact rfl; exact rfl; simp <;> omega; dsimp only [Nat.reduceAdd, Nat.reduceMul, Nat.reduceSub, List.nil_append, List.cons_append, nbk, List.map_cons, List.map_nil]
       apply Trc.step rfl rfl; exact wnt_n rfl; (with_reducible apply s_assign); exact rfl; dsimp only [Nat.reduceAdd, Nat.reduceMul, Nat.reduceSub, List.nil_append, List.cons_append, nbk, List.map_cons, List.map_nil]
       exact Trc.done _ _ _; exact rfl)
      refine rnd_n (i + 1) (by omega) (by omega) ?_
      (apply Le.mk2' []; apply RnT2.c; exact rfl; apply Rn2.r; exact Rn.sl rfl rfl; apply RnT2.c; exact rfl; apply Rn2.r; exact Rn.v rfl; apply RnT2.c; exact rfl
       apply Rn2.ag; apply RnL.cons; exact Rn.sl rfl rfl; apply RnL.cons; exact Rn.sl rfl rfl; apply RnL.cons; exact Rn.sl rfl rfl; exact RnL.nil; apply RnT2.c
       exact rfl; apply Rn2.r; exact Rn.v rfl; apply RnT2.c; exact rfl; apply Rn2.r; exact Rn.sc rfl rfl rfl; apply RnT2.c; exact rfl; apply Rn2.r; exact Rn.v rfl
       exact RnT2.n; apply RnH.c; exact rfl; exact rfl; exact hst; exact rfl; exact rfl; apply RnH.c; exact rfl; exact rfl; rfl; exact rfl; exact rfl; apply RnH.c
       exact rfl; exact rfl; rfl; exact rfl; exact rfl; apply RnH.c; exact rfl; exact rfl; rfl; exact rfl; exact rfl; exact RnH.n; exact rfl)
    · obtain rfl : n1 = i := by omega
      refine Gol.cond_f rfl (by simp) ?_
      ((with_reducible refine Gol.exit ?_); (with_reducible refine thn_x ?_); (with_reducible refine rnd_x ?_); (with_reducible refine inBlk_hit ?_); (with_reducible refine inBlk_n ?_)
       (with_reducible refine thn_n ?_); (with_reducible apply Gol.region); apply Trc.step rfl rfl; exact wnt_n rfl; (with_reducible apply s_addn); exact rfl
       exact rfl; decide; dsimp only [Nat.reduceAdd, Nat.reduceMul, Nat.reduceSub, List.nil_append, List.cons_append, nbk, List.map_cons, List.map_nil]; apply Trc.step rfl rfl
       exact wnt_n rfl; (with_reducible apply s_move); exact rfl; dsimp only [Nat.reduceAdd, Nat.reduceMul, Nat.reduceSub, List.nil_append, List.cons_append, nbk, List.map_cons, List.map_nil]
       exact Trc.done _ _ _; exact rfl)
      refine rnd_n 1 (by omega) (by omega) ?_
      rw [show frH xs ys zs rs 1 = [(3, some ⟨byA (xorP xs xs.length), 5, 1⟩), (4, some ⟨byA (ys), 5, 1⟩), (5, some ⟨byA (zs), 5, 1⟩), (6, some ⟨byA rs, 5, 1⟩)] from rfl, show frT n1 n2 n3 nr cap rs 1 = [(71, .ag [.sl 3 n1, .sl 4 n2, .sl 5 n3]), (72, .v (.int .i64 ((1 : Nat) : Int))), (13, .sc 6 nr cap), (14, .v (.string (strB rs)))] from rfl]
      rw [h1']
      (apply Le.mk2' []; apply RnT2.c; exact rfl; apply Rn2.ag; apply RnL.cons; exact Rn.sl rfl rfl; apply RnL.cons; exact Rn.sl rfl rfl; apply RnL.cons; exact Rn.sl rfl rfl
       exact RnL.nil; apply RnT2.c; exact rfl; apply Rn2.r; exact Rn.v rfl; apply RnT2.c; exact rfl; apply Rn2.r; exact Rn.sc rfl rfl rfl; apply RnT2.c; exact rfl
       apply Rn2.r; exact Rn.v rfl; exact RnT2.n; apply RnH.c; exact rfl; exact rfl; rfl; exact rfl; exact rfl; apply RnH.c; exact rfl; exact rfl; rfl; exact rfl
       exact rfl; apply RnH.c; exact rfl; exact rfl; rfl; exact rfl; exact rfl; apply RnH.c; exact rfl; exact rfl; rfl; exact rfl; exact rfl; exact RnH.n; exact rfl)
  · rw [show frH xs ys zs rs 1 = [(3, some ⟨byA (xorP xs xs.length), 5, 1⟩), (4, some ⟨byA (ys), 5, 1⟩), (5, some ⟨byA (zs), 5, 1⟩), (6, some ⟨byA rs, 5, 1⟩)] from rfl, show frT n1 n2 n3 nr cap rs 1 = [(71, .ag [.sl 3 n1, .sl 4 n2, .sl 5 n3]), (72, .v (.int .i64 ((1 : Nat) : Int))), (13, .sc 6 nr cap), (14, .v (.string (strB rs)))] from rfl]
    ((with_reducible refine Gol.seq ?_); (with_reducible apply Gol.region); apply Trc.step rfl rfl; exact wnt_n rfl; (with_reducible apply s_ltn); exact rfl
     exact rfl; dsimp only [Nat.reduceAdd, Nat.reduceMul, Nat.reduceSub, List.nil_append, List.cons_append, nbk, List.map_cons, List.map_nil]; exact Trc.done _ _ _
     exact rfl; (with_reducible refine thn_n ?_); (with_reducible refine Gol.seq ?_))
    refine Gol.cond_t rfl (by rfl) ?_
    ((with_reducible refine Gol.skip ?_); (with_reducible refine thn_n ?_); (with_reducible refine Gol.seq ?_); (with_reducible refine Gol.block ?_); (with_reducible refine Gol.seq ?_)
     (with_reducible apply Gol.region); apply Trc.step rfl rfl; exact wnt_n rfl; apply s_idxA; exact rfl; exact rfl; omega; exact rfl; dsimp only [Nat.reduceAdd, Nat.reduceMul, Nat.reduceSub, List.nil_append, List.cons_append, nbk, List.map_cons, List.map_nil]
     apply Trc.step rfl rfl; exact wnt_n rfl; (with_reducible apply s_assign); exact rfl; dsimp only [Nat.reduceAdd, Nat.reduceMul, Nat.reduceSub, List.nil_append, List.cons_append, nbk, List.map_cons, List.map_nil]
     exact Trc.done _ _ _; exact rfl; (with_reducible refine thn_n ?_); (with_reducible refine Gol.seq ?_); (with_reducible apply Gol.region); apply Trc.step rfl rfl
     exact wnt_n rfl; (with_reducible apply s_assign); exact rfl; dsimp only [Nat.reduceAdd, Nat.reduceMul, Nat.reduceSub, List.nil_append, List.cons_append, nbk, List.map_cons, List.map_nil]
     exact Trc.done _ _ _; exact rfl; (with_reducible refine thn_n ?_); (with_reducible refine Gol.block ?_))
    refine Gol.loop (ι := Nat) (fun i => i ≤ n2) (fun i => n2 - i) 400 (fun i => [(3, some ⟨byA (xorP xs xs.length), 5, 1⟩), (4, some ⟨byA (xorP ys i), 5, 1⟩), (5, some ⟨byA (zs), 5, 1⟩), (6, some ⟨byA rs, 5, 1⟩)]) (fun i => [(22, .sl 4 n2), (23, .v (.int .i64 (i : Int))), (71, .ag [.sl 3 n1, .sl 4 n2, .sl 5 n3]), (72, .v (.int .i64 ((1 : Nat) : Int))), (13, .sc 6 nr cap), (14, .v (.string (strB rs)))]) 0 (Nat.zero_le _) ?_ ?_
    · rw [xorP_zero]
      (apply Le.mk2' []; apply RnT2.c; exact rfl; apply Rn2.r; exact Rn.sl rfl rfl; apply RnT2.c; exact rfl; apply Rn2.r; exact Rn.v rfl; apply RnT2.c; exact rfl
       apply Rn2.ag; apply RnL.cons; exact Rn.sl rfl rfl; apply RnL.cons; exact Rn.sl rfl rfl; apply RnL.cons; exact Rn.sl rfl rfl; exact RnL.nil; apply RnT2.c
       exact rfl; apply Rn2.r; exact Rn.v rfl; apply RnT2.c; exact rfl; apply Rn2.r; exact Rn.sc rfl rfl rfl; apply RnT2.c; exact rfl; apply Rn2.r; exact Rn.v rfl
       exact RnT2.n; apply RnH.c; exact rfl; exact rfl; rfl; exact rfl; exact rfl; apply RnH.c; exact rfl; exact rfl; rfl; exact rfl; exact rfl; apply RnH.c
       exact rfl; exact rfl; rfl; exact rfl; exact rfl; apply RnH.c; exact rfl; exact rfl; rfl; exact rfl; exact rfl; exact RnH.n; exact rfl)
    intro i hi
    have hxl := xorP_length ys i
    ((with_reducible refine Gol.seq ?_); (with_reducible refine Gol.seq ?_); (with_reducible apply Gol.region); apply Trc.step rfl rfl; exact wnt_n rfl; (with_reducible apply s_move)
     exact rfl; dsimp only [Nat.reduceAdd, Nat.reduceMul, Nat.reduceSub, List.nil_append, List.cons_append, nbk, List.map_cons, List.map_nil]; apply Trc.step rfl rfl
     exact wnt_n rfl; (with_reducible apply s_move); exact rfl; dsimp only [Nat.reduceAdd, Nat.reduceMul, Nat.reduceSub, List.nil_append, List.cons_append, nbk, List.map_cons, List.map_nil]
     apply Trc.step rfl rfl; exact wnt_n rfl; (with_reducible apply s_len); exact rfl; exact ln_sl; dsimp only [Nat.reduceAdd, Nat.reduceMul, Nat.reduceSub, List.nil_append, List.cons_append, nbk, List.map_cons, List.map_nil]
     apply Trc.step rfl rfl; exact wnt_n rfl; (with_reducible apply s_ltn); exact rfl; exact rfl; dsimp only [Nat.reduceAdd, Nat.reduceMul, Nat.reduceSub, List.nil_append, List.cons_append, nbk, List.map_cons, List.map_nil]
     exact Trc.done _ _ _; exact rfl; (with_reducible refine thn_n ?_))
    by_cases hlt : i < n2
    · refine Gol.cond_t rfl (by simp [hlt]) ?_
      have hst := xorP_step ys i (by omega)
      ((with_reducible refine Gol.skip ?_); (with_reducible refine thn_n ?_); (with_reducible refine Gol.seq ?_); (with_reducible refine Gol.block ?_); (with_reducible apply Gol.region)
       apply Trc.step rfl rfl; exact wnt_n rfl; (with_reducible apply s_move); exact rfl; dsimp only [Nat.reduceAdd, Nat.reduceMul, Nat.reduceSub, List.nil_append, List.cons_append, nbk, List.map_cons, List.map_nil]
       apply Trc.step rfl rfl; exact wnt_n rfl; (with_reducible apply s_move); exact rfl; dsimp only [Nat.reduceAdd, Nat.reduceMul, Nat.reduceSub, List.nil_append, List.cons_append, nbk, List.map_cons, List.map_nil]
       apply Trc.step rfl rfl; exact wnt_n rfl; (with_reducible apply s_ixl); exact rfl; exact rfl; exact rfl; omega; dsimp only [Nat.reduceAdd, Nat.reduceMul, Nat.reduceSub, List.nil_append, List.cons_append, nbk, List.map_cons, List.map_nil]
       apply Trc.step rfl rfl; exact wnt_n rfl; (with_reducible apply s_load); exact rfl; exact rfl; apply by_get; omega; dsimp only [Nat.reduceAdd, Nat.reduceMul, Nat.reduceSub, List.nil_append, List.cons_append, nbk, List.map_cons, List.map_nil]
       apply Trc.step rfl rfl; exact wnt_n rfl; apply s_xorB (b := 255); exact rfl; exact rfl; dsimp only [Nat.reduceAdd, Nat.reduceMul, Nat.reduceSub, List.nil_append, List.cons_append, nbk, List.map_cons, List.map_nil]
       apply Trc.step rfl rfl; exact wnt_n rfl; (with_reducible apply s_ixl); exact rfl; exact rfl; exact rfl; omega; dsimp only [Nat.reduceAdd, Nat.reduceMul, Nat.reduceSub, List.nil_append, List.cons_append, nbk, List.map_cons, List.map_nil]
       apply Trc.stepN rfl rfl; exact wnt_n rfl; (with_reducible apply s_store); exact rfl; exact rfl; exact rfl; exact rfl; rfl; simp only [byA_length, List.length_append, List.length_cons, List.length_nil, List.length_take, List.length_drop, List.length_replicate, List.length_map, Nat.mul_one, nameB_length, flat_length, List.length_set, inA_length] <;> omega
       dsimp only [Nat.reduceAdd, Nat.reduceMul, Nat.reduceSub, List.nil_append, List.cons_append, nbk, List.map_cons, List.map_nil]; exact Trc.done _ _ _; exact rfl
       (with_reducible refine inBlk_n ?_); (with_reducible refine thn_n ?_); (with_reducible apply Gol.region); apply Trc.step rfl rfl; exact wnt_n rfl; (with_reducible apply s_move)
       exact rfl; dsimp only [Nat.reduceAdd, Nat.reduceMul, Nat.reduceSub, List.nil_append, List.cons_append, nbk, List.map_cons, List.map_nil]; apply Trc.step rfl rfl
       exact wnt_n rfl; (with_reducible apply s_addn); exact rfl; exact rfl; simp <;> omega; dsimp only [Nat.reduceAdd, Nat.reduceMul, Nat.reduceSub, List.nil_append, List.cons_append, nbk, List.map_cons, List.map_nil]
       apply Trc.step rfl rfl; exact wnt_n rfl; (with_reducible apply s_assign); exact rfl; dsimp only [Nat.reduceAdd, Nat.reduceMul, Nat.reduceSub, List.nil_append, List.cons_append, nbk, List.map_cons, List.map_nil]
       exact Trc.done _ _ _; exact rfl)
      refine rnd_n (i + 1) (by omega) (by omega) ?_
      (apply Le.mk2' []; apply RnT2.c; exact rfl; apply Rn2.r; exact Rn.sl rfl rfl; apply RnT2.c; exact rfl; apply Rn2.r; exact Rn.v rfl; apply RnT2.c; exact rfl
       apply Rn2.ag; apply RnL.cons; exact Rn.sl rfl rfl; apply RnL.cons; exact Rn.sl rfl rfl; apply RnL.cons; exact Rn.sl rfl rfl; exact RnL.nil; apply RnT2.c
       exact rfl; apply Rn2.r; exact Rn.v rfl; apply RnT2.c; exact rfl; apply Rn2.r; exact Rn.sc rfl rfl rfl; apply RnT2.c; exact rfl; apply Rn2.r; exact Rn.v rfl
       exact RnT2.n; apply RnH.c; exact rfl; exact rfl; rfl; exact rfl; exact rfl; apply RnH.c; exact rfl; exact rfl; exact hst; exact rfl; exact rfl; apply RnH.c
       exact rfl; exact rfl; rfl; exact rfl; exact rfl; apply RnH.c; exact rfl; exact rfl; rfl; exact rfl; exact rfl; exact RnH.n; exact rfl)
    · obtain rfl : n2 = i := by omega
      refine Gol.cond_f rfl (by simp) ?_
      ((with_reducible refine Gol.exit ?_); (with_reducible refine thn_x ?_); (with_reducible refine rnd_x ?_); (with_reducible refine inBlk_hit ?_); (with_reducible refine inBlk_n ?_)
       (with_reducible refine thn_n ?_); (with_reducible apply Gol.region); apply Trc.step rfl rfl; exact wnt_n rfl; (with_reducible apply s_addn); exact rfl
       exact rfl; decide; dsimp only [Nat.reduceAdd, Nat.reduceMul, Nat.reduceSub, List.nil_append, List.cons_append, nbk, List.map_cons, List.map_nil]; apply Trc.step rfl rfl
       exact wnt_n rfl; (with_reducible apply s_move); exact rfl; dsimp only [Nat.reduceAdd, Nat.reduceMul, Nat.reduceSub, List.nil_append, List.cons_append, nbk, List.map_cons, List.map_nil]
       exact Trc.done _ _ _; exact rfl)
      refine rnd_n 2 (by omega) (by omega) ?_
      rw [show frH xs ys zs rs 2 = [(3, some ⟨byA (xorP xs xs.length), 5, 1⟩), (4, some ⟨byA (xorP ys ys.length), 5, 1⟩), (5, some ⟨byA (zs), 5, 1⟩), (6, some ⟨byA rs, 5, 1⟩)] from rfl, show frT n1 n2 n3 nr cap rs 2 = [(71, .ag [.sl 3 n1, .sl 4 n2, .sl 5 n3]), (72, .v (.int .i64 ((2 : Nat) : Int))), (13, .sc 6 nr cap), (14, .v (.string (strB rs)))] from rfl]
      rw [ho1]
      (apply Le.mk2' []; apply RnT2.c; exact rfl; apply Rn2.ag; apply RnL.cons; exact Rn.sl rfl rfl; apply RnL.cons; exact Rn.sl rfl rfl; apply RnL.cons; exact Rn.sl rfl rfl
       exact RnL.nil; apply RnT2.c; exact rfl; apply Rn2.r; exact Rn.v rfl; apply RnT2.c; exact rfl; apply Rn2.r; exact Rn.sc rfl rfl rfl; apply RnT2.c; exact rfl
       apply Rn2.r; exact Rn.v rfl; exact RnT2.n; apply RnH.c; exact rfl; exact rfl; rfl; exact rfl; exact rfl; apply RnH.c; exact rfl; exact rfl; rfl; exact rfl
       exact rfl; apply RnH.c; exact rfl; exact rfl; rfl; exact rfl; exact rfl; apply RnH.c; exact rfl; exact rfl; rfl; exact rfl; exact rfl; exact RnH.n; exact rfl)
  · rw [show frH xs ys zs rs 2 = [(3, some ⟨byA (xorP xs xs.length), 5, 1⟩), (4, some ⟨byA (xorP ys ys.length), 5, 1⟩), (5, some ⟨byA (zs), 5, 1⟩), (6, some ⟨byA rs, 5, 1⟩)] from rfl, show frT n1 n2 n3 nr cap rs 2 = [(71, .ag [.sl 3 n1, .sl 4 n2, .sl 5 n3]), (72, .v (.int .i64 ((2 : Nat) : Int))), (13, .sc 6 nr cap), (14, .v (.string (strB rs)))] from rfl]
    ((with_reducible refine Gol.seq ?_); (with_reducible apply Gol.region); apply Trc.step rfl rfl; exact wnt_n rfl; (with_reducible apply s_ltn); exact rfl
     exact rfl; dsimp only [Nat.reduceAdd, Nat.reduceMul, Nat.reduceSub, List.nil_append, List.cons_append, nbk, List.map_cons, List.map_nil]; exact Trc.done _ _ _
     exact rfl; (with_reducible refine thn_n ?_); (with_reducible refine Gol.seq ?_))
    refine Gol.cond_t rfl (by rfl) ?_
    ((with_reducible refine Gol.skip ?_); (with_reducible refine thn_n ?_); (with_reducible refine Gol.seq ?_); (with_reducible refine Gol.block ?_); (with_reducible refine Gol.seq ?_)
     (with_reducible apply Gol.region); apply Trc.step rfl rfl; exact wnt_n rfl; apply s_idxA; exact rfl; exact rfl; omega; exact rfl; dsimp only [Nat.reduceAdd, Nat.reduceMul, Nat.reduceSub, List.nil_append, List.cons_append, nbk, List.map_cons, List.map_nil]
     apply Trc.step rfl rfl; exact wnt_n rfl; (with_reducible apply s_assign); exact rfl; dsimp only [Nat.reduceAdd, Nat.reduceMul, Nat.reduceSub, List.nil_append, List.cons_append, nbk, List.map_cons, List.map_nil]
     exact Trc.done _ _ _; exact rfl; (with_reducible refine thn_n ?_); (with_reducible refine Gol.seq ?_); (with_reducible apply Gol.region); apply Trc.step rfl rfl
     exact wnt_n rfl; (with_reducible apply s_assign); exact rfl; dsimp only [Nat.reduceAdd, Nat.reduceMul, Nat.reduceSub, List.nil_append, List.cons_append, nbk, List.map_cons, List.map_nil]
     exact Trc.done _ _ _; exact rfl; (with_reducible refine thn_n ?_); (with_reducible refine Gol.block ?_))
    refine Gol.loop (ι := Nat) (fun i => i ≤ n3) (fun i => n3 - i) 400 (fun i => [(3, some ⟨byA (xorP xs xs.length), 5, 1⟩), (4, some ⟨byA (xorP ys ys.length), 5, 1⟩), (5, some ⟨byA (xorP zs i), 5, 1⟩), (6, some ⟨byA rs, 5, 1⟩)]) (fun i => [(22, .sl 5 n3), (23, .v (.int .i64 (i : Int))), (71, .ag [.sl 3 n1, .sl 4 n2, .sl 5 n3]), (72, .v (.int .i64 ((2 : Nat) : Int))), (13, .sc 6 nr cap), (14, .v (.string (strB rs)))]) 0 (Nat.zero_le _) ?_ ?_
    · rw [xorP_zero]
      (apply Le.mk2' []; apply RnT2.c; exact rfl; apply Rn2.r; exact Rn.sl rfl rfl; apply RnT2.c; exact rfl; apply Rn2.r; exact Rn.v rfl; apply RnT2.c; exact rfl
       apply Rn2.ag; apply RnL.cons; exact Rn.sl rfl rfl; apply RnL.cons; exact Rn.sl rfl rfl; apply RnL.cons; exact Rn.sl rfl rfl; exact RnL.nil; apply RnT2.c
       exact rfl; apply Rn2.r; exact Rn.v rfl; apply RnT2.c; exact rfl; apply Rn2.r; exact Rn.sc rfl rfl rfl; apply RnT2.c; exact rfl; apply Rn2.r; exact Rn.v rfl
       exact RnT2.n; apply RnH.c; exact rfl; exact rfl; rfl; exact rfl; exact rfl; apply RnH.c; exact rfl; exact rfl; rfl; exact rfl; exact rfl; apply RnH.c
       exact rfl; exact rfl; rfl; exact rfl; exact rfl; apply RnH.c; exact rfl; exact rfl; rfl; exact rfl; exact rfl; exact RnH.n; exact rfl)
    intro i hi
    have hxl := xorP_length zs i
    ((with_reducible refine Gol.seq ?_); (with_reducible refine Gol.seq ?_); (with_reducible apply Gol.region); apply Trc.step rfl rfl; exact wnt_n rfl; (with_reducible apply s_move)
     exact rfl; dsimp only [Nat.reduceAdd, Nat.reduceMul, Nat.reduceSub, List.nil_append, List.cons_append, nbk, List.map_cons, List.map_nil]; apply Trc.step rfl rfl
     exact wnt_n rfl; (with_reducible apply s_move); exact rfl; dsimp only [Nat.reduceAdd, Nat.reduceMul, Nat.reduceSub, List.nil_append, List.cons_append, nbk, List.map_cons, List.map_nil]
     apply Trc.step rfl rfl; exact wnt_n rfl; (with_reducible apply s_len); exact rfl; exact ln_sl; dsimp only [Nat.reduceAdd, Nat.reduceMul, Nat.reduceSub, List.nil_append, List.cons_append, nbk, List.map_cons, List.map_nil]
     apply Trc.step rfl rfl; exact wnt_n rfl; (with_reducible apply s_ltn); exact rfl; exact rfl; dsimp only [Nat.reduceAdd, Nat.reduceMul, Nat.reduceSub, List.nil_append, List.cons_append, nbk, List.map_cons, List.map_nil]
     exact Trc.done _ _ _; exact rfl; (with_reducible refine thn_n ?_))
    by_cases hlt : i < n3
    · refine Gol.cond_t rfl (by simp [hlt]) ?_
      have hst := xorP_step zs i (by omega)
      ((with_reducible refine Gol.skip ?_); (with_reducible refine thn_n ?_); (with_reducible refine Gol.seq ?_); (with_reducible refine Gol.block ?_); (with_reducible apply Gol.region)
       apply Trc.step rfl rfl; exact wnt_n rfl; (with_reducible apply s_move); exact rfl; dsimp only [Nat.reduceAdd, Nat.reduceMul, Nat.reduceSub, List.nil_append, List.cons_append, nbk, List.map_cons, List.map_nil]
       apply Trc.step rfl rfl; exact wnt_n rfl; (with_reducible apply s_move); exact rfl; dsimp only [Nat.reduceAdd, Nat.reduceMul, Nat.reduceSub, List.nil_append, List.cons_append, nbk, List.map_cons, List.map_nil]
       apply Trc.step rfl rfl; exact wnt_n rfl; (with_reducible apply s_ixl); exact rfl; exact rfl; exact rfl; omega; dsimp only [Nat.reduceAdd, Nat.reduceMul, Nat.reduceSub, List.nil_append, List.cons_append, nbk, List.map_cons, List.map_nil]
       apply Trc.step rfl rfl; exact wnt_n rfl; (with_reducible apply s_load); exact rfl; exact rfl; apply by_get; omega; dsimp only [Nat.reduceAdd, Nat.reduceMul, Nat.reduceSub, List.nil_append, List.cons_append, nbk, List.map_cons, List.map_nil]
       apply Trc.step rfl rfl; exact wnt_n rfl; apply s_xorB (b := 255); exact rfl; exact rfl; dsimp only [Nat.reduceAdd, Nat.reduceMul, Nat.reduceSub, List.nil_append, List.cons_append, nbk, List.map_cons, List.map_nil]
       apply Trc.step rfl rfl; exact wnt_n rfl; (with_reducible apply s_ixl); exact rfl; exact rfl; exact rfl; omega; dsimp only [Nat.reduceAdd, Nat.reduceMul, Nat.reduceSub, List.nil_append, List.cons_append, nbk, List.map_cons, List.map_nil]
       apply Trc.stepN rfl rfl; exact wnt_n rfl; (with_reducible apply s_store); exact rfl; exact rfl; exact rfl; exact rfl; rfl; simp only [byA_length, List.length_append, List.length_cons, List.length_nil, List.length_take, List.length_drop, List.length_replicate, List.length_map, Nat.mul_one, nameB_length, flat_length, List.length_set, inA_length] <;> omega
       dsimp only [Nat.reduceAdd, Nat.reduceMul, Nat.reduceSub, List.nil_append, List.cons_append, nbk, List.map_cons, List.map_nil]; exact Trc.done _ _ _; exact rfl
       (with_reducible refine inBlk_n ?_); (with_reducible refine thn_n ?_); (with_reducible apply Gol.region); apply Trc.step rfl rfl; exact wnt_n rfl; (with_reducible apply s_move)
       exact rfl; dsimp only [Nat.reduceAdd, Nat.reduceMul, Nat.reduceSub, List.nil_append, List.cons_append, nbk, List.map_cons, List.map_nil]; apply Trc.step rfl rfl
       exact wnt_n rfl; (with_reducible apply s_addn); exact rfl; exact rfl; simp <;> omega; dsimp only [Nat.reduceAdd, Nat.reduceMul, Nat.reduceSub, List.nil_append, List.cons_append, nbk, List.map_cons, List.map_nil]
       apply Trc.step rfl rfl; exact wnt_n rfl; (with_reducible apply s_assign); exact rfl; dsimp only [Nat.reduceAdd, Nat.reduceMul, Nat.reduceSub, List.nil_append, List.cons_append, nbk, List.map_cons, List.map_nil]
       exact Trc.done _ _ _; exact rfl)
      refine rnd_n (i + 1) (by omega) (by omega) ?_
      (apply Le.mk2' []; apply RnT2.c; exact rfl; apply Rn2.r; exact Rn.sl rfl rfl; apply RnT2.c; exact rfl; apply Rn2.r; exact Rn.v rfl; apply RnT2.c; exact rfl
       apply Rn2.ag; apply RnL.cons; exact Rn.sl rfl rfl; apply RnL.cons; exact Rn.sl rfl rfl; apply RnL.cons; exact Rn.sl rfl rfl; exact RnL.nil; apply RnT2.c
       exact rfl; apply Rn2.r; exact Rn.v rfl; apply RnT2.c; exact rfl; apply Rn2.r; exact Rn.sc rfl rfl rfl; apply RnT2.c; exact rfl; apply Rn2.r; exact Rn.v rfl
       exact RnT2.n; apply RnH.c; exact rfl; exact rfl; rfl; exact rfl; exact rfl; apply RnH.c; exact rfl; exact rfl; rfl; exact rfl; exact rfl; apply RnH.c
       exact rfl; exact rfl; exact hst; exact rfl; exact rfl; apply RnH.c; exact rfl; exact rfl; rfl; exact rfl; exact rfl; exact RnH.n; exact rfl)
    · obtain rfl : n3 = i := by omega
      refine Gol.cond_f rfl (by simp) ?_
      ((with_reducible refine Gol.exit ?_); (with_reducible refine thn_x ?_); (with_reducible refine rnd_x ?_); (with_reducible refine inBlk_hit ?_); (with_reducible refine inBlk_n ?_)
       (with_reducible refine thn_n ?_); (with_reducible apply Gol.region); apply Trc.step rfl rfl; exact wnt_n rfl; (with_reducible apply s_addn); exact rfl
       exact rfl; decide; dsimp only [Nat.reduceAdd, Nat.reduceMul, Nat.reduceSub, List.nil_append, List.cons_append, nbk, List.map_cons, List.map_nil]; apply Trc.step rfl rfl
       exact wnt_n rfl; (with_reducible apply s_move); exact rfl; dsimp only [Nat.reduceAdd, Nat.reduceMul, Nat.reduceSub, List.nil_append, List.cons_append, nbk, List.map_cons, List.map_nil]
       exact Trc.done _ _ _; exact rfl)
      refine rnd_n 3 (by omega) (by omega) ?_
      rw [show frH xs ys zs rs 3 = [(3, some ⟨byA (xorP xs xs.length), 5, 1⟩), (4, some ⟨byA (xorP ys ys.length), 5, 1⟩), (5, some ⟨byA (xorP zs zs.length), 5, 1⟩), (6, some ⟨byA rs, 5, 1⟩)] from rfl, show frT n1 n2 n3 nr cap rs 3 = [(71, .ag [.sl 3 n1, .sl 4 n2, .sl 5 n3]), (72, .v (.int .i64 ((3 : Nat) : Int))), (13, .sc 6 nr cap), (14, .v (.string (strB rs)))] from rfl]
      rw [ho2]
      (apply Le.mk2' []; apply RnT2.c; exact rfl; apply Rn2.ag; apply RnL.cons; exact Rn.sl rfl rfl; apply RnL.cons; exact Rn.sl rfl rfl; apply RnL.cons; exact Rn.sl rfl rfl
       exact RnL.nil; apply RnT2.c; exact rfl; apply Rn2.r; exact Rn.v rfl; apply RnT2.c; exact rfl; apply Rn2.r; exact Rn.sc rfl rfl rfl; apply RnT2.c; exact rfl
       apply Rn2.r; exact Rn.v rfl; exact RnT2.n; apply RnH.c; exact rfl; exact rfl; rfl; exact rfl; exact rfl; apply RnH.c; exact rfl; exact rfl; rfl; exact rfl
       exact rfl; apply RnH.c; exact rfl; exact rfl; rfl; exact rfl; exact rfl; apply RnH.c; exact rfl; exact rfl; rfl; exact rfl; exact rfl; exact RnH.n; exact rfl)
  · rw [show frH xs ys zs rs 3 = [(3, some ⟨byA (xorP xs xs.length), 5, 1⟩), (4, some ⟨byA (xorP ys ys.length), 5, 1⟩), (5, some ⟨byA (xorP zs zs.length), 5, 1⟩), (6, some ⟨byA rs, 5, 1⟩)] from rfl, show frT n1 n2 n3 nr cap rs 3 = [(71, .ag [.sl 3 n1, .sl 4 n2, .sl 5 n3]), (72, .v (.int .i64 ((3 : Nat) : Int))), (13, .sc 6 nr cap), (14, .v (.string (strB rs)))] from rfl]
    ((with_reducible refine Gol.seq ?_); (with_reducible apply Gol.region); apply Trc.step rfl rfl; exact wnt_n rfl; (with_reducible apply s_ltn); exact rfl
     exact rfl; dsimp only [Nat.reduceAdd, Nat.reduceMul, Nat.reduceSub, List.nil_append, List.cons_append, nbk, List.map_cons, List.map_nil]; exact Trc.done _ _ _
     exact rfl; (with_reducible refine thn_n ?_); (with_reducible refine Gol.seq ?_))
    refine Gol.cond_f rfl (by rfl) ?_
    have hself : (rs == rs) = true := by simp
    ((with_reducible refine Gol.exit ?_); (with_reducible refine thn_x ?_); (with_reducible refine rnd_x ?_); (with_reducible refine inBlk_hit ?_); (with_reducible refine thn_n ?_)
     (with_reducible refine Gol.seq ?_); (with_reducible apply Gol.region); apply Trc.step rfl rfl; exact wnt_n rfl; (with_reducible apply s_move); exact rfl
     dsimp only [Nat.reduceAdd, Nat.reduceMul, Nat.reduceSub, List.nil_append, List.cons_append, nbk, List.map_cons, List.map_nil]; apply Trc.step rfl rfl
     exact wnt_n rfl; (with_reducible apply s_string); exact rfl; apply rd_sc rfl; assumption; simp only [byA_length, List.length_append, List.length_cons, List.length_nil, List.length_take, List.length_drop, List.length_replicate, List.length_map, Nat.mul_one, nameB_length, flat_length, List.length_set, inA_length] <;> omega
     exact rfl; dsimp only [Nat.reduceAdd, Nat.reduceMul, Nat.reduceSub, List.nil_append, List.cons_append, nbk, List.map_cons, List.map_nil]; apply Trc.step rfl rfl
     exact wnt_n rfl; (with_reducible apply s_move); exact rfl; dsimp only [Nat.reduceAdd, Nat.reduceMul, Nat.reduceSub, List.nil_append, List.cons_append, nbk, List.map_cons, List.map_nil]
     apply Trc.step rfl rfl; exact wnt_n rfl; (with_reducible apply s_eqs); exact rfl; exact rfl; dsimp only [Nat.reduceAdd, Nat.reduceMul, Nat.reduceSub, List.nil_append, List.cons_append, nbk, List.map_cons, List.map_nil]
     apply Trc.step rfl rfl; exact wnt_n rfl; (with_reducible apply s_move); exact rfl; dsimp only [Nat.reduceAdd, Nat.reduceMul, Nat.reduceSub, List.nil_append, List.cons_append, nbk, List.map_cons, List.map_nil]
     apply Trc.step rfl rfl; apply wnt_g; exact rfl; exact rfl; exact rfl; (focus (simp only [*]; rfl)); apply s_call (f := 9) rfl
     exact evs.nil; exact ArgL.nil; exact awake2_ok; exact Nat.le_of_ble_eq_true rfl; dsimp only [Nat.reduceAdd, Nat.reduceMul, Nat.reduceSub, List.nil_append, List.cons_append, nbk, List.map_cons, List.map_nil]
     apply Trc.step rfl rfl; exact wnt_n rfl; (with_reducible apply s_pick_t); exact rfl; assumption; exact rfl; dsimp only [Nat.reduceAdd, Nat.reduceMul, Nat.reduceSub, List.nil_append, List.cons_append, nbk, List.map_cons, List.map_nil]
     apply Trc.step rfl rfl; exact wnt_n rfl; (with_reducible apply s_assign); exact rfl; dsimp only [Nat.reduceAdd, Nat.reduceMul, Nat.reduceSub, List.nil_append, List.cons_append, nbk, List.map_cons, List.map_nil]
     exact Trc.done _ _ _; exact rfl; (with_reducible refine thn_n ?_); (with_reducible refine Gol.ret ?_))
    (apply RetQ.mk (by first | exact .inr rfl | exact .inl rfl); apply res_1 rfl; exact res_tmp rfl; exact out_val)
end Go.Proofs.Ytnghcfjejgdnlaa
