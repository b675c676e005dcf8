/-
  Layer 3, merkle, and the reference: Path, Follow, Verify. Conditions: lengths below 2^26.
-/
import Derived.Test.YtocmcoknmjojcaaMrk
set_option linter.unusedSimpArgs false
set_option linter.unusedVariables false
namespace Go.Proofs.Ytocmcoknmjojcaa
open Go.RowKit

/-- a nil result, told as an empty slice of one's own -/
theorem Fresh.nilTp {P : Program} {f : FuncId} {cs us : List AV} (e : TypeId) (sz : Nat) (h : Fresh P f cs (fun _ => .tp (.v (.slice none 0 0) :: us)) []) : Fresh P f cs (fun k => .tp (.sl k 0 :: us)) [⟨[], e, sz⟩] := fun E0 xs hS hD hx => (h E0 xs hS hD hx).mono (by
  rintro en w' ⟨x, ls, rfl, h1, _, _, h4⟩
  refine ⟨x, fun _ => ⟨none, 0⟩, rfl, h1, fun j g _ hg => (by cases hg), fun i j g _ _ hg => (by cases hg), fun k E' hw hS' hD' => ⟨fun j blk hj => ?_, ?_⟩⟩
  · cases j with
    | zero => simp at hj; subst hj; exact .mk_none rfl ⟨rfl, rfl⟩
    | succ j => simp at hj
  · have hr := (h4 k E' hw (fun g hg => by
      rcases hS' g hg with h | ⟨j, _, h⟩
      · exact .inl h
      · cases h) (fun j hj => by simp at hj)).2
    obtain ⟨d1, d2⟩ := hD' 0 (by simp)
    simp only [Nat.add_zero] at d1 d2
    cases hr with
    | tp cs xs hl hx =>
      have hR : RVs E' (.v (.slice none 0 0) :: us) xs.toList := ⟨by simpa using hl, fun j c x hc hx' => hx j c x hc (by simpa using hx')⟩
      obtain ⟨y, ys, hy, r1, r2⟩ := hR.cons_inv
      have hs : RV E' (.sl k 0) (.slice ((E'.L k).g.map fun g => ⟨g, 0, none⟩) 0 (E'.L k).c) := .sl k 0 d1 (Nat.zero_le _)
      rw [d2] at hs
      rw [r1.v_inv] at hy
      have := RVs.cons hs r2
      simp only [Option.map_none] at this
      rw [← hy] at this
      exact .tp _ xs (by simpa using hl) (fun j c x hc hx => this.2 j c x hc (by simpa using hx)))
theorem Fresh.nilV {P : Program} {f : FuncId} {cs : List AV} (e : TypeId) (sz : Nat) (h : Fresh P f cs (fun _ => .v (.slice none 0 0)) []) : Fresh P f cs (fun k => .sl k 0) [⟨[], e, sz⟩] := fun E0 xs hS hD hx => (h E0 xs hS hD hx).mono (by
  rintro en w' ⟨x, ls, rfl, h1, _, _, h4⟩
  refine ⟨x, fun _ => ⟨none, 0⟩, rfl, h1, fun j g _ hg => (by cases hg), fun i j g _ _ hg => (by cases hg), fun k E' hw hS' hD' => ⟨fun j blk hj => ?_, ?_⟩⟩
  · cases j with
    | zero => simp at hj; subst hj; exact .mk_none rfl ⟨rfl, rfl⟩
    | succ j => simp at hj
  · have hr := (h4 k E' hw (fun g hg => by
      rcases hS' g hg with h | ⟨j, _, h⟩
      · exact .inl h
      · cases h) (fun j hj => by simp at hj)).2
    obtain ⟨d1, d2⟩ := hD' 0 (by simp)
    simp only [Nat.add_zero] at d1 d2
    have hs : RV E' (.sl k 0) (.slice ((E'.L k).g.map fun g => ⟨g, 0, none⟩) 0 (E'.L k).c) := .sl k 0 d1 (Nat.zero_le _)
    rw [d2] at hs
    rw [hr.v_inv]
    exact hs)
theorem grow_eq {p : List UInt64} {d : Nat} (hp : p.length = d) {r : UInt64} : List.take ((d - 0) * 8) (List.drop 0 (byA (flat p))) ++ (cu (.v (.agg (nameC r))) ++ []) = byA (flat (p ++ [r])) := by
  rw [seg_lo, List.take_of_length_le (by omega), List.append_nil, cu_name, ← byA_append, flat_append, flat_one]
theorem grow_eq2 {p : List UInt64} {r : UInt64} : byA (flat p) ++ (cu (.v (.agg (nameC r))) ++ []) = byA (flat (p ++ [r])) := by
  rw [List.append_nil, cu_name, ← byA_append, flat_append, flat_one]
section
variable (S : List UInt8 → UInt64)
def pathN (l : List UInt64) (i : Nat) : List UInt64 := if h : 2 ≤ l.length then (if i < splitN l.length then pathN (l.take (splitN l.length)) i ++ [rootN S (l.drop (splitN l.length))] else pathN (l.drop (splitN l.length)) (i - splitN l.length) ++ [rootN S (l.take (splitN l.length))]) else []
termination_by l.length
decreasing_by
  · exact take_lt h
  · exact drop_lt h
theorem path_lo {l : List UInt64} {i n : Nat} (hl : l.length = n) (h : 2 ≤ n) (hi : i < splitN n) : pathN S l i = pathN S (l.take (splitN n)) i ++ [rootN S (l.drop (splitN n))] := by subst hl; rw [pathN, dif_pos h, if_pos hi]
theorem path_hi {l : List UInt64} {i n : Nat} (hl : l.length = n) (h : 2 ≤ n) (hi : ¬ i < splitN n) : pathN S l i = pathN S (l.drop (splitN n)) (i - splitN n) ++ [rootN S (l.take (splitN n))] := by subst hl; rw [pathN, dif_pos h, if_neg hi]
theorem path_one {l : List UInt64} {i n : Nat} (hl : l.length = n) (h : ¬ 2 ≤ n) : pathN S l i = [] := by subst hl; rw [pathN, dif_neg h]
theorem path_len : ∀ (n : Nat) (l : List UInt64) (i : Nat), l.length = n → (pathN S l i).length = depN i n := by
  intro n
  induction n using Nat.strongRecOn with
  | _ n ih =>
    intro l i hl
    by_cases h2 : 2 ≤ n
    · have hsp := split_bd n h2
      by_cases hi : i < splitN n
      · rw [path_lo S hl h2 hi, dep_lo h2 hi, List.length_append, ih _ hsp.2.1 _ i (by simp; omega)]; rfl
      · rw [path_hi S hl h2 hi, dep_hi h2 hi, List.length_append, ih (n - splitN n) (by omega) _ _ (by simp; omega)]; rfl
    · rw [path_one S hl h2, dep_one h2]; rfl
variable (hS : HashF S)
include hS
theorem climb_ok (n : Nat) : ∀ (l : List UInt64) (i : Nat) (f : Bool), l.length = n → i < n → n ≤ 100000000 → Fresh Try.prog 34 [.ex n f (byA (flat l)), .v (.int .i64 (i : Int))] (fun k => .sl k (depN i n)) [⟨byA (flat (pathN S l i)), 26, 8⟩] := by
  induction n using Nat.strongRecOn with
  | _ n ih =>
    intro l i f hl hi hb
    by_cases h1 : n = 1
    · subst h1
      rw [path_one S hl (by decide), dep_one (by decide)]
      apply Fresh.nilV
      refine Fresh.of (fn := Try.f34) Try.func34 rfl (Nat.le_of_ble_eq_true rfl) fun w => ?_
      ((with_reducible refine Gol.seq ?_); (with_reducible apply Gol.region); apply Trc.step rfl rfl; exact wnt_n rfl; (with_reducible apply s_assign); exact rfl
       dsimp only [Nat.reduceAdd, Nat.reduceMul, Nat.reduceSub, List.nil_append, List.cons_append, nbk, List.map_cons, List.map_nil]; exact Trc.done _ _ _; exact rfl
       (with_reducible refine thn_n ?_); (with_reducible refine Gol.seq ?_); (with_reducible refine Gol.seq ?_); (with_reducible apply Gol.region); apply Trc.step rfl rfl
       exact wnt_n rfl; (with_reducible apply s_move); exact rfl; dsimp only [Nat.reduceAdd, Nat.reduceMul, Nat.reduceSub, List.nil_append, List.cons_append, nbk, List.map_cons, List.map_nil]
       apply Trc.step rfl rfl; exact wnt_n rfl; (with_reducible apply s_len); exact rfl; exact ln_ex; dsimp only [Nat.reduceAdd, Nat.reduceMul, Nat.reduceSub, List.nil_append, List.cons_append, nbk, List.map_cons, List.map_nil]
       apply Trc.step rfl rfl; exact wnt_n rfl; (with_reducible apply s_eqn); exact rfl; exact rfl; dsimp only [Nat.reduceAdd, Nat.reduceMul, Nat.reduceSub, List.nil_append, List.cons_append, nbk, List.map_cons, List.map_nil]
       exact Trc.done _ _ _; exact rfl; (with_reducible refine thn_n ?_))
      refine Gol.cond_t rfl (by decide) ?_
      ((with_reducible refine Gol.seq ?_); (with_reducible apply Gol.region); apply Trc.step rfl rfl; exact wnt_n rfl; (with_reducible apply s_assign); exact rfl
       dsimp only [Nat.reduceAdd, Nat.reduceMul, Nat.reduceSub, List.nil_append, List.cons_append, nbk, List.map_cons, List.map_nil]; exact Trc.done _ _ _; exact rfl
       (with_reducible refine thn_n ?_); (with_reducible refine Gol.ret ?_); (with_reducible refine thn_r ?_))
      (apply RetQ.mk (by first | exact .inr rfl | exact .inl rfl); apply res_1 rfl; exact res_tmp rfl; exact out_val)
    have h2 : 2 ≤ n := by omega
    have hsp := split_bd n h2
    refine Fresh.of (fn := Try.f34) Try.func34 rfl (Nat.le_of_ble_eq_true rfl) fun w => ?_
    ((with_reducible refine Gol.seq ?_); (with_reducible apply Gol.region); apply Trc.step rfl rfl; exact wnt_n rfl; (with_reducible apply s_assign); exact rfl
     dsimp only [Nat.reduceAdd, Nat.reduceMul, Nat.reduceSub, List.nil_append, List.cons_append, nbk, List.map_cons, List.map_nil]; exact Trc.done _ _ _; exact rfl
     (with_reducible refine thn_n ?_); (with_reducible refine Gol.seq ?_); (with_reducible refine Gol.seq ?_); (with_reducible apply Gol.region); apply Trc.step rfl rfl
     exact wnt_n rfl; (with_reducible apply s_move); exact rfl; dsimp only [Nat.reduceAdd, Nat.reduceMul, Nat.reduceSub, List.nil_append, List.cons_append, nbk, List.map_cons, List.map_nil]
     apply Trc.step rfl rfl; exact wnt_n rfl; (with_reducible apply s_len); exact rfl; exact ln_ex; dsimp only [Nat.reduceAdd, Nat.reduceMul, Nat.reduceSub, List.nil_append, List.cons_append, nbk, List.map_cons, List.map_nil]
     apply Trc.step rfl rfl; exact wnt_n rfl; (with_reducible apply s_eqn); exact rfl; exact rfl; dsimp only [Nat.reduceAdd, Nat.reduceMul, Nat.reduceSub, List.nil_append, List.cons_append, nbk, List.map_cons, List.map_nil]
     exact Trc.done _ _ _; exact rfl; (with_reducible refine thn_n ?_))
    refine Gol.cond_f rfl (decide_eq_false h1) ?_
    ((with_reducible refine Gol.skip ?_); (with_reducible refine thn_n ?_); (with_reducible refine Gol.seq ?_); (with_reducible apply Gol.region); apply Trc.step rfl rfl
     exact wnt_n rfl; (with_reducible apply s_assign); exact rfl; dsimp only [Nat.reduceAdd, Nat.reduceMul, Nat.reduceSub, List.nil_append, List.cons_append, nbk, List.map_cons, List.map_nil]
     exact Trc.done _ _ _; exact rfl; (with_reducible refine thn_n ?_); (with_reducible refine Gol.seq ?_); (with_reducible apply Gol.region); apply Trc.step rfl rfl
     exact wnt_n rfl; (with_reducible apply s_alloc); dsimp only [Nat.reduceAdd, Nat.reduceMul, Nat.reduceSub, List.nil_append, List.cons_append, nbk, List.map_cons, List.map_nil]
     exact Trc.done _ _ _; exact rfl; (with_reducible refine thn_n ?_); (with_reducible refine Gol.seq ?_); (with_reducible refine Gol.seq ?_); (with_reducible apply Gol.region)
     apply Trc.step rfl rfl; exact wnt_n rfl; (with_reducible apply s_move); exact rfl; dsimp only [Nat.reduceAdd, Nat.reduceMul, Nat.reduceSub, List.nil_append, List.cons_append, nbk, List.map_cons, List.map_nil]
     apply Trc.step rfl rfl; exact wnt_n rfl; (with_reducible apply s_len); exact rfl; exact ln_ex; dsimp only [Nat.reduceAdd, Nat.reduceMul, Nat.reduceSub, List.nil_append, List.cons_append, nbk, List.map_cons, List.map_nil]
     apply Trc.step rfl rfl; exact wnt_n rfl; apply s_call (f := 26) rfl; apply evs.cons rfl; exact evs.nil; apply ArgL.cons; exact arg_clo
     exact ArgL.nil; exact split_ok n (by omega) (by omega); exact Nat.le_of_ble_eq_true rfl; dsimp only [Nat.reduceAdd, Nat.reduceMul, Nat.reduceSub, List.nil_append, List.cons_append, nbk, List.map_cons, List.map_nil]
     apply Trc.step rfl rfl; exact wnt_n rfl; (with_reducible apply s_assign); exact rfl; dsimp only [Nat.reduceAdd, Nat.reduceMul, Nat.reduceSub, List.nil_append, List.cons_append, nbk, List.map_cons, List.map_nil]
     exact Trc.done _ _ _; exact rfl; (with_reducible refine thn_n ?_); (with_reducible refine Gol.seq ?_); (with_reducible apply Gol.region); apply Trc.step rfl rfl
     exact wnt_n rfl; (with_reducible apply s_move); exact rfl; dsimp only [Nat.reduceAdd, Nat.reduceMul, Nat.reduceSub, List.nil_append, List.cons_append, nbk, List.map_cons, List.map_nil]
     apply Trc.step rfl rfl; exact wnt_n rfl; (with_reducible apply s_move); exact rfl; dsimp only [Nat.reduceAdd, Nat.reduceMul, Nat.reduceSub, List.nil_append, List.cons_append, nbk, List.map_cons, List.map_nil]
     apply Trc.step rfl rfl; exact wnt_n rfl; (with_reducible apply s_ltn); exact rfl; exact rfl; dsimp only [Nat.reduceAdd, Nat.reduceMul, Nat.reduceSub, List.nil_append, List.cons_append, nbk, List.map_cons, List.map_nil]
     exact Trc.done _ _ _; exact rfl; (with_reducible refine thn_n ?_))
    refine Gol.cond rfl (fun hk => ?_) (fun hk => ?_)
    · have hk' : i < splitN n := of_decide_eq_true hk
      have hlo : ∀ ff, Fresh Try.prog 34 [.ex (splitN n - 0) ff (List.take ((splitN n - 0) * 8) (List.drop 0 (byA (flat l)))), .v (.int .i64 (i : Int))] (fun k => .sl k (depN i (splitN n))) [⟨byA (flat (pathN S (l.take (splitN n)) i)), 26, 8⟩] := fun ff => by
        rw [seg_lo]; exact ih _ (by omega) _ i ff (by simp; omega) hk' (by omega)
      have hhi : ∀ ff, Fresh Try.prog 18 [.ex (n - splitN n) ff (List.take ((n - splitN n) * 8) (List.drop (splitN n * 8) (byA (flat l))))] (fun _ => .v (.agg (nameC (rootN S (l.drop (splitN n)))))) [] := fun ff => by
        rw [seg_hi l _ n hl]; exact root_ok S hS _ _ ff (by simp; omega) (by omega)
      have hpl := path_len S (splitN n) (l.take (splitN n)) i (by simp; omega)
      have hdl := dep_lt (splitN n) i (by omega)
      ((with_reducible apply Gol.any); kernel_rfl; apply Trc.step rfl rfl; exact wnt_n rfl; (with_reducible apply s_move); exact rfl; dsimp only [Nat.reduceAdd, Nat.reduceMul, Nat.reduceSub, List.nil_append, List.cons_append, nbk, List.map_cons, List.map_nil]
       apply Trc.step rfl rfl; exact wnt_n rfl; (with_reducible apply s_move); exact rfl; dsimp only [Nat.reduceAdd, Nat.reduceMul, Nat.reduceSub, List.nil_append, List.cons_append, nbk, List.map_cons, List.map_nil]
       apply Trc.step rfl rfl; exact wnt_n rfl; (with_reducible apply s_move); exact rfl; dsimp only [Nat.reduceAdd, Nat.reduceMul, Nat.reduceSub, List.nil_append, List.cons_append, nbk, List.map_cons, List.map_nil]
       apply Trc.step rfl rfl; exact wnt_n rfl; (with_reducible apply s_slEM); exact rfl; exact rfl; exact ⟨_, rfl⟩; exact ⟨_, rfl⟩; exact rfl; omega; omega
       omega; simp only [byA_length, List.length_append, List.length_cons, List.length_nil, List.length_take, List.length_drop, List.length_replicate, List.length_map, Nat.mul_one, nameB_length, flat_length, List.length_set, inA_length] <;> omega
       dsimp only [Nat.reduceAdd, Nat.reduceMul, Nat.reduceSub, List.nil_append, List.cons_append, nbk, List.map_cons, List.map_nil]; apply Trc.step rfl rfl
       exact wnt_n rfl; (with_reducible apply s_move); exact rfl; dsimp only [Nat.reduceAdd, Nat.reduceMul, Nat.reduceSub, List.nil_append, List.cons_append, nbk, List.map_cons, List.map_nil]
       apply Trc.step rfl rfl; exact wnt_n rfl; apply s_call (f := 34) rfl; apply evs.cons rfl; apply evs.cons rfl; exact evs.nil; apply ArgL.cons
       exact arg_clo; apply ArgL.cons; exact arg_clo; exact ArgL.nil; exact hlo _; exact Nat.le_of_ble_eq_true rfl; dsimp only [Nat.reduceAdd, Nat.reduceMul, Nat.reduceSub, List.nil_append, List.cons_append, nbk, List.map_cons, List.map_nil]
       apply Trc.step rfl rfl; exact wnt_n rfl; (with_reducible apply s_move); exact rfl; dsimp only [Nat.reduceAdd, Nat.reduceMul, Nat.reduceSub, List.nil_append, List.cons_append, nbk, List.map_cons, List.map_nil]
       apply Trc.step rfl rfl; exact wnt_n rfl; (with_reducible apply s_move); exact rfl; dsimp only [Nat.reduceAdd, Nat.reduceMul, Nat.reduceSub, List.nil_append, List.cons_append, nbk, List.map_cons, List.map_nil]
       apply Trc.step rfl rfl; exact wnt_n rfl; (with_reducible apply s_slE); exact rfl; exact ⟨_, rfl⟩; exact rfl; omega; omega; simp only [byA_length, List.length_append, List.length_cons, List.length_nil, List.length_take, List.length_drop, List.length_replicate, List.length_map, Nat.mul_one, nameB_length, flat_length, List.length_set, inA_length] <;> omega
       dsimp only [Nat.reduceAdd, Nat.reduceMul, Nat.reduceSub, List.nil_append, List.cons_append, nbk, List.map_cons, List.map_nil]; apply Trc.step rfl rfl
       exact wnt_n rfl; apply s_call (f := 18) rfl; apply evs.cons rfl; exact evs.nil; apply ArgL.cons; exact arg_clo; exact ArgL.nil
       exact hhi _; exact Nat.le_of_ble_eq_true rfl; dsimp only [Nat.reduceAdd, Nat.reduceMul, Nat.reduceSub, List.nil_append, List.cons_append, nbk, List.map_cons, List.map_nil]
       apply Trc.step rfl rfl; exact wnt_n rfl; (with_reducible apply s_assign); exact rfl; dsimp only [Nat.reduceAdd, Nat.reduceMul, Nat.reduceSub, List.nil_append, List.cons_append, nbk, List.map_cons, List.map_nil]
       apply Trc.stepN rfl rfl; exact wnt_n rfl; (with_reducible apply s_storeW); exact rfl; exact rfl; exact rfl; exact rfl; rfl; exact rfl; dsimp only [Nat.reduceAdd, Nat.reduceMul, Nat.reduceSub, List.nil_append, List.cons_append, nbk, List.map_cons, List.map_nil]
       exact Trc.done _ _ _; kernel_rfl; exact rfl; (with_reducible refine thn_n ?_); (with_reducible refine Gol.seq ?_); (with_reducible apply Gol.any); kernel_rfl
       apply Trc.step rfl rfl; exact wnt_n rfl; (with_reducible apply s_move); exact rfl; dsimp only [Nat.reduceAdd, Nat.reduceMul, Nat.reduceSub, List.nil_append, List.cons_append, nbk, List.map_cons, List.map_nil]
       apply Trc.step rfl rfl; exact wnt_n rfl; (with_reducible apply s_move); exact rfl; dsimp only [Nat.reduceAdd, Nat.reduceMul, Nat.reduceSub, List.nil_append, List.cons_append, nbk, List.map_cons, List.map_nil]
       apply Trc.step rfl rfl; exact wnt_n rfl; (with_reducible apply s_len); exact rfl; exact ln_sl; dsimp only [Nat.reduceAdd, Nat.reduceMul, Nat.reduceSub, List.nil_append, List.cons_append, nbk, List.map_cons, List.map_nil]
       apply Trc.step rfl rfl; exact wnt_n rfl; (with_reducible apply s_move); exact rfl; dsimp only [Nat.reduceAdd, Nat.reduceMul, Nat.reduceSub, List.nil_append, List.cons_append, nbk, List.map_cons, List.map_nil]
       apply Trc.step rfl rfl; exact wnt_n rfl; (with_reducible apply s_len); exact rfl; exact ln_sl; dsimp only [Nat.reduceAdd, Nat.reduceMul, Nat.reduceSub, List.nil_append, List.cons_append, nbk, List.map_cons, List.map_nil]
       apply Trc.step rfl rfl; exact wnt_n rfl; (with_reducible apply s_slLM); exact rfl; exact rfl; exact ⟨_, rfl⟩; exact ⟨_, rfl⟩; exact rfl; omega; omega
       omega; exact rfl; dsimp only [Nat.reduceAdd, Nat.reduceMul, Nat.reduceSub, List.nil_append, List.cons_append, nbk, List.map_cons, List.map_nil]; apply Trc.step rfl rfl
       exact wnt_n rfl; (with_reducible apply s_loadW); exact rfl; exact rfl; exact rfl; exact agu_cuv _; dsimp only [Nat.reduceAdd, Nat.reduceMul, Nat.reduceSub, List.nil_append, List.cons_append, nbk, List.map_cons, List.map_nil]
       apply Trc.step rfl rfl; exact wnt_n rfl; (with_reducible apply s_lit); apply PA.cons; exact rfl; exact rfl; exact rfl; exact PA.nil; exact rfl; omega
       dsimp only [Nat.reduceAdd, Nat.reduceMul, Nat.reduceSub, List.nil_append, List.cons_append, nbk, List.map_cons, List.map_nil]; apply Trc.step rfl rfl
       exact wnt_n rfl; (with_reducible apply s_appFull); exact rfl; exact fl_sb; apply rd_sb rfl; simp only [byA_length, List.length_append, List.length_cons, List.length_nil, List.length_take, List.length_drop, List.length_replicate, List.length_map, Nat.mul_one, nameB_length, flat_length, List.length_set, inA_length] <;> omega
       exact rfl; apply rd_sl rfl; rfl; omega; omega; dsimp only [Nat.reduceAdd, Nat.reduceMul, Nat.reduceSub, List.nil_append, List.cons_append, nbk, List.map_cons, List.map_nil]
       apply Trc.step rfl rfl; exact wnt_n rfl; (with_reducible apply s_assign); exact rfl; dsimp only [Nat.reduceAdd, Nat.reduceMul, Nat.reduceSub, List.nil_append, List.cons_append, nbk, List.map_cons, List.map_nil]
       exact Trc.done _ _ _; kernel_rfl; exact rfl; (with_reducible refine thn_n ?_); (with_reducible refine Gol.ret ?_))
      rw [grow_eq hpl, path_lo S hl h2 hk', dep_lo h2 hk']
      simp only [Nat.sub_zero]
      (apply RetQ.mk (by first | exact .inr rfl | exact .inl rfl); apply res_1 rfl; exact res_tmp rfl; exact out_sl rfl)
    · have hk' : ¬ i < splitN n := of_decide_eq_false hk
      have hhi : ∀ ff, Fresh Try.prog 34 [.ex (n - splitN n) ff (List.take ((n - splitN n) * 8) (List.drop (splitN n * 8) (byA (flat l)))), .v (.int .i64 ((i - splitN n : Nat) : Int))] (fun k => .sl k (depN (i - splitN n) (n - splitN n))) [⟨byA (flat (pathN S (l.drop (splitN n)) (i - splitN n))), 26, 8⟩] := fun ff => by
        rw [seg_hi l _ n hl]; exact ih _ (by omega) _ _ ff (by simp; omega) (by omega) (by omega)
      have hlo : ∀ ff, Fresh Try.prog 18 [.ex (splitN n - 0) ff (List.take ((splitN n - 0) * 8) (List.drop 0 (byA (flat l))))] (fun _ => .v (.agg (nameC (rootN S (l.take (splitN n)))))) [] := fun ff => by
        rw [seg_lo]; exact root_ok S hS _ _ ff (by simp; omega) (by omega)
      have hpl := path_len S (n - splitN n) (l.drop (splitN n)) (i - splitN n) (by simp; omega)
      have hdl := dep_lt (n - splitN n) (i - splitN n) (by omega)
      ((with_reducible apply Gol.any); kernel_rfl; apply Trc.step rfl rfl; exact wnt_n rfl; (with_reducible apply s_move); exact rfl; dsimp only [Nat.reduceAdd, Nat.reduceMul, Nat.reduceSub, List.nil_append, List.cons_append, nbk, List.map_cons, List.map_nil]
       apply Trc.step rfl rfl; exact wnt_n rfl; (with_reducible apply s_move); exact rfl; dsimp only [Nat.reduceAdd, Nat.reduceMul, Nat.reduceSub, List.nil_append, List.cons_append, nbk, List.map_cons, List.map_nil]
       apply Trc.step rfl rfl; exact wnt_n rfl; (with_reducible apply s_slE); exact rfl; exact ⟨_, rfl⟩; exact rfl; omega; omega; simp only [byA_length, List.length_append, List.length_cons, List.length_nil, List.length_take, List.length_drop, List.length_replicate, List.length_map, Nat.mul_one, nameB_length, flat_length, List.length_set, inA_length] <;> omega
       dsimp only [Nat.reduceAdd, Nat.reduceMul, Nat.reduceSub, List.nil_append, List.cons_append, nbk, List.map_cons, List.map_nil]; apply Trc.step rfl rfl
       exact wnt_n rfl; (with_reducible apply s_move); exact rfl; dsimp only [Nat.reduceAdd, Nat.reduceMul, Nat.reduceSub, List.nil_append, List.cons_append, nbk, List.map_cons, List.map_nil]
       apply Trc.step rfl rfl; exact wnt_n rfl; (with_reducible apply s_move); exact rfl; dsimp only [Nat.reduceAdd, Nat.reduceMul, Nat.reduceSub, List.nil_append, List.cons_append, nbk, List.map_cons, List.map_nil]
       apply Trc.step rfl rfl; exact wnt_n rfl; (with_reducible apply s_subn); exact rfl; exact rfl; omega; omega; dsimp only [Nat.reduceAdd, Nat.reduceMul, Nat.reduceSub, List.nil_append, List.cons_append, nbk, List.map_cons, List.map_nil]
       apply Trc.step rfl rfl; exact wnt_n rfl; apply s_call (f := 34) rfl; apply evs.cons rfl; apply evs.cons rfl; exact evs.nil; apply ArgL.cons
       exact arg_clo; apply ArgL.cons; exact arg_clo; exact ArgL.nil; exact hhi _; exact Nat.le_of_ble_eq_true rfl; dsimp only [Nat.reduceAdd, Nat.reduceMul, Nat.reduceSub, List.nil_append, List.cons_append, nbk, List.map_cons, List.map_nil]
       apply Trc.step rfl rfl; exact wnt_n rfl; (with_reducible apply s_move); exact rfl; dsimp only [Nat.reduceAdd, Nat.reduceMul, Nat.reduceSub, List.nil_append, List.cons_append, nbk, List.map_cons, List.map_nil]
       apply Trc.step rfl rfl; exact wnt_n rfl; (with_reducible apply s_move); exact rfl; dsimp only [Nat.reduceAdd, Nat.reduceMul, Nat.reduceSub, List.nil_append, List.cons_append, nbk, List.map_cons, List.map_nil]
       apply Trc.step rfl rfl; exact wnt_n rfl; (with_reducible apply s_move); exact rfl; dsimp only [Nat.reduceAdd, Nat.reduceMul, Nat.reduceSub, List.nil_append, List.cons_append, nbk, List.map_cons, List.map_nil]
       apply Trc.step rfl rfl; exact wnt_n rfl; (with_reducible apply s_slEM); exact rfl; exact rfl; exact ⟨_, rfl⟩; exact ⟨_, rfl⟩; exact rfl; omega; omega
       omega; simp only [byA_length, List.length_append, List.length_cons, List.length_nil, List.length_take, List.length_drop, List.length_replicate, List.length_map, Nat.mul_one, nameB_length, flat_length, List.length_set, inA_length] <;> omega
       dsimp only [Nat.reduceAdd, Nat.reduceMul, Nat.reduceSub, List.nil_append, List.cons_append, nbk, List.map_cons, List.map_nil]; apply Trc.step rfl rfl
       exact wnt_n rfl; apply s_call (f := 18) rfl; apply evs.cons rfl; exact evs.nil; apply ArgL.cons; exact arg_clo; exact ArgL.nil
       exact hlo _; exact Nat.le_of_ble_eq_true rfl; dsimp only [Nat.reduceAdd, Nat.reduceMul, Nat.reduceSub, List.nil_append, List.cons_append, nbk, List.map_cons, List.map_nil]
       apply Trc.step rfl rfl; exact wnt_n rfl; (with_reducible apply s_assign); exact rfl; dsimp only [Nat.reduceAdd, Nat.reduceMul, Nat.reduceSub, List.nil_append, List.cons_append, nbk, List.map_cons, List.map_nil]
       apply Trc.stepN rfl rfl; exact wnt_n rfl; (with_reducible apply s_storeW); exact rfl; exact rfl; exact rfl; exact rfl; rfl; exact rfl; dsimp only [Nat.reduceAdd, Nat.reduceMul, Nat.reduceSub, List.nil_append, List.cons_append, nbk, List.map_cons, List.map_nil]
       exact Trc.done _ _ _; kernel_rfl; exact rfl; (with_reducible refine thn_n ?_); (with_reducible refine Gol.seq ?_); (with_reducible apply Gol.any); kernel_rfl
       apply Trc.step rfl rfl; exact wnt_n rfl; (with_reducible apply s_move); exact rfl; dsimp only [Nat.reduceAdd, Nat.reduceMul, Nat.reduceSub, List.nil_append, List.cons_append, nbk, List.map_cons, List.map_nil]
       apply Trc.step rfl rfl; exact wnt_n rfl; (with_reducible apply s_move); exact rfl; dsimp only [Nat.reduceAdd, Nat.reduceMul, Nat.reduceSub, List.nil_append, List.cons_append, nbk, List.map_cons, List.map_nil]
       apply Trc.step rfl rfl; exact wnt_n rfl; (with_reducible apply s_len); exact rfl; exact ln_sl; dsimp only [Nat.reduceAdd, Nat.reduceMul, Nat.reduceSub, List.nil_append, List.cons_append, nbk, List.map_cons, List.map_nil]
       apply Trc.step rfl rfl; exact wnt_n rfl; (with_reducible apply s_move); exact rfl; dsimp only [Nat.reduceAdd, Nat.reduceMul, Nat.reduceSub, List.nil_append, List.cons_append, nbk, List.map_cons, List.map_nil]
       apply Trc.step rfl rfl; exact wnt_n rfl; (with_reducible apply s_len); exact rfl; exact ln_sl; dsimp only [Nat.reduceAdd, Nat.reduceMul, Nat.reduceSub, List.nil_append, List.cons_append, nbk, List.map_cons, List.map_nil]
       apply Trc.step rfl rfl; exact wnt_n rfl; (with_reducible apply s_slLM); exact rfl; exact rfl; exact ⟨_, rfl⟩; exact ⟨_, rfl⟩; exact rfl; omega; omega
       omega; exact rfl; dsimp only [Nat.reduceAdd, Nat.reduceMul, Nat.reduceSub, List.nil_append, List.cons_append, nbk, List.map_cons, List.map_nil]; apply Trc.step rfl rfl
       exact wnt_n rfl; (with_reducible apply s_loadW); exact rfl; exact rfl; exact rfl; exact agu_cuv _; dsimp only [Nat.reduceAdd, Nat.reduceMul, Nat.reduceSub, List.nil_append, List.cons_append, nbk, List.map_cons, List.map_nil]
       apply Trc.step rfl rfl; exact wnt_n rfl; (with_reducible apply s_lit); apply PA.cons; exact rfl; exact rfl; exact rfl; exact PA.nil; exact rfl; omega
       dsimp only [Nat.reduceAdd, Nat.reduceMul, Nat.reduceSub, List.nil_append, List.cons_append, nbk, List.map_cons, List.map_nil]; apply Trc.step rfl rfl
       exact wnt_n rfl; (with_reducible apply s_appFull); exact rfl; exact fl_sb; apply rd_sb rfl; simp only [byA_length, List.length_append, List.length_cons, List.length_nil, List.length_take, List.length_drop, List.length_replicate, List.length_map, Nat.mul_one, nameB_length, flat_length, List.length_set, inA_length] <;> omega
       exact rfl; apply rd_sl rfl; rfl; omega; omega; dsimp only [Nat.reduceAdd, Nat.reduceMul, Nat.reduceSub, List.nil_append, List.cons_append, nbk, List.map_cons, List.map_nil]
       apply Trc.step rfl rfl; exact wnt_n rfl; (with_reducible apply s_assign); exact rfl; dsimp only [Nat.reduceAdd, Nat.reduceMul, Nat.reduceSub, List.nil_append, List.cons_append, nbk, List.map_cons, List.map_nil]
       exact Trc.done _ _ _; kernel_rfl; exact rfl; (with_reducible refine thn_n ?_); (with_reducible refine Gol.ret ?_))
      rw [grow_eq hpl, path_hi S hl h2 hk', dep_hi h2 hk']
      simp only [Nat.sub_zero]
      (apply RetQ.mk (by first | exact .inr rfl | exact .inl rfl); apply res_1 rfl; exact res_tmp rfl; exact out_sl rfl)
theorem path_yes (n : Nat) (l : List UInt64) (i : Nat) (f : Bool) (hl : l.length = n) (hi : i < n) (hb : n ≤ 100000000) : Fresh Try.prog 21 [.ex n f (byA (flat l)), .v (.int .i64 (i : Int))] (fun k => .tp [.sl k (depN i n), .v (.bool true)]) [⟨byA (flat (pathN S l i)), 26, 8⟩] := by
  have hc : ¬ ((depN i n : Int) < 0) := by omega
  refine Fresh.of (fn := Try.f21) Try.func21 rfl (Nat.le_of_ble_eq_true rfl) fun w => ?_
  ((with_reducible refine Gol.seq ?_); (with_reducible apply Gol.region); apply Trc.step rfl rfl; exact wnt_n rfl; (with_reducible apply s_assign); exact rfl
   dsimp only [Nat.reduceAdd, Nat.reduceMul, Nat.reduceSub, List.nil_append, List.cons_append, nbk, List.map_cons, List.map_nil]; apply Trc.step rfl rfl
   exact wnt_n rfl; (with_reducible apply s_assign); exact rfl; dsimp only [Nat.reduceAdd, Nat.reduceMul, Nat.reduceSub, List.nil_append, List.cons_append, nbk, List.map_cons, List.map_nil]
   exact Trc.done _ _ _; exact rfl; (with_reducible refine thn_n ?_); (with_reducible refine Gol.seq ?_); (with_reducible refine Gol.seq ?_); (with_reducible apply Gol.region)
   apply Trc.step rfl rfl; exact wnt_n rfl; (with_reducible apply s_move); exact rfl; dsimp only [Nat.reduceAdd, Nat.reduceMul, Nat.reduceSub, List.nil_append, List.cons_append, nbk, List.map_cons, List.map_nil]
   apply Trc.step rfl rfl; exact wnt_n rfl; (with_reducible apply s_move); exact rfl; dsimp only [Nat.reduceAdd, Nat.reduceMul, Nat.reduceSub, List.nil_append, List.cons_append, nbk, List.map_cons, List.map_nil]
   apply Trc.step rfl rfl; exact wnt_n rfl; (with_reducible apply s_len); exact rfl; exact ln_ex; dsimp only [Nat.reduceAdd, Nat.reduceMul, Nat.reduceSub, List.nil_append, List.cons_append, nbk, List.map_cons, List.map_nil]
   apply Trc.step rfl rfl; exact wnt_n rfl; apply s_call (f := 10) rfl; apply evs.cons rfl; apply evs.cons rfl; exact evs.nil; apply ArgL.cons
   exact arg_clo; apply ArgL.cons; exact arg_clo; exact ArgL.nil; exact depth_yes i n hi (by omega); exact Nat.le_of_ble_eq_true rfl; dsimp only [Nat.reduceAdd, Nat.reduceMul, Nat.reduceSub, List.nil_append, List.cons_append, nbk, List.map_cons, List.map_nil]
   apply Trc.step rfl rfl; exact wnt_n rfl; (with_reducible apply s_ltn); exact rfl; exact rfl; dsimp only [Nat.reduceAdd, Nat.reduceMul, Nat.reduceSub, List.nil_append, List.cons_append, nbk, List.map_cons, List.map_nil]
   exact Trc.done _ _ _; exact rfl; (with_reducible refine thn_n ?_))
  refine Gol.cond_f rfl (by simp) ?_
  ((with_reducible refine Gol.skip ?_); (with_reducible refine thn_n ?_); (with_reducible refine Gol.seq ?_); (with_reducible apply Gol.region); apply Trc.step rfl rfl
   exact wnt_n rfl; (with_reducible apply s_move); exact rfl; dsimp only [Nat.reduceAdd, Nat.reduceMul, Nat.reduceSub, List.nil_append, List.cons_append, nbk, List.map_cons, List.map_nil]
   apply Trc.step rfl rfl; exact wnt_n rfl; (with_reducible apply s_move); exact rfl; dsimp only [Nat.reduceAdd, Nat.reduceMul, Nat.reduceSub, List.nil_append, List.cons_append, nbk, List.map_cons, List.map_nil]
   apply Trc.step rfl rfl; exact wnt_n rfl; apply s_call (f := 34) rfl; apply evs.cons rfl; apply evs.cons rfl; exact evs.nil; apply ArgL.cons
   exact arg_clo; apply ArgL.cons; exact arg_clo; exact ArgL.nil; exact climb_ok S hS n l i _ hl hi hb; exact Nat.le_of_ble_eq_true rfl; dsimp only [Nat.reduceAdd, Nat.reduceMul, Nat.reduceSub, List.nil_append, List.cons_append, nbk, List.map_cons, List.map_nil]
   apply Trc.step rfl rfl; exact wnt_n rfl; (with_reducible apply s_assign); exact rfl; dsimp only [Nat.reduceAdd, Nat.reduceMul, Nat.reduceSub, List.nil_append, List.cons_append, nbk, List.map_cons, List.map_nil]
   apply Trc.step rfl rfl; exact wnt_n rfl; (with_reducible apply s_assign); exact rfl; dsimp only [Nat.reduceAdd, Nat.reduceMul, Nat.reduceSub, List.nil_append, List.cons_append, nbk, List.map_cons, List.map_nil]
   exact Trc.done _ _ _; exact rfl; (with_reducible refine thn_n ?_); (with_reducible refine Gol.ret ?_))
  (apply RetQ.mk (by first | exact .inr rfl | exact .inl rfl); apply res_2 rfl; exact res_tmp rfl; exact res_tmp rfl; exact out_tp rfl)
theorem refPath_yes (n : Nat) : ∀ (l : List UInt64) (i : Nat) (f : Bool), l.length = n → i < n → n ≤ 100000000 → Fresh Try.prog 22 [.ex n f (byA (flat l)), .v (.int .i64 (i : Int))] (fun k => .tp [.sl k (depN i n), .v (.bool true)]) [⟨byA (flat (pathN S l i)), 26, 8⟩] := by
  induction n using Nat.strongRecOn with
  | _ n ih =>
    intro l i f hl hi hb
    have g0 : ¬ ((i : Int) < 0) := by omega
    have g1 : ¬ (n ≤ i) := by omega
    by_cases h1 : n = 1
    · subst h1
      rw [path_one S hl (by decide), dep_one (by decide)]
      apply Fresh.nilTp
      refine Fresh.of (fn := Try.f22) Try.func22 rfl (Nat.le_of_ble_eq_true rfl) fun w => ?_
      ((with_reducible refine Gol.seq ?_); (with_reducible apply Gol.region); apply Trc.step rfl rfl; exact wnt_n rfl; (with_reducible apply s_assign); exact rfl
       dsimp only [Nat.reduceAdd, Nat.reduceMul, Nat.reduceSub, List.nil_append, List.cons_append, nbk, List.map_cons, List.map_nil]; apply Trc.step rfl rfl
       exact wnt_n rfl; (with_reducible apply s_assign); exact rfl; dsimp only [Nat.reduceAdd, Nat.reduceMul, Nat.reduceSub, List.nil_append, List.cons_append, nbk, List.map_cons, List.map_nil]
       exact Trc.done _ _ _; exact rfl; (with_reducible refine thn_n ?_); (with_reducible refine Gol.seq ?_); (with_reducible refine Gol.seq ?_); (with_reducible apply Gol.region)
       apply Trc.step rfl rfl; exact wnt_n rfl; (with_reducible apply s_move); exact rfl; dsimp only [Nat.reduceAdd, Nat.reduceMul, Nat.reduceSub, List.nil_append, List.cons_append, nbk, List.map_cons, List.map_nil]
       apply Trc.step rfl rfl; exact wnt_n rfl; (with_reducible apply s_ltn); exact rfl; exact rfl; dsimp only [Nat.reduceAdd, Nat.reduceMul, Nat.reduceSub, List.nil_append, List.cons_append, nbk, List.map_cons, List.map_nil]
       apply Trc.step rfl rfl; exact wnt_n rfl; (with_reducible apply s_move); exact rfl; dsimp only [Nat.reduceAdd, Nat.reduceMul, Nat.reduceSub, List.nil_append, List.cons_append, nbk, List.map_cons, List.map_nil]
       apply Trc.step rfl rfl; apply wnt_g; exact rfl; exact rfl; exact rfl; rfl; (with_reducible apply s_move); exact rfl; dsimp only [Nat.reduceAdd, Nat.reduceMul, Nat.reduceSub, List.nil_append, List.cons_append, nbk, List.map_cons, List.map_nil]
       apply Trc.step rfl rfl; apply wnt_g; exact rfl; exact rfl; exact rfl; rfl; (with_reducible apply s_move); exact rfl; dsimp only [Nat.reduceAdd, Nat.reduceMul, Nat.reduceSub, List.nil_append, List.cons_append, nbk, List.map_cons, List.map_nil]
       apply Trc.step rfl rfl; apply wnt_g; exact rfl; exact rfl; exact rfl; rfl; (with_reducible apply s_len); exact rfl; exact ln_ex; dsimp only [Nat.reduceAdd, Nat.reduceMul, Nat.reduceSub, List.nil_append, List.cons_append, nbk, List.map_cons, List.map_nil]
       apply Trc.step rfl rfl; apply wnt_g; exact rfl; exact rfl; exact rfl; rfl; (with_reducible apply s_gen); exact rfl; exact rfl; dsimp only [Nat.reduceAdd, Nat.reduceMul, Nat.reduceSub, List.nil_append, List.cons_append, nbk, List.map_cons, List.map_nil]
       apply Trc.step rfl rfl; exact wnt_n rfl; (with_reducible apply s_pick_f); exact rfl; rfl; exact rfl; dsimp only [Nat.reduceAdd, Nat.reduceMul, Nat.reduceSub, List.nil_append, List.cons_append, nbk, List.map_cons, List.map_nil]
       exact Trc.done _ _ _; exact rfl; (with_reducible refine thn_n ?_))
      refine Gol.cond_f rfl (decide_eq_false g1) ?_
      ((with_reducible refine Gol.skip ?_); (with_reducible refine thn_n ?_); (with_reducible refine Gol.seq ?_); (with_reducible refine Gol.seq ?_); (with_reducible apply Gol.region)
       apply Trc.step rfl rfl; exact wnt_n rfl; (with_reducible apply s_move); exact rfl; dsimp only [Nat.reduceAdd, Nat.reduceMul, Nat.reduceSub, List.nil_append, List.cons_append, nbk, List.map_cons, List.map_nil]
       apply Trc.step rfl rfl; exact wnt_n rfl; (with_reducible apply s_len); exact rfl; exact ln_ex; dsimp only [Nat.reduceAdd, Nat.reduceMul, Nat.reduceSub, List.nil_append, List.cons_append, nbk, List.map_cons, List.map_nil]
       apply Trc.step rfl rfl; exact wnt_n rfl; (with_reducible apply s_eqn); exact rfl; exact rfl; dsimp only [Nat.reduceAdd, Nat.reduceMul, Nat.reduceSub, List.nil_append, List.cons_append, nbk, List.map_cons, List.map_nil]
       exact Trc.done _ _ _; exact rfl; (with_reducible refine thn_n ?_))
      refine Gol.cond_t rfl (by decide) ?_
      ((with_reducible refine Gol.seq ?_); (with_reducible apply Gol.region); apply Trc.step rfl rfl; exact wnt_n rfl; (with_reducible apply s_assign); exact rfl
       dsimp only [Nat.reduceAdd, Nat.reduceMul, Nat.reduceSub, List.nil_append, List.cons_append, nbk, List.map_cons, List.map_nil]; apply Trc.step rfl rfl
       exact wnt_n rfl; (with_reducible apply s_assign); exact rfl; dsimp only [Nat.reduceAdd, Nat.reduceMul, Nat.reduceSub, List.nil_append, List.cons_append, nbk, List.map_cons, List.map_nil]
       exact Trc.done _ _ _; exact rfl; (with_reducible refine thn_n ?_); (with_reducible refine Gol.ret ?_); (with_reducible refine thn_r ?_))
      (apply RetQ.mk (by first | exact .inr rfl | exact .inl rfl); apply res_2 rfl; exact res_tmp rfl; exact res_tmp rfl; exact out_val)
    have h2 : 2 ≤ n := by omega
    have hsp := split_bd n h2
    refine Fresh.of (fn := Try.f22) Try.func22 rfl (Nat.le_of_ble_eq_true rfl) fun w => ?_
    ((with_reducible refine Gol.seq ?_); (with_reducible apply Gol.region); apply Trc.step rfl rfl; exact wnt_n rfl; (with_reducible apply s_assign); exact rfl
     dsimp only [Nat.reduceAdd, Nat.reduceMul, Nat.reduceSub, List.nil_append, List.cons_append, nbk, List.map_cons, List.map_nil]; apply Trc.step rfl rfl
     exact wnt_n rfl; (with_reducible apply s_assign); exact rfl; dsimp only [Nat.reduceAdd, Nat.reduceMul, Nat.reduceSub, List.nil_append, List.cons_append, nbk, List.map_cons, List.map_nil]
     exact Trc.done _ _ _; exact rfl; (with_reducible refine thn_n ?_); (with_reducible refine Gol.seq ?_); (with_reducible refine Gol.seq ?_); (with_reducible apply Gol.region)
     apply Trc.step rfl rfl; exact wnt_n rfl; (with_reducible apply s_move); exact rfl; dsimp only [Nat.reduceAdd, Nat.reduceMul, Nat.reduceSub, List.nil_append, List.cons_append, nbk, List.map_cons, List.map_nil]
     apply Trc.step rfl rfl; exact wnt_n rfl; (with_reducible apply s_ltn); exact rfl; exact rfl; dsimp only [Nat.reduceAdd, Nat.reduceMul, Nat.reduceSub, List.nil_append, List.cons_append, nbk, List.map_cons, List.map_nil]
     apply Trc.step rfl rfl; exact wnt_n rfl; (with_reducible apply s_move); exact rfl; dsimp only [Nat.reduceAdd, Nat.reduceMul, Nat.reduceSub, List.nil_append, List.cons_append, nbk, List.map_cons, List.map_nil]
     apply Trc.step rfl rfl; apply wnt_g; exact rfl; exact rfl; exact rfl; rfl; (with_reducible apply s_move); exact rfl; dsimp only [Nat.reduceAdd, Nat.reduceMul, Nat.reduceSub, List.nil_append, List.cons_append, nbk, List.map_cons, List.map_nil]
     apply Trc.step rfl rfl; apply wnt_g; exact rfl; exact rfl; exact rfl; rfl; (with_reducible apply s_move); exact rfl; dsimp only [Nat.reduceAdd, Nat.reduceMul, Nat.reduceSub, List.nil_append, List.cons_append, nbk, List.map_cons, List.map_nil]
     apply Trc.step rfl rfl; apply wnt_g; exact rfl; exact rfl; exact rfl; rfl; (with_reducible apply s_len); exact rfl; exact ln_ex; dsimp only [Nat.reduceAdd, Nat.reduceMul, Nat.reduceSub, List.nil_append, List.cons_append, nbk, List.map_cons, List.map_nil]
     apply Trc.step rfl rfl; apply wnt_g; exact rfl; exact rfl; exact rfl; rfl; (with_reducible apply s_gen); exact rfl; exact rfl; dsimp only [Nat.reduceAdd, Nat.reduceMul, Nat.reduceSub, List.nil_append, List.cons_append, nbk, List.map_cons, List.map_nil]
     apply Trc.step rfl rfl; exact wnt_n rfl; (with_reducible apply s_pick_f); exact rfl; rfl; exact rfl; dsimp only [Nat.reduceAdd, Nat.reduceMul, Nat.reduceSub, List.nil_append, List.cons_append, nbk, List.map_cons, List.map_nil]
     exact Trc.done _ _ _; exact rfl; (with_reducible refine thn_n ?_))
    refine Gol.cond_f rfl (decide_eq_false g1) ?_
    ((with_reducible refine Gol.skip ?_); (with_reducible refine thn_n ?_); (with_reducible refine Gol.seq ?_); (with_reducible refine Gol.seq ?_); (with_reducible apply Gol.region)
     apply Trc.step rfl rfl; exact wnt_n rfl; (with_reducible apply s_move); exact rfl; dsimp only [Nat.reduceAdd, Nat.reduceMul, Nat.reduceSub, List.nil_append, List.cons_append, nbk, List.map_cons, List.map_nil]
     apply Trc.step rfl rfl; exact wnt_n rfl; (with_reducible apply s_len); exact rfl; exact ln_ex; dsimp only [Nat.reduceAdd, Nat.reduceMul, Nat.reduceSub, List.nil_append, List.cons_append, nbk, List.map_cons, List.map_nil]
     apply Trc.step rfl rfl; exact wnt_n rfl; (with_reducible apply s_eqn); exact rfl; exact rfl; dsimp only [Nat.reduceAdd, Nat.reduceMul, Nat.reduceSub, List.nil_append, List.cons_append, nbk, List.map_cons, List.map_nil]
     exact Trc.done _ _ _; exact rfl; (with_reducible refine thn_n ?_))
    refine Gol.cond_f rfl (decide_eq_false h1) ?_
    ((with_reducible refine Gol.skip ?_); (with_reducible refine thn_n ?_); (with_reducible refine Gol.seq ?_); (with_reducible apply Gol.region); apply Trc.step rfl rfl
     exact wnt_n rfl; (with_reducible apply s_move); exact rfl; dsimp only [Nat.reduceAdd, Nat.reduceMul, Nat.reduceSub, List.nil_append, List.cons_append, nbk, List.map_cons, List.map_nil]
     apply Trc.step rfl rfl; exact wnt_n rfl; (with_reducible apply s_len); exact rfl; exact ln_ex; dsimp only [Nat.reduceAdd, Nat.reduceMul, Nat.reduceSub, List.nil_append, List.cons_append, nbk, List.map_cons, List.map_nil]
     apply Trc.step rfl rfl; exact wnt_n rfl; apply s_call (f := 27) rfl; apply evs.cons rfl; exact evs.nil; apply ArgL.cons
     exact arg_clo; exact ArgL.nil; exact refSplit_ok n (by omega) (by omega); exact Nat.le_of_ble_eq_true rfl; dsimp only [Nat.reduceAdd, Nat.reduceMul, Nat.reduceSub, List.nil_append, List.cons_append, nbk, List.map_cons, List.map_nil]
     apply Trc.step rfl rfl; exact wnt_n rfl; (with_reducible apply s_assign); exact rfl; dsimp only [Nat.reduceAdd, Nat.reduceMul, Nat.reduceSub, List.nil_append, List.cons_append, nbk, List.map_cons, List.map_nil]
     exact Trc.done _ _ _; exact rfl; (with_reducible refine thn_n ?_); (with_reducible refine Gol.seq ?_); (with_reducible refine Gol.seq ?_); (with_reducible apply Gol.region)
     apply Trc.step rfl rfl; exact wnt_n rfl; (with_reducible apply s_move); exact rfl; dsimp only [Nat.reduceAdd, Nat.reduceMul, Nat.reduceSub, List.nil_append, List.cons_append, nbk, List.map_cons, List.map_nil]
     apply Trc.step rfl rfl; exact wnt_n rfl; (with_reducible apply s_move); exact rfl; dsimp only [Nat.reduceAdd, Nat.reduceMul, Nat.reduceSub, List.nil_append, List.cons_append, nbk, List.map_cons, List.map_nil]
     apply Trc.step rfl rfl; exact wnt_n rfl; (with_reducible apply s_ltn); exact rfl; exact rfl; dsimp only [Nat.reduceAdd, Nat.reduceMul, Nat.reduceSub, List.nil_append, List.cons_append, nbk, List.map_cons, List.map_nil]
     exact Trc.done _ _ _; exact rfl; (with_reducible refine thn_n ?_))
    refine Gol.cond rfl (fun hk => ?_) (fun hk => ?_)
    · have hk' : i < splitN n := of_decide_eq_true hk
      have hlo : ∀ ff, Fresh Try.prog 22 [.ex (splitN n - 0) ff (List.take ((splitN n - 0) * 8) (List.drop 0 (byA (flat l)))), .v (.int .i64 (i : Int))] (fun k => .tp [.sl k (depN i (splitN n)), .v (.bool true)]) [⟨byA (flat (pathN S (l.take (splitN n)) i)), 26, 8⟩] := fun ff => by
        rw [seg_lo]; exact ih _ (by omega) _ i ff (by simp; omega) hk' (by omega)
      have hhi : ∀ ff, Fresh Try.prog 23 [.ex (n - splitN n) ff (List.take ((n - splitN n) * 8) (List.drop (splitN n * 8) (byA (flat l))))] (fun _ => .v (.agg (nameC (rootN S (l.drop (splitN n)))))) [] := fun ff => by
        rw [seg_hi l _ n hl]; exact refRoot_ok S hS _ _ ff (by simp; omega) (by omega)
      have hpl := path_len S (splitN n) (l.take (splitN n)) i (by simp; omega)
      have hdl := dep_lt (splitN n) i (by omega)
      ((with_reducible refine Gol.seq ?_); (with_reducible apply Gol.region); apply Trc.step rfl rfl; exact wnt_n rfl; (with_reducible apply s_move); exact rfl
       dsimp only [Nat.reduceAdd, Nat.reduceMul, Nat.reduceSub, List.nil_append, List.cons_append, nbk, List.map_cons, List.map_nil]; apply Trc.step rfl rfl
       exact wnt_n rfl; (with_reducible apply s_move); exact rfl; dsimp only [Nat.reduceAdd, Nat.reduceMul, Nat.reduceSub, List.nil_append, List.cons_append, nbk, List.map_cons, List.map_nil]
       apply Trc.step rfl rfl; exact wnt_n rfl; (with_reducible apply s_slE); exact rfl; exact rfl; exact ⟨_, rfl⟩; omega; omega; simp only [byA_length, List.length_append, List.length_cons, List.length_nil, List.length_take, List.length_drop, List.length_replicate, List.length_map, Nat.mul_one, nameB_length, flat_length, List.length_set, inA_length] <;> omega
       dsimp only [Nat.reduceAdd, Nat.reduceMul, Nat.reduceSub, List.nil_append, List.cons_append, nbk, List.map_cons, List.map_nil]; apply Trc.step rfl rfl
       exact wnt_n rfl; (with_reducible apply s_move); exact rfl; dsimp only [Nat.reduceAdd, Nat.reduceMul, Nat.reduceSub, List.nil_append, List.cons_append, nbk, List.map_cons, List.map_nil]
       apply Trc.step rfl rfl; exact wnt_n rfl; apply s_call (f := 22) rfl; apply evs.cons rfl; apply evs.cons rfl; exact evs.nil
       apply ArgL.cons; exact arg_clo; apply ArgL.cons; exact arg_clo; exact ArgL.nil; exact hlo _; exact Nat.le_of_ble_eq_true rfl; dsimp only [Nat.reduceAdd, Nat.reduceMul, Nat.reduceSub, List.nil_append, List.cons_append, nbk, List.map_cons, List.map_nil]
       apply Trc.step rfl rfl; exact wnt_n rfl; (with_reducible apply s_move); exact rfl; dsimp only [Nat.reduceAdd, Nat.reduceMul, Nat.reduceSub, List.nil_append, List.cons_append, nbk, List.map_cons, List.map_nil]
       apply Trc.step rfl rfl; exact wnt_n rfl; (with_reducible apply s_extract); exact rfl; exact rfl; dsimp only [Nat.reduceAdd, Nat.reduceMul, Nat.reduceSub, List.nil_append, List.cons_append, nbk, List.map_cons, List.map_nil]
       apply Trc.step rfl rfl; exact wnt_n rfl; (with_reducible apply s_extract); exact rfl; exact rfl; dsimp only [Nat.reduceAdd, Nat.reduceMul, Nat.reduceSub, List.nil_append, List.cons_append, nbk, List.map_cons, List.map_nil]
       apply Trc.step rfl rfl; exact wnt_n rfl; (with_reducible apply s_assign); exact rfl; dsimp only [Nat.reduceAdd, Nat.reduceMul, Nat.reduceSub, List.nil_append, List.cons_append, nbk, List.map_cons, List.map_nil]
       apply Trc.step rfl rfl; exact wnt_n rfl; (with_reducible apply s_assign); exact rfl; dsimp only [Nat.reduceAdd, Nat.reduceMul, Nat.reduceSub, List.nil_append, List.cons_append, nbk, List.map_cons, List.map_nil]
       exact Trc.done _ _ _; exact rfl; (with_reducible refine thn_n ?_); (with_reducible refine Gol.seq ?_); (with_reducible apply Gol.region); apply Trc.step rfl rfl
       exact wnt_n rfl; (with_reducible apply s_move); exact rfl; dsimp only [Nat.reduceAdd, Nat.reduceMul, Nat.reduceSub, List.nil_append, List.cons_append, nbk, List.map_cons, List.map_nil]
       apply Trc.step rfl rfl; exact wnt_n rfl; (with_reducible apply s_move); exact rfl; dsimp only [Nat.reduceAdd, Nat.reduceMul, Nat.reduceSub, List.nil_append, List.cons_append, nbk, List.map_cons, List.map_nil]
       apply Trc.step rfl rfl; exact wnt_n rfl; (with_reducible apply s_move); exact rfl; dsimp only [Nat.reduceAdd, Nat.reduceMul, Nat.reduceSub, List.nil_append, List.cons_append, nbk, List.map_cons, List.map_nil]
       apply Trc.step rfl rfl; exact wnt_n rfl; (with_reducible apply s_slE); exact rfl; exact ⟨_, rfl⟩; exact rfl; omega; omega; simp only [byA_length, List.length_append, List.length_cons, List.length_nil, List.length_take, List.length_drop, List.length_replicate, List.length_map, Nat.mul_one, nameB_length, flat_length, List.length_set, inA_length] <;> omega
       dsimp only [Nat.reduceAdd, Nat.reduceMul, Nat.reduceSub, List.nil_append, List.cons_append, nbk, List.map_cons, List.map_nil]; apply Trc.step rfl rfl
       exact wnt_n rfl; apply s_call (f := 23) rfl; apply evs.cons rfl; exact evs.nil; apply ArgL.cons; exact arg_clo; exact ArgL.nil
       exact hhi _; exact Nat.le_of_ble_eq_true rfl; dsimp only [Nat.reduceAdd, Nat.reduceMul, Nat.reduceSub, List.nil_append, List.cons_append, nbk, List.map_cons, List.map_nil]
       apply Trc.step rfl rfl; exact wnt_n rfl; (with_reducible apply s_lit); apply PA.cons; exact rfl; exact rfl; exact rfl; exact PA.nil; exact rfl; omega
       dsimp only [Nat.reduceAdd, Nat.reduceMul, Nat.reduceSub, List.nil_append, List.cons_append, nbk, List.map_cons, List.map_nil]; apply Trc.step rfl rfl
       exact wnt_n rfl; (with_reducible apply s_app); exact rfl; exact rfl; exact rfl; apply rd_sl rfl; rfl; simp only [byA_length, List.length_append, List.length_cons, List.length_nil, List.length_take, List.length_drop, List.length_replicate, List.length_map, Nat.mul_one, nameB_length, flat_length, List.length_set, inA_length] <;> omega
       exact rfl; exact rfl; rfl; omega; dsimp only [Nat.reduceAdd, Nat.reduceMul, Nat.reduceSub, List.nil_append, List.cons_append, nbk, List.map_cons, List.map_nil]
       apply Trc.step rfl rfl; exact wnt_n rfl; (with_reducible apply s_assign); exact rfl; dsimp only [Nat.reduceAdd, Nat.reduceMul, Nat.reduceSub, List.nil_append, List.cons_append, nbk, List.map_cons, List.map_nil]
       apply Trc.step rfl rfl; exact wnt_n rfl; (with_reducible apply s_assign); exact rfl; dsimp only [Nat.reduceAdd, Nat.reduceMul, Nat.reduceSub, List.nil_append, List.cons_append, nbk, List.map_cons, List.map_nil]
       exact Trc.done _ _ _; exact rfl; (with_reducible refine thn_n ?_); (with_reducible refine Gol.ret ?_); (with_reducible refine thn_r ?_))
      rw [grow_eq2, path_lo S hl h2 hk', dep_lo h2 hk']
      (apply RetQ.mk (by first | exact .inr rfl | exact .inl rfl); apply res_2 rfl; exact res_tmp rfl; exact res_tmp rfl; exact out_tp rfl)
    · have hk' : ¬ i < splitN n := of_decide_eq_false hk
      have hhi : ∀ ff, Fresh Try.prog 22 [.ex (n - splitN n) ff (List.take ((n - splitN n) * 8) (List.drop (splitN n * 8) (byA (flat l)))), .v (.int .i64 ((i - splitN n : Nat) : Int))] (fun k => .tp [.sl k (depN (i - splitN n) (n - splitN n)), .v (.bool true)]) [⟨byA (flat (pathN S (l.drop (splitN n)) (i - splitN n))), 26, 8⟩] := fun ff => by
        rw [seg_hi l _ n hl]; exact ih _ (by omega) _ _ ff (by simp; omega) (by omega) (by omega)
      have hlo : ∀ ff, Fresh Try.prog 23 [.ex (splitN n - 0) ff (List.take ((splitN n - 0) * 8) (List.drop 0 (byA (flat l))))] (fun _ => .v (.agg (nameC (rootN S (l.take (splitN n)))))) [] := fun ff => by
        rw [seg_lo]; exact refRoot_ok S hS _ _ ff (by simp; omega) (by omega)
      have hpl := path_len S (n - splitN n) (l.drop (splitN n)) (i - splitN n) (by simp; omega)
      have hdl := dep_lt (n - splitN n) (i - splitN n) (by omega)
      ((with_reducible refine Gol.skip ?_); (with_reducible refine thn_n ?_); (with_reducible refine Gol.seq ?_); (with_reducible apply Gol.region); apply Trc.step rfl rfl
       exact wnt_n rfl; (with_reducible apply s_move); exact rfl; dsimp only [Nat.reduceAdd, Nat.reduceMul, Nat.reduceSub, List.nil_append, List.cons_append, nbk, List.map_cons, List.map_nil]
       apply Trc.step rfl rfl; exact wnt_n rfl; (with_reducible apply s_move); exact rfl; dsimp only [Nat.reduceAdd, Nat.reduceMul, Nat.reduceSub, List.nil_append, List.cons_append, nbk, List.map_cons, List.map_nil]
       apply Trc.step rfl rfl; exact wnt_n rfl; (with_reducible apply s_slE); exact rfl; exact ⟨_, rfl⟩; exact rfl; omega; omega; simp only [byA_length, List.length_append, List.length_cons, List.length_nil, List.length_take, List.length_drop, List.length_replicate, List.length_map, Nat.mul_one, nameB_length, flat_length, List.length_set, inA_length] <;> omega
       dsimp only [Nat.reduceAdd, Nat.reduceMul, Nat.reduceSub, List.nil_append, List.cons_append, nbk, List.map_cons, List.map_nil]; apply Trc.step rfl rfl
       exact wnt_n rfl; (with_reducible apply s_move); exact rfl; dsimp only [Nat.reduceAdd, Nat.reduceMul, Nat.reduceSub, List.nil_append, List.cons_append, nbk, List.map_cons, List.map_nil]
       apply Trc.step rfl rfl; exact wnt_n rfl; (with_reducible apply s_move); exact rfl; dsimp only [Nat.reduceAdd, Nat.reduceMul, Nat.reduceSub, List.nil_append, List.cons_append, nbk, List.map_cons, List.map_nil]
       apply Trc.step rfl rfl; exact wnt_n rfl; (with_reducible apply s_subn); exact rfl; exact rfl; omega; omega; dsimp only [Nat.reduceAdd, Nat.reduceMul, Nat.reduceSub, List.nil_append, List.cons_append, nbk, List.map_cons, List.map_nil]
       apply Trc.step rfl rfl; exact wnt_n rfl; apply s_call (f := 22) rfl; apply evs.cons rfl; apply evs.cons rfl; exact evs.nil
       apply ArgL.cons; exact arg_clo; apply ArgL.cons; exact arg_clo; exact ArgL.nil; exact hhi _; exact Nat.le_of_ble_eq_true rfl; dsimp only [Nat.reduceAdd, Nat.reduceMul, Nat.reduceSub, List.nil_append, List.cons_append, nbk, List.map_cons, List.map_nil]
       apply Trc.step rfl rfl; exact wnt_n rfl; (with_reducible apply s_move); exact rfl; dsimp only [Nat.reduceAdd, Nat.reduceMul, Nat.reduceSub, List.nil_append, List.cons_append, nbk, List.map_cons, List.map_nil]
       apply Trc.step rfl rfl; exact wnt_n rfl; (with_reducible apply s_extract); exact rfl; exact rfl; dsimp only [Nat.reduceAdd, Nat.reduceMul, Nat.reduceSub, List.nil_append, List.cons_append, nbk, List.map_cons, List.map_nil]
       apply Trc.step rfl rfl; exact wnt_n rfl; (with_reducible apply s_extract); exact rfl; exact rfl; dsimp only [Nat.reduceAdd, Nat.reduceMul, Nat.reduceSub, List.nil_append, List.cons_append, nbk, List.map_cons, List.map_nil]
       apply Trc.step rfl rfl; exact wnt_n rfl; (with_reducible apply s_assign); exact rfl; dsimp only [Nat.reduceAdd, Nat.reduceMul, Nat.reduceSub, List.nil_append, List.cons_append, nbk, List.map_cons, List.map_nil]
       apply Trc.step rfl rfl; exact wnt_n rfl; (with_reducible apply s_assign); exact rfl; dsimp only [Nat.reduceAdd, Nat.reduceMul, Nat.reduceSub, List.nil_append, List.cons_append, nbk, List.map_cons, List.map_nil]
       exact Trc.done _ _ _; exact rfl; (with_reducible refine thn_n ?_); (with_reducible refine Gol.seq ?_); (with_reducible apply Gol.region); apply Trc.step rfl rfl
       exact wnt_n rfl; (with_reducible apply s_move); exact rfl; dsimp only [Nat.reduceAdd, Nat.reduceMul, Nat.reduceSub, List.nil_append, List.cons_append, nbk, List.map_cons, List.map_nil]
       apply Trc.step rfl rfl; exact wnt_n rfl; (with_reducible apply s_move); exact rfl; dsimp only [Nat.reduceAdd, Nat.reduceMul, Nat.reduceSub, List.nil_append, List.cons_append, nbk, List.map_cons, List.map_nil]
       apply Trc.step rfl rfl; exact wnt_n rfl; (with_reducible apply s_move); exact rfl; dsimp only [Nat.reduceAdd, Nat.reduceMul, Nat.reduceSub, List.nil_append, List.cons_append, nbk, List.map_cons, List.map_nil]
       apply Trc.step rfl rfl; exact wnt_n rfl; (with_reducible apply s_slE); exact rfl; exact rfl; exact ⟨_, rfl⟩; omega; omega; simp only [byA_length, List.length_append, List.length_cons, List.length_nil, List.length_take, List.length_drop, List.length_replicate, List.length_map, Nat.mul_one, nameB_length, flat_length, List.length_set, inA_length] <;> omega
       dsimp only [Nat.reduceAdd, Nat.reduceMul, Nat.reduceSub, List.nil_append, List.cons_append, nbk, List.map_cons, List.map_nil]; apply Trc.step rfl rfl
       exact wnt_n rfl; apply s_call (f := 23) rfl; apply evs.cons rfl; exact evs.nil; apply ArgL.cons; exact arg_clo; exact ArgL.nil
       exact hlo _; exact Nat.le_of_ble_eq_true rfl; dsimp only [Nat.reduceAdd, Nat.reduceMul, Nat.reduceSub, List.nil_append, List.cons_append, nbk, List.map_cons, List.map_nil]
       apply Trc.step rfl rfl; exact wnt_n rfl; (with_reducible apply s_lit); apply PA.cons; exact rfl; exact rfl; exact rfl; exact PA.nil; exact rfl; omega
       dsimp only [Nat.reduceAdd, Nat.reduceMul, Nat.reduceSub, List.nil_append, List.cons_append, nbk, List.map_cons, List.map_nil]; apply Trc.step rfl rfl
       exact wnt_n rfl; (with_reducible apply s_app); exact rfl; exact rfl; exact rfl; apply rd_sl rfl; rfl; simp only [byA_length, List.length_append, List.length_cons, List.length_nil, List.length_take, List.length_drop, List.length_replicate, List.length_map, Nat.mul_one, nameB_length, flat_length, List.length_set, inA_length] <;> omega
       exact rfl; exact rfl; rfl; omega; dsimp only [Nat.reduceAdd, Nat.reduceMul, Nat.reduceSub, List.nil_append, List.cons_append, nbk, List.map_cons, List.map_nil]
       apply Trc.step rfl rfl; exact wnt_n rfl; (with_reducible apply s_assign); exact rfl; dsimp only [Nat.reduceAdd, Nat.reduceMul, Nat.reduceSub, List.nil_append, List.cons_append, nbk, List.map_cons, List.map_nil]
       apply Trc.step rfl rfl; exact wnt_n rfl; (with_reducible apply s_assign); exact rfl; dsimp only [Nat.reduceAdd, Nat.reduceMul, Nat.reduceSub, List.nil_append, List.cons_append, nbk, List.map_cons, List.map_nil]
       exact Trc.done _ _ _; exact rfl; (with_reducible refine thn_n ?_); (with_reducible refine Gol.ret ?_))
      rw [grow_eq2, path_hi S hl h2 hk', dep_hi h2 hk']
      (apply RetQ.mk (by first | exact .inr rfl | exact .inl rfl); apply res_2 rfl; exact res_tmp rfl; exact res_tmp rfl; exact out_tp rfl)
omit hS
theorem path_no (n : Nat) (l : List UInt64) (i : Int) (f : Bool) (hi : ¬ (0 ≤ i ∧ i < n)) : Fresh Try.prog 21 [.ex n f (byA (flat l)), .v (.int .i64 i)] (fun k => .tp [.sl k 0, .v (.bool false)]) [⟨[], 26, 8⟩] := by
  apply Fresh.nilTp
  refine Fresh.of (fn := Try.f21) Try.func21 rfl (Nat.le_of_ble_eq_true rfl) fun w => ?_
  ((with_reducible refine Gol.seq ?_); (with_reducible apply Gol.region); apply Trc.step rfl rfl; exact wnt_n rfl; (with_reducible apply s_assign); exact rfl
   dsimp only [Nat.reduceAdd, Nat.reduceMul, Nat.reduceSub, List.nil_append, List.cons_append, nbk, List.map_cons, List.map_nil]; apply Trc.step rfl rfl
   exact wnt_n rfl; (with_reducible apply s_assign); exact rfl; dsimp only [Nat.reduceAdd, Nat.reduceMul, Nat.reduceSub, List.nil_append, List.cons_append, nbk, List.map_cons, List.map_nil]
   exact Trc.done _ _ _; exact rfl; (with_reducible refine thn_n ?_); (with_reducible refine Gol.seq ?_); (with_reducible refine Gol.seq ?_); (with_reducible apply Gol.region)
   apply Trc.step rfl rfl; exact wnt_n rfl; (with_reducible apply s_move); exact rfl; dsimp only [Nat.reduceAdd, Nat.reduceMul, Nat.reduceSub, List.nil_append, List.cons_append, nbk, List.map_cons, List.map_nil]
   apply Trc.step rfl rfl; exact wnt_n rfl; (with_reducible apply s_move); exact rfl; dsimp only [Nat.reduceAdd, Nat.reduceMul, Nat.reduceSub, List.nil_append, List.cons_append, nbk, List.map_cons, List.map_nil]
   apply Trc.step rfl rfl; exact wnt_n rfl; (with_reducible apply s_len); exact rfl; exact ln_ex; dsimp only [Nat.reduceAdd, Nat.reduceMul, Nat.reduceSub, List.nil_append, List.cons_append, nbk, List.map_cons, List.map_nil]
   apply Trc.step rfl rfl; exact wnt_n rfl; apply s_call (f := 10) rfl; apply evs.cons rfl; apply evs.cons rfl; exact evs.nil; apply ArgL.cons
   exact arg_clo; apply ArgL.cons; exact arg_clo; exact ArgL.nil; exact depth_no i n hi; exact Nat.le_of_ble_eq_true rfl; dsimp only [Nat.reduceAdd, Nat.reduceMul, Nat.reduceSub, List.nil_append, List.cons_append, nbk, List.map_cons, List.map_nil]
   apply Trc.step rfl rfl; exact wnt_n rfl; (with_reducible apply s_lt); exact rfl; exact rfl; dsimp only [Nat.reduceAdd, Nat.reduceMul, Nat.reduceSub, List.nil_append, List.cons_append, nbk, List.map_cons, List.map_nil]
   exact Trc.done _ _ _; exact rfl; (with_reducible refine thn_n ?_))
  refine Gol.cond_t rfl (by decide) ?_
  ((with_reducible refine Gol.seq ?_); (with_reducible apply Gol.region); apply Trc.step rfl rfl; exact wnt_n rfl; (with_reducible apply s_assign); exact rfl
   dsimp only [Nat.reduceAdd, Nat.reduceMul, Nat.reduceSub, List.nil_append, List.cons_append, nbk, List.map_cons, List.map_nil]; apply Trc.step rfl rfl
   exact wnt_n rfl; (with_reducible apply s_assign); exact rfl; dsimp only [Nat.reduceAdd, Nat.reduceMul, Nat.reduceSub, List.nil_append, List.cons_append, nbk, List.map_cons, List.map_nil]
   exact Trc.done _ _ _; exact rfl; (with_reducible refine thn_n ?_); (with_reducible refine Gol.ret ?_); (with_reducible refine thn_r ?_))
  (apply RetQ.mk (by first | exact .inr rfl | exact .inl rfl); apply res_2 rfl; exact res_tmp rfl; exact res_tmp rfl; exact out_val)
theorem refPath_no (n : Nat) (l : List UInt64) (i : Int) (f : Bool) (hi : ¬ (0 ≤ i ∧ i < n)) : Fresh Try.prog 22 [.ex n f (byA (flat l)), .v (.int .i64 i)] (fun k => .tp [.sl k 0, .v (.bool false)]) [⟨[], 26, 8⟩] := by
  apply Fresh.nilTp
  by_cases h0 : i < 0
  · refine Fresh.of (fn := Try.f22) Try.func22 rfl (Nat.le_of_ble_eq_true rfl) fun w => ?_
    ((with_reducible refine Gol.seq ?_); (with_reducible apply Gol.region); apply Trc.step rfl rfl; exact wnt_n rfl; (with_reducible apply s_assign); exact rfl
     dsimp only [Nat.reduceAdd, Nat.reduceMul, Nat.reduceSub, List.nil_append, List.cons_append, nbk, List.map_cons, List.map_nil]; apply Trc.step rfl rfl
     exact wnt_n rfl; (with_reducible apply s_assign); exact rfl; dsimp only [Nat.reduceAdd, Nat.reduceMul, Nat.reduceSub, List.nil_append, List.cons_append, nbk, List.map_cons, List.map_nil]
     exact Trc.done _ _ _; exact rfl; (with_reducible refine thn_n ?_); (with_reducible refine Gol.seq ?_); (with_reducible refine Gol.seq ?_); (with_reducible apply Gol.region)
     apply Trc.step rfl rfl; exact wnt_n rfl; (with_reducible apply s_move); exact rfl; dsimp only [Nat.reduceAdd, Nat.reduceMul, Nat.reduceSub, List.nil_append, List.cons_append, nbk, List.map_cons, List.map_nil]
     apply Trc.step rfl rfl; exact wnt_n rfl; (with_reducible apply s_lt); exact rfl; exact rfl; dsimp only [Nat.reduceAdd, Nat.reduceMul, Nat.reduceSub, List.nil_append, List.cons_append, nbk, List.map_cons, List.map_nil]
     apply Trc.step rfl rfl; exact wnt_n rfl; (with_reducible apply s_move); exact rfl; dsimp only [Nat.reduceAdd, Nat.reduceMul, Nat.reduceSub, List.nil_append, List.cons_append, nbk, List.map_cons, List.map_nil]
     apply Trc.skip rfl rfl; apply wnt_g; exact rfl; exact rfl; exact rfl; (focus (simp only [*]; rfl)); dsimp only [Nat.reduceAdd, Nat.reduceMul, Nat.reduceSub, List.nil_append, List.cons_append, nbk, List.map_cons, List.map_nil]
     apply Trc.skip rfl rfl; apply wnt_g; exact rfl; exact rfl; exact rfl; (focus (simp only [*]; rfl)); dsimp only [Nat.reduceAdd, Nat.reduceMul, Nat.reduceSub, List.nil_append, List.cons_append, nbk, List.map_cons, List.map_nil]
     apply Trc.skip rfl rfl; apply wnt_g; exact rfl; exact rfl; exact rfl; (focus (simp only [*]; rfl)); dsimp only [Nat.reduceAdd, Nat.reduceMul, Nat.reduceSub, List.nil_append, List.cons_append, nbk, List.map_cons, List.map_nil]
     apply Trc.skip rfl rfl; apply wnt_g; exact rfl; exact rfl; exact rfl; (focus (simp only [*]; rfl)); dsimp only [Nat.reduceAdd, Nat.reduceMul, Nat.reduceSub, List.nil_append, List.cons_append, nbk, List.map_cons, List.map_nil]
     apply Trc.step rfl rfl; exact wnt_n rfl; (with_reducible apply s_pick_t); exact rfl; (focus (simp only [*]; rfl)); exact rfl; dsimp only [Nat.reduceAdd, Nat.reduceMul, Nat.reduceSub, List.nil_append, List.cons_append, nbk, List.map_cons, List.map_nil]
     exact Trc.done _ _ _; exact rfl; (with_reducible refine thn_n ?_))
    refine Gol.cond_t rfl (by simp [h0]) ?_
    ((with_reducible refine Gol.seq ?_); (with_reducible apply Gol.region); apply Trc.step rfl rfl; exact wnt_n rfl; (with_reducible apply s_assign); exact rfl
     dsimp only [Nat.reduceAdd, Nat.reduceMul, Nat.reduceSub, List.nil_append, List.cons_append, nbk, List.map_cons, List.map_nil]; apply Trc.step rfl rfl
     exact wnt_n rfl; (with_reducible apply s_assign); exact rfl; dsimp only [Nat.reduceAdd, Nat.reduceMul, Nat.reduceSub, List.nil_append, List.cons_append, nbk, List.map_cons, List.map_nil]
     exact Trc.done _ _ _; exact rfl; (with_reducible refine thn_n ?_); (with_reducible refine Gol.ret ?_); (with_reducible refine thn_r ?_))
    (apply RetQ.mk (by first | exact .inr rfl | exact .inl rfl); apply res_2 rfl; exact res_tmp rfl; exact res_tmp rfl; exact out_val)
  · have h1 : (n : Int) ≤ i := by omega
    refine Fresh.of (fn := Try.f22) Try.func22 rfl (Nat.le_of_ble_eq_true rfl) fun w => ?_
    ((with_reducible refine Gol.seq ?_); (with_reducible apply Gol.region); apply Trc.step rfl rfl; exact wnt_n rfl; (with_reducible apply s_assign); exact rfl
     dsimp only [Nat.reduceAdd, Nat.reduceMul, Nat.reduceSub, List.nil_append, List.cons_append, nbk, List.map_cons, List.map_nil]; apply Trc.step rfl rfl
     exact wnt_n rfl; (with_reducible apply s_assign); exact rfl; dsimp only [Nat.reduceAdd, Nat.reduceMul, Nat.reduceSub, List.nil_append, List.cons_append, nbk, List.map_cons, List.map_nil]
     exact Trc.done _ _ _; exact rfl; (with_reducible refine thn_n ?_); (with_reducible refine Gol.seq ?_); (with_reducible refine Gol.seq ?_); (with_reducible apply Gol.region)
     apply Trc.step rfl rfl; exact wnt_n rfl; (with_reducible apply s_move); exact rfl; dsimp only [Nat.reduceAdd, Nat.reduceMul, Nat.reduceSub, List.nil_append, List.cons_append, nbk, List.map_cons, List.map_nil]
     apply Trc.step rfl rfl; exact wnt_n rfl; (with_reducible apply s_lt); exact rfl; exact rfl; dsimp only [Nat.reduceAdd, Nat.reduceMul, Nat.reduceSub, List.nil_append, List.cons_append, nbk, List.map_cons, List.map_nil]
     apply Trc.step rfl rfl; exact wnt_n rfl; (with_reducible apply s_move); exact rfl; dsimp only [Nat.reduceAdd, Nat.reduceMul, Nat.reduceSub, List.nil_append, List.cons_append, nbk, List.map_cons, List.map_nil]
     apply Trc.step rfl rfl; apply wnt_g; exact rfl; exact rfl; exact rfl; (focus (simp only [*]; rfl)); (with_reducible apply s_move); exact rfl; dsimp only [Nat.reduceAdd, Nat.reduceMul, Nat.reduceSub, List.nil_append, List.cons_append, nbk, List.map_cons, List.map_nil]
     apply Trc.step rfl rfl; apply wnt_g; exact rfl; exact rfl; exact rfl; (focus (simp only [*]; rfl)); (with_reducible apply s_move); exact rfl; dsimp only [Nat.reduceAdd, Nat.reduceMul, Nat.reduceSub, List.nil_append, List.cons_append, nbk, List.map_cons, List.map_nil]
     apply Trc.step rfl rfl; apply wnt_g; exact rfl; exact rfl; exact rfl; (focus (simp only [*]; rfl)); (with_reducible apply s_len); exact rfl; exact ln_ex
     dsimp only [Nat.reduceAdd, Nat.reduceMul, Nat.reduceSub, List.nil_append, List.cons_append, nbk, List.map_cons, List.map_nil]; apply Trc.step rfl rfl
     apply wnt_g; exact rfl; exact rfl; exact rfl; (focus (simp only [*]; rfl)); (with_reducible apply s_ge); exact rfl; exact rfl; dsimp only [Nat.reduceAdd, Nat.reduceMul, Nat.reduceSub, List.nil_append, List.cons_append, nbk, List.map_cons, List.map_nil]
     apply Trc.step rfl rfl; exact wnt_n rfl; (with_reducible apply s_pick_f); exact rfl; (focus (simp only [*]; rfl)); exact rfl; dsimp only [Nat.reduceAdd, Nat.reduceMul, Nat.reduceSub, List.nil_append, List.cons_append, nbk, List.map_cons, List.map_nil]
     exact Trc.done _ _ _; exact rfl; (with_reducible refine thn_n ?_))
    refine Gol.cond_t rfl (decide_eq_true h1) ?_
    ((with_reducible refine Gol.seq ?_); (with_reducible apply Gol.region); apply Trc.step rfl rfl; exact wnt_n rfl; (with_reducible apply s_assign); exact rfl
     dsimp only [Nat.reduceAdd, Nat.reduceMul, Nat.reduceSub, List.nil_append, List.cons_append, nbk, List.map_cons, List.map_nil]; apply Trc.step rfl rfl
     exact wnt_n rfl; (with_reducible apply s_assign); exact rfl; dsimp only [Nat.reduceAdd, Nat.reduceMul, Nat.reduceSub, List.nil_append, List.cons_append, nbk, List.map_cons, List.map_nil]
     exact Trc.done _ _ _; exact rfl; (with_reducible refine thn_n ?_); (with_reducible refine Gol.ret ?_); (with_reducible refine thn_r ?_))
    (apply RetQ.mk (by first | exact .inr rfl | exact .inl rfl); apply res_2 rfl; exact res_tmp rfl; exact res_tmp rfl; exact out_val)
def compN (leaf : UInt64) (i n : Nat) (p : List UInt64) : UInt64 := if h : 2 ≤ n then (if i < splitN n then S (0x12 :: (nameB (compN leaf i (splitN n) (p.take (depN i n - 1))) ++ nameB (p.getD (depN i n - 1) 0))) else S (0x12 :: (nameB (p.getD (depN i n - 1) 0) ++ nameB (compN leaf (i - splitN n) (n - splitN n) (p.take (depN i n - 1)))))) else S (0x11 :: nameB leaf)
termination_by n
decreasing_by
  · exact (split_bd n h).2.1
  · have := split_bd n h; omega
theorem comp_lo {leaf : UInt64} {i n : Nat} {p : List UInt64} (h : 2 ≤ n) (hi : i < splitN n) : compN S leaf i n p = S (0x12 :: (nameB (compN S leaf i (splitN n) (p.take (depN i n - 1))) ++ nameB (p.getD (depN i n - 1) 0))) := by rw [compN, dif_pos h, if_pos hi]
theorem comp_hi {leaf : UInt64} {i n : Nat} {p : List UInt64} (h : 2 ≤ n) (hi : ¬ i < splitN n) : compN S leaf i n p = S (0x12 :: (nameB (p.getD (depN i n - 1) 0) ++ nameB (compN S leaf (i - splitN n) (n - splitN n) (p.take (depN i n - 1))))) := by rw [compN, dif_pos h, if_neg hi]
theorem comp_one {leaf : UInt64} {i n : Nat} {p : List UInt64} (h : ¬ 2 ≤ n) : compN S leaf i n p = S (0x11 :: nameB leaf) := by rw [compN, dif_neg h]
include hS
theorem computed_ok (leaf : UInt64) (n : Nat) : ∀ (i : Nat) (p : List UInt64) (f : Bool) (d : Nat), i < n → n ≤ 9223372036854775807 → d = depN i n → p.length = d → d ≤ 140737488355000 → Fresh Try.prog 28 [.v (.agg (nameC leaf)), .v (.int .i64 (i : Int)), .v (.int .i64 (n : Int)), .ex d f (byA (flat p))] (fun _ => .v (.agg (nameC (compN S leaf i n p)))) [] := by
  induction n using Nat.strongRecOn with
  | _ n ih =>
    intro i p f d hi hb hd hp hdb
    by_cases h1 : n = 1
    · subst h1
      rw [comp_one S (by decide)]
      refine Fresh.of (fn := Try.f28) Try.func28 rfl (Nat.le_of_ble_eq_true rfl) fun w => ?_
      ((with_reducible refine Gol.seq ?_); (with_reducible apply Gol.region); apply Trc.step rfl rfl; exact wnt_n rfl; (with_reducible apply s_box); exact rfl
       exact rfl; dsimp only [Nat.reduceAdd, Nat.reduceMul, Nat.reduceSub, List.nil_append, List.cons_append, nbk, List.map_cons, List.map_nil]; apply Trc.step rfl rfl
       exact wnt_n rfl; (with_reducible apply s_alloc); dsimp only [Nat.reduceAdd, Nat.reduceMul, Nat.reduceSub, List.nil_append, List.cons_append, nbk, List.map_cons, List.map_nil]
       exact Trc.done _ _ _; exact rfl; (with_reducible refine thn_n ?_); (with_reducible refine Gol.seq ?_); (with_reducible refine Gol.seq ?_); (with_reducible apply Gol.region)
       apply Trc.step rfl rfl; exact wnt_n rfl; (with_reducible apply s_move); exact rfl; dsimp only [Nat.reduceAdd, Nat.reduceMul, Nat.reduceSub, List.nil_append, List.cons_append, nbk, List.map_cons, List.map_nil]
       apply Trc.step rfl rfl; exact wnt_n rfl; (with_reducible apply s_eqn); exact rfl; exact rfl; dsimp only [Nat.reduceAdd, Nat.reduceMul, Nat.reduceSub, List.nil_append, List.cons_append, nbk, List.map_cons, List.map_nil]
       exact Trc.done _ _ _; exact rfl; (with_reducible refine thn_n ?_))
      refine Gol.cond_t rfl (by decide) ?_
      ((with_reducible refine Gol.seq ?_); (with_reducible apply Gol.region); apply Trc.step rfl rfl; exact wnt_n rfl; (with_reducible apply s_loadW); exact rfl
       exact rfl; exact rfl; exact agu_cuv _; dsimp only [Nat.reduceAdd, Nat.reduceMul, Nat.reduceSub, List.nil_append, List.cons_append, nbk, List.map_cons, List.map_nil]
       apply Trc.step rfl rfl; exact wnt_n rfl; apply s_call (f := 31) rfl; apply evs.cons rfl; exact evs.nil; apply ArgL.cons; exact arg_clo
       exact ArgL.nil; exact single_ok S hS _; exact Nat.le_of_ble_eq_true rfl; dsimp only [Nat.reduceAdd, Nat.reduceMul, Nat.reduceSub, List.nil_append, List.cons_append, nbk, List.map_cons, List.map_nil]
       apply Trc.stepN rfl rfl; exact wnt_n rfl; (with_reducible apply s_storeW); exact rfl; exact rfl; exact rfl; exact rfl; rfl; exact rfl; dsimp only [Nat.reduceAdd, Nat.reduceMul, Nat.reduceSub, List.nil_append, List.cons_append, nbk, List.map_cons, List.map_nil]
       exact Trc.done _ _ _; exact rfl; (with_reducible refine thn_n ?_); (with_reducible refine Gol.ret ?_); (with_reducible refine thn_r ?_))
      (apply RetQ.mk (by first | exact .inr rfl | exact .inl rfl); apply res_1 rfl; exact res_cell rfl rfl rfl (agu_cuv _); exact out_val)
    have h2 : 2 ≤ n := by omega
    have hsp := split_bd n h2
    refine Fresh.of (fn := Try.f28) Try.func28 rfl (Nat.le_of_ble_eq_true rfl) fun w => ?_
    ((with_reducible refine Gol.seq ?_); (with_reducible apply Gol.region); apply Trc.step rfl rfl; exact wnt_n rfl; (with_reducible apply s_box); exact rfl
     exact rfl; dsimp only [Nat.reduceAdd, Nat.reduceMul, Nat.reduceSub, List.nil_append, List.cons_append, nbk, List.map_cons, List.map_nil]; apply Trc.step rfl rfl
     exact wnt_n rfl; (with_reducible apply s_alloc); dsimp only [Nat.reduceAdd, Nat.reduceMul, Nat.reduceSub, List.nil_append, List.cons_append, nbk, List.map_cons, List.map_nil]
     exact Trc.done _ _ _; exact rfl; (with_reducible refine thn_n ?_); (with_reducible refine Gol.seq ?_); (with_reducible refine Gol.seq ?_); (with_reducible apply Gol.region)
     apply Trc.step rfl rfl; exact wnt_n rfl; (with_reducible apply s_move); exact rfl; dsimp only [Nat.reduceAdd, Nat.reduceMul, Nat.reduceSub, List.nil_append, List.cons_append, nbk, List.map_cons, List.map_nil]
     apply Trc.step rfl rfl; exact wnt_n rfl; (with_reducible apply s_eqn); exact rfl; exact rfl; dsimp only [Nat.reduceAdd, Nat.reduceMul, Nat.reduceSub, List.nil_append, List.cons_append, nbk, List.map_cons, List.map_nil]
     exact Trc.done _ _ _; exact rfl; (with_reducible refine thn_n ?_))
    refine Gol.cond_f rfl (decide_eq_false h1) ?_
    by_cases hk' : i < splitN n
    · have hdd := dep_lo h2 hk'
      have hlo : ∀ ff, Fresh Try.prog 28 [.v (.agg (nameC leaf)), .v (.int .i64 (i : Int)), .v (.int .i64 (splitN n : Int)), .ex (d - 1 - 0) ff (List.take ((d - 1 - 0) * 8) (List.drop 0 (byA (flat p))))] (fun _ => .v (.agg (nameC (compN S leaf i (splitN n) (p.take (d - 1)))))) [] := fun ff => by
        rw [seg_lo]; exact ih _ (by omega) i _ ff _ hk' (by omega) (by omega) (by simp; omega) (by omega)
      ((with_reducible refine Gol.skip ?_); (with_reducible refine thn_n ?_); (with_reducible refine Gol.seq ?_); (with_reducible apply Gol.region); apply Trc.step rfl rfl
       exact wnt_n rfl; (with_reducible apply s_move); exact rfl; dsimp only [Nat.reduceAdd, Nat.reduceMul, Nat.reduceSub, List.nil_append, List.cons_append, nbk, List.map_cons, List.map_nil]
       apply Trc.step rfl rfl; exact wnt_n rfl; apply s_call (f := 26) rfl; apply evs.cons rfl; exact evs.nil; apply ArgL.cons; exact arg_clo
       exact ArgL.nil; exact split_ok n (by omega) (by omega); exact Nat.le_of_ble_eq_true rfl; dsimp only [Nat.reduceAdd, Nat.reduceMul, Nat.reduceSub, List.nil_append, List.cons_append, nbk, List.map_cons, List.map_nil]
       apply Trc.step rfl rfl; exact wnt_n rfl; (with_reducible apply s_move); exact rfl; dsimp only [Nat.reduceAdd, Nat.reduceMul, Nat.reduceSub, List.nil_append, List.cons_append, nbk, List.map_cons, List.map_nil]
       apply Trc.step rfl rfl; exact wnt_n rfl; (with_reducible apply s_len); exact rfl; exact ln_ex; dsimp only [Nat.reduceAdd, Nat.reduceMul, Nat.reduceSub, List.nil_append, List.cons_append, nbk, List.map_cons, List.map_nil]
       apply Trc.step rfl rfl; exact wnt_n rfl; (with_reducible apply s_subn); exact rfl; exact rfl; simp <;> omega; omega; dsimp only [Nat.reduceAdd, Nat.reduceMul, Nat.reduceSub, List.nil_append, List.cons_append, nbk, List.map_cons, List.map_nil]
       apply Trc.step rfl rfl; exact wnt_n rfl; (with_reducible apply s_assign); exact rfl; dsimp only [Nat.reduceAdd, Nat.reduceMul, Nat.reduceSub, List.nil_append, List.cons_append, nbk, List.map_cons, List.map_nil]
       apply Trc.step rfl rfl; exact wnt_n rfl; (with_reducible apply s_assign); exact rfl; dsimp only [Nat.reduceAdd, Nat.reduceMul, Nat.reduceSub, List.nil_append, List.cons_append, nbk, List.map_cons, List.map_nil]
       exact Trc.done _ _ _; exact rfl; (with_reducible refine thn_n ?_); (with_reducible refine Gol.seq ?_); (with_reducible refine Gol.seq ?_); (with_reducible apply Gol.region)
       apply Trc.step rfl rfl; exact wnt_n rfl; (with_reducible apply s_move); exact rfl; dsimp only [Nat.reduceAdd, Nat.reduceMul, Nat.reduceSub, List.nil_append, List.cons_append, nbk, List.map_cons, List.map_nil]
       apply Trc.step rfl rfl; exact wnt_n rfl; (with_reducible apply s_move); exact rfl; dsimp only [Nat.reduceAdd, Nat.reduceMul, Nat.reduceSub, List.nil_append, List.cons_append, nbk, List.map_cons, List.map_nil]
       apply Trc.step rfl rfl; exact wnt_n rfl; (with_reducible apply s_ltn); exact rfl; exact rfl; dsimp only [Nat.reduceAdd, Nat.reduceMul, Nat.reduceSub, List.nil_append, List.cons_append, nbk, List.map_cons, List.map_nil]
       exact Trc.done _ _ _; exact rfl; (with_reducible refine thn_n ?_))
      refine Gol.cond_t rfl (decide_eq_true hk') ?_
      rw [comp_lo S h2 hk', ← hd]
      ((with_reducible refine Gol.seq ?_); (with_reducible apply Gol.any); kernel_rfl; apply Trc.step rfl rfl; exact wnt_n rfl; (with_reducible apply s_loadW)
       exact rfl; exact rfl; exact rfl; exact agu_cuv _; dsimp only [Nat.reduceAdd, Nat.reduceMul, Nat.reduceSub, List.nil_append, List.cons_append, nbk, List.map_cons, List.map_nil]
       apply Trc.step rfl rfl; exact wnt_n rfl; (with_reducible apply s_move); exact rfl; dsimp only [Nat.reduceAdd, Nat.reduceMul, Nat.reduceSub, List.nil_append, List.cons_append, nbk, List.map_cons, List.map_nil]
       apply Trc.step rfl rfl; exact wnt_n rfl; (with_reducible apply s_move); exact rfl; dsimp only [Nat.reduceAdd, Nat.reduceMul, Nat.reduceSub, List.nil_append, List.cons_append, nbk, List.map_cons, List.map_nil]
       apply Trc.step rfl rfl; exact wnt_n rfl; (with_reducible apply s_move); exact rfl; dsimp only [Nat.reduceAdd, Nat.reduceMul, Nat.reduceSub, List.nil_append, List.cons_append, nbk, List.map_cons, List.map_nil]
       apply Trc.step rfl rfl; exact wnt_n rfl; (with_reducible apply s_move); exact rfl; dsimp only [Nat.reduceAdd, Nat.reduceMul, Nat.reduceSub, List.nil_append, List.cons_append, nbk, List.map_cons, List.map_nil]
       apply Trc.step rfl rfl; exact wnt_n rfl; (with_reducible apply s_slE); exact rfl; exact rfl; exact ⟨_, rfl⟩; omega; omega; simp only [byA_length, List.length_append, List.length_cons, List.length_nil, List.length_take, List.length_drop, List.length_replicate, List.length_map, Nat.mul_one, nameB_length, flat_length, List.length_set, inA_length] <;> omega
       dsimp only [Nat.reduceAdd, Nat.reduceMul, Nat.reduceSub, List.nil_append, List.cons_append, nbk, List.map_cons, List.map_nil]; apply Trc.step rfl rfl
       exact wnt_n rfl; apply s_call (f := 28) rfl; apply evs.cons rfl; apply evs.cons rfl; apply evs.cons rfl; apply evs.cons rfl
       exact evs.nil; apply ArgL.cons; exact arg_clo; apply ArgL.cons; exact arg_clo; apply ArgL.cons; exact arg_clo; apply ArgL.cons; exact arg_clo; exact ArgL.nil
       exact hlo _; exact Nat.le_of_ble_eq_true rfl; dsimp only [Nat.reduceAdd, Nat.reduceMul, Nat.reduceSub, List.nil_append, List.cons_append, nbk, List.map_cons, List.map_nil]
       apply Trc.step rfl rfl; exact wnt_n rfl; (with_reducible apply s_move); exact rfl; dsimp only [Nat.reduceAdd, Nat.reduceMul, Nat.reduceSub, List.nil_append, List.cons_append, nbk, List.map_cons, List.map_nil]
       apply Trc.step rfl rfl; exact wnt_n rfl; (with_reducible apply s_move); exact rfl; dsimp only [Nat.reduceAdd, Nat.reduceMul, Nat.reduceSub, List.nil_append, List.cons_append, nbk, List.map_cons, List.map_nil]
       apply Trc.step rfl rfl; exact wnt_n rfl; (with_reducible apply s_ixe); exact rfl; exact rfl; omega; exact flat_ne (by omega); dsimp only [Nat.reduceAdd, Nat.reduceMul, Nat.reduceSub, List.nil_append, List.cons_append, nbk, List.map_cons, List.map_nil]
       apply Trc.step rfl rfl; exact wnt_n rfl; (with_reducible apply s_loadEN); exact rfl; simp only [byA_length, List.length_append, List.length_cons, List.length_nil, List.length_take, List.length_drop, List.length_replicate, List.length_map, Nat.mul_one, nameB_length, flat_length, List.length_set, inA_length] <;> omega
       exact agu_nm (by omega); dsimp only [Nat.reduceAdd, Nat.reduceMul, Nat.reduceSub, List.nil_append, List.cons_append, nbk, List.map_cons, List.map_nil]
       apply Trc.step rfl rfl; exact wnt_n rfl; apply s_call (f := 19) rfl; apply evs.cons rfl; apply evs.cons rfl; apply evs.cons rfl
       exact evs.nil; apply ArgL.cons; exact arg_clo; apply ArgL.cons; exact arg_clo; apply ArgL.cons; exact arg_clo; exact ArgL.nil; exact hS.pair 0x12 _ _
       exact Nat.le_of_ble_eq_true rfl; dsimp only [Nat.reduceAdd, Nat.reduceMul, Nat.reduceSub, List.nil_append, List.cons_append, nbk, List.map_cons, List.map_nil]
       apply Trc.stepN rfl rfl; exact wnt_n rfl; (with_reducible apply s_storeW); exact rfl; exact rfl; exact rfl; exact rfl; rfl; exact rfl; dsimp only [Nat.reduceAdd, Nat.reduceMul, Nat.reduceSub, List.nil_append, List.cons_append, nbk, List.map_cons, List.map_nil]
       exact Trc.done _ _ _; kernel_rfl; exact rfl; (with_reducible refine thn_n ?_); (with_reducible refine Gol.ret ?_); (with_reducible refine thn_r ?_))
      (apply RetQ.mk (by first | exact .inr rfl | exact .inl rfl); apply res_1 rfl; exact res_cell rfl rfl rfl (agu_cuv _); exact out_val)
    · have hdd := dep_hi h2 hk'
      have hhi : ∀ ff, Fresh Try.prog 28 [.v (.agg (nameC leaf)), .v (.int .i64 ((i - splitN n : Nat) : Int)), .v (.int .i64 ((n - splitN n : Nat) : Int)), .ex (d - 1 - 0) ff (List.take ((d - 1 - 0) * 8) (List.drop 0 (byA (flat p))))] (fun _ => .v (.agg (nameC (compN S leaf (i - splitN n) (n - splitN n) (p.take (d - 1)))))) [] := fun ff => by
        rw [seg_lo]; exact ih _ (by omega) _ _ ff _ (by omega) (by omega) (by omega) (by simp; omega) (by omega)
      ((with_reducible refine Gol.skip ?_); (with_reducible refine thn_n ?_); (with_reducible refine Gol.seq ?_); (with_reducible apply Gol.region); apply Trc.step rfl rfl
       exact wnt_n rfl; (with_reducible apply s_move); exact rfl; dsimp only [Nat.reduceAdd, Nat.reduceMul, Nat.reduceSub, List.nil_append, List.cons_append, nbk, List.map_cons, List.map_nil]
       apply Trc.step rfl rfl; exact wnt_n rfl; apply s_call (f := 26) rfl; apply evs.cons rfl; exact evs.nil; apply ArgL.cons; exact arg_clo
       exact ArgL.nil; exact split_ok n (by omega) (by omega); exact Nat.le_of_ble_eq_true rfl; dsimp only [Nat.reduceAdd, Nat.reduceMul, Nat.reduceSub, List.nil_append, List.cons_append, nbk, List.map_cons, List.map_nil]
       apply Trc.step rfl rfl; exact wnt_n rfl; (with_reducible apply s_move); exact rfl; dsimp only [Nat.reduceAdd, Nat.reduceMul, Nat.reduceSub, List.nil_append, List.cons_append, nbk, List.map_cons, List.map_nil]
       apply Trc.step rfl rfl; exact wnt_n rfl; (with_reducible apply s_len); exact rfl; exact ln_ex; dsimp only [Nat.reduceAdd, Nat.reduceMul, Nat.reduceSub, List.nil_append, List.cons_append, nbk, List.map_cons, List.map_nil]
       apply Trc.step rfl rfl; exact wnt_n rfl; (with_reducible apply s_subn); exact rfl; exact rfl; simp <;> omega; omega; dsimp only [Nat.reduceAdd, Nat.reduceMul, Nat.reduceSub, List.nil_append, List.cons_append, nbk, List.map_cons, List.map_nil]
       apply Trc.step rfl rfl; exact wnt_n rfl; (with_reducible apply s_assign); exact rfl; dsimp only [Nat.reduceAdd, Nat.reduceMul, Nat.reduceSub, List.nil_append, List.cons_append, nbk, List.map_cons, List.map_nil]
       apply Trc.step rfl rfl; exact wnt_n rfl; (with_reducible apply s_assign); exact rfl; dsimp only [Nat.reduceAdd, Nat.reduceMul, Nat.reduceSub, List.nil_append, List.cons_append, nbk, List.map_cons, List.map_nil]
       exact Trc.done _ _ _; exact rfl; (with_reducible refine thn_n ?_); (with_reducible refine Gol.seq ?_); (with_reducible refine Gol.seq ?_); (with_reducible apply Gol.region)
       apply Trc.step rfl rfl; exact wnt_n rfl; (with_reducible apply s_move); exact rfl; dsimp only [Nat.reduceAdd, Nat.reduceMul, Nat.reduceSub, List.nil_append, List.cons_append, nbk, List.map_cons, List.map_nil]
       apply Trc.step rfl rfl; exact wnt_n rfl; (with_reducible apply s_move); exact rfl; dsimp only [Nat.reduceAdd, Nat.reduceMul, Nat.reduceSub, List.nil_append, List.cons_append, nbk, List.map_cons, List.map_nil]
       apply Trc.step rfl rfl; exact wnt_n rfl; (with_reducible apply s_ltn); exact rfl; exact rfl; dsimp only [Nat.reduceAdd, Nat.reduceMul, Nat.reduceSub, List.nil_append, List.cons_append, nbk, List.map_cons, List.map_nil]
       exact Trc.done _ _ _; exact rfl; (with_reducible refine thn_n ?_))
      refine Gol.cond_f rfl (decide_eq_false hk') ?_
      rw [comp_hi S h2 hk', ← hd]
      ((with_reducible refine Gol.skip ?_); (with_reducible refine thn_n ?_); (with_reducible refine Gol.seq ?_); (with_reducible apply Gol.any); kernel_rfl
       apply Trc.step rfl rfl; exact wnt_n rfl; (with_reducible apply s_move); exact rfl; dsimp only [Nat.reduceAdd, Nat.reduceMul, Nat.reduceSub, List.nil_append, List.cons_append, nbk, List.map_cons, List.map_nil]
       apply Trc.step rfl rfl; exact wnt_n rfl; (with_reducible apply s_move); exact rfl; dsimp only [Nat.reduceAdd, Nat.reduceMul, Nat.reduceSub, List.nil_append, List.cons_append, nbk, List.map_cons, List.map_nil]
       apply Trc.step rfl rfl; exact wnt_n rfl; (with_reducible apply s_ixe); exact rfl; exact rfl; omega; exact flat_ne (by omega); dsimp only [Nat.reduceAdd, Nat.reduceMul, Nat.reduceSub, List.nil_append, List.cons_append, nbk, List.map_cons, List.map_nil]
       apply Trc.step rfl rfl; exact wnt_n rfl; (with_reducible apply s_loadEN); exact rfl; simp only [byA_length, List.length_append, List.length_cons, List.length_nil, List.length_take, List.length_drop, List.length_replicate, List.length_map, Nat.mul_one, nameB_length, flat_length, List.length_set, inA_length] <;> omega
       exact agu_nm (by omega); dsimp only [Nat.reduceAdd, Nat.reduceMul, Nat.reduceSub, List.nil_append, List.cons_append, nbk, List.map_cons, List.map_nil]
       apply Trc.step rfl rfl; exact wnt_n rfl; (with_reducible apply s_loadW); exact rfl; exact rfl; exact rfl; exact agu_cuv _; dsimp only [Nat.reduceAdd, Nat.reduceMul, Nat.reduceSub, List.nil_append, List.cons_append, nbk, List.map_cons, List.map_nil]
       apply Trc.step rfl rfl; exact wnt_n rfl; (with_reducible apply s_move); exact rfl; dsimp only [Nat.reduceAdd, Nat.reduceMul, Nat.reduceSub, List.nil_append, List.cons_append, nbk, List.map_cons, List.map_nil]
       apply Trc.step rfl rfl; exact wnt_n rfl; (with_reducible apply s_move); exact rfl; dsimp only [Nat.reduceAdd, Nat.reduceMul, Nat.reduceSub, List.nil_append, List.cons_append, nbk, List.map_cons, List.map_nil]
       apply Trc.step rfl rfl; exact wnt_n rfl; (with_reducible apply s_subn); exact rfl; exact rfl; omega; omega; dsimp only [Nat.reduceAdd, Nat.reduceMul, Nat.reduceSub, List.nil_append, List.cons_append, nbk, List.map_cons, List.map_nil]
       apply Trc.step rfl rfl; exact wnt_n rfl; (with_reducible apply s_move); exact rfl; dsimp only [Nat.reduceAdd, Nat.reduceMul, Nat.reduceSub, List.nil_append, List.cons_append, nbk, List.map_cons, List.map_nil]
       apply Trc.step rfl rfl; exact wnt_n rfl; (with_reducible apply s_move); exact rfl; dsimp only [Nat.reduceAdd, Nat.reduceMul, Nat.reduceSub, List.nil_append, List.cons_append, nbk, List.map_cons, List.map_nil]
       apply Trc.step rfl rfl; exact wnt_n rfl; (with_reducible apply s_subn); exact rfl; exact rfl; omega; omega; dsimp only [Nat.reduceAdd, Nat.reduceMul, Nat.reduceSub, List.nil_append, List.cons_append, nbk, List.map_cons, List.map_nil]
       apply Trc.step rfl rfl; exact wnt_n rfl; (with_reducible apply s_move); exact rfl; dsimp only [Nat.reduceAdd, Nat.reduceMul, Nat.reduceSub, List.nil_append, List.cons_append, nbk, List.map_cons, List.map_nil]
       apply Trc.step rfl rfl; exact wnt_n rfl; (with_reducible apply s_move); exact rfl; dsimp only [Nat.reduceAdd, Nat.reduceMul, Nat.reduceSub, List.nil_append, List.cons_append, nbk, List.map_cons, List.map_nil]
       apply Trc.step rfl rfl; exact wnt_n rfl; (with_reducible apply s_slE); exact rfl; exact rfl; exact ⟨_, rfl⟩; omega; omega; simp only [byA_length, List.length_append, List.length_cons, List.length_nil, List.length_take, List.length_drop, List.length_replicate, List.length_map, Nat.mul_one, nameB_length, flat_length, List.length_set, inA_length] <;> omega
       dsimp only [Nat.reduceAdd, Nat.reduceMul, Nat.reduceSub, List.nil_append, List.cons_append, nbk, List.map_cons, List.map_nil]; apply Trc.step rfl rfl
       exact wnt_n rfl; apply s_call (f := 28) rfl; apply evs.cons rfl; apply evs.cons rfl; apply evs.cons rfl; apply evs.cons rfl
       exact evs.nil; apply ArgL.cons; exact arg_clo; apply ArgL.cons; exact arg_clo; apply ArgL.cons; exact arg_clo; apply ArgL.cons; exact arg_clo; exact ArgL.nil
       exact hhi _; exact Nat.le_of_ble_eq_true rfl; dsimp only [Nat.reduceAdd, Nat.reduceMul, Nat.reduceSub, List.nil_append, List.cons_append, nbk, List.map_cons, List.map_nil]
       apply Trc.step rfl rfl; exact wnt_n rfl; apply s_call (f := 19) rfl; apply evs.cons rfl; apply evs.cons rfl; apply evs.cons rfl
       exact evs.nil; apply ArgL.cons; exact arg_clo; apply ArgL.cons; exact arg_clo; apply ArgL.cons; exact arg_clo; exact ArgL.nil; exact hS.pair 0x12 _ _
       exact Nat.le_of_ble_eq_true rfl; dsimp only [Nat.reduceAdd, Nat.reduceMul, Nat.reduceSub, List.nil_append, List.cons_append, nbk, List.map_cons, List.map_nil]
       apply Trc.stepN rfl rfl; exact wnt_n rfl; (with_reducible apply s_storeW); exact rfl; exact rfl; exact rfl; exact rfl; rfl; exact rfl; dsimp only [Nat.reduceAdd, Nat.reduceMul, Nat.reduceSub, List.nil_append, List.cons_append, nbk, List.map_cons, List.map_nil]
       exact Trc.done _ _ _; kernel_rfl; exact rfl; (with_reducible refine thn_n ?_); (with_reducible refine Gol.ret ?_))
      (apply RetQ.mk (by first | exact .inr rfl | exact .inl rfl); apply res_1 rfl; exact res_cell rfl rfl rfl (agu_cuv _); exact out_val)
end
end Go.Proofs.Ytocmcoknmjojcaa
