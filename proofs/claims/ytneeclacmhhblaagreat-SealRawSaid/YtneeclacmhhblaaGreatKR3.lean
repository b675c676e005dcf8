/-
  Texts laid together: CodS, St9, St10, St11, St12, Act, Map, Vote, It, Oc, Cv, Gn, Cl, Wk, Gv, Ge, Dig, One, Ky. Conditions: as told in each.
-/
import Derived.Test.YtneeclacmhhblaaGreatKR2
set_option linter.unusedSimpArgs false
set_option linter.unusedVariables false
set_option linter.unusedSectionVars false
namespace Go.Proofs.YtneeclacmhhblaaGreat
open Go.RowKit
open Nat (reduceAdd reduceMul reduceSub)

theorem spl_full {n : Nat} {u : AV} {bs : List UInt8} (hn : bs.length = n) : spl (List.replicate (n * 1) u) 0 (List.take n (byA bs)) = byA bs := by
  have : (byA bs).length = n := by rw [byA_length, hn]
  unfold spl
  rw [List.take_zero, List.nil_append, List.take_of_length_le (l := byA bs) (by omega), Nat.zero_add, List.drop_of_length_le (by simp; omega), List.append_nil]
theorem extended_ok (bs : List UInt8) (n m : Nat) (f : Bool) (hn : bs.length = n) (h : n ≤ 140737488355000) (hm : m ≤ 8) : Fresh Tryz.prog 131 [.ex n f (byA bs), .v (.int .i64 (m : Int))] (fun k => .sl k n) [⟨byA bs, 5, 1⟩] := by
  refine Fresh.of (fn := Tryz.f131) Tryz.func131 rfl (lb rfl) fun w => ?_
  (
 apply Gol.sr; apply t0; exact sA rfl; dsimp only [reduceAdd, reduceMul]; exact dn; exact rfl; apply Gol.sr; apply t0; exact sM rfl; apply t0
 exact s_len rfl ln_ex; apply t0; exact sM rfl; apply t0; exact s_len rfl ln_ex; apply t0; exact sM rfl; apply t0; exact s_addn rfl rfl (by omega)
 apply t1; exact s_make rfl rfl rfl (by omega) (by omega); apply t0; exact sA rfl; dsimp only [reduceAdd, reduceMul]; exact dn; exact rfl
 apply Gol.sr; apply t0; exact sM rfl; apply t0; exact sM rfl; apply tq; exact s_copyL rfl rfl rfl (rd_ex (by simp only [byA_length, List.length_append, List.length_cons, List.length_nil, List.length_take, List.length_drop, List.length_replicate, List.length_map, Nat.mul_one, nameB_length, flat_length, List.length_set, inA_length] <;> omega)) (by simp only [byA_length, List.length_append, List.length_cons, List.length_nil, List.length_take, List.length_drop, List.length_replicate, List.length_map, Nat.mul_one, nameB_length, flat_length, List.length_set, inA_length] <;> omega) OneL.one
 dsimp only [reduceAdd, reduceMul, reduceSub, na, ca, nbk, mc, ml]; exact dn; exact rfl; apply Gol.sr
 apply t0; exact sM rfl; apply t0; exact sA rfl; dsimp only [reduceAdd, reduceMul]; exact dn; exact rfl; refine Gol.ret ?_)
  rw [spl_full hn]
  (apply RetQ.mk (by first | exact .inr rfl | exact .inl rfl); apply res_1 rfl; exact res_tmp rfl; exact out_sl rfl)
def byteAt (v : UInt64) (i : Nat) : UInt8 := toU8 ((shr6 v (8 * i)).toNat : Int)
def beB (v : UInt64) (w : Nat) : List UInt8 := (List.range w).map fun j => byteAt v (w - 1 - j)
theorem beB_length (v : UInt64) (w : Nat) : (beB v w).length = w := by simp [beB]
theorem beB_step (v : UInt64) (w m : Nat) (h : m < w) : (beB v w).take m ++ [byteAt v (w - 1 - m)] = (beB v w).take (m + 1) := by
  rw [List.take_succ_eq_append_getElem (by rw [beB_length]; exact h)]
  simp [beB]
def clampW (width : Int) : Nat := (min (max width 0) 8).toNat
theorem clampW_eq (width : Int) : min (max width 0) 8 = (clampW width : Int) := by unfold clampW; omega
theorem clampW_eq' (width : Int) : max 0 (min width 8) = (clampW width : Int) := by unfold clampW; omega
theorem clampW_le (width : Int) : clampW width ≤ 8 := by unfold clampW; omega
theorem appU_next (bs : List UInt8) (v : UInt64) (w m : Nat) (h : m < w) (c : UInt8) (hc : c = byteAt v (w - 1 - m)) : byA (bs ++ (beB v w).take m) ++ [AV.v (.int .u8 (c.toNat : Int))] = byA (bs ++ (beB v w).take (m + 1)) := by
  rw [← beB_step v w m h, hc, ← List.append_assoc, byA_append (bs ++ _) [_]]
  rfl
theorem appUint_ok (bs : List UInt8) (v : UInt64) (width : Int) (n : Nat) (f : Bool) (hn : bs.length = n) (h : n ≤ 140737488355000) : Fresh Tryz.prog 101 [.ex n f (byA bs), .v (.int .u64 (v.toNat : Int)), .v (.int .i64 width)] (fun k => .sl k (n + clampW width)) [⟨byA (bs ++ beB v (clampW width)), 5, 1⟩] := by
  have hw := clampW_le width
  refine Fresh.of (fn := Tryz.f101) Tryz.func101 rfl (lb rfl) fun w => ?_
  (
 apply Gol.sr; apply t0; exact sA rfl; dsimp only [reduceAdd, reduceMul]; exact dn; exact rfl; apply Gol.sr; apply t0; exact sM rfl; apply t0
 exact s_max rfl rfl; apply t0; exact s_min rfl rfl; apply t0; exact sA rfl; dsimp only [reduceAdd, reduceMul]; exact dn; exact rfl; refine Gol.seq ?_)
  simp only [clampW_eq]
  generalize clampW width = W at hw
  (
 apply Gol.region; apply t0; exact sM rfl; apply t0; exact sM rfl; apply tq; exact s_call (f := 131) rfl (eC rfl (eC rfl eN)) (aC aL (aC aL aN)) (extended_ok bs n W f hn h hw) (lb rfl)
 dsimp only [reduceAdd, reduceMul, reduceSub, na, ca, nbk, mc, ml]; apply t0; exact sA rfl
 dsimp only [reduceAdd, reduceMul]; exact dn; exact rfl; refine thn_n ?_; refine Gol.seq ?_; apply Gol.sr; apply t0
 exact sM rfl; apply t0; exact s_sub rfl rfl (by omega); apply t0; exact sA rfl; dsimp only [reduceAdd, reduceMul]; exact dn; exact rfl
 refine Gol.block ?_)
  refine Gol.loop (ι := Nat) (fun m => m ≤ W) (fun m => W - m) 96 (fun m => [(56, some ⟨byA (bs ++ (beB v W).take m), 5, 1⟩)]) (fun m => [(8, .v (.int .i64 ((W : Int) - 1 - m))), (7, .sl 56 (n + m)), (1, .v (.int .u64 (v.toNat : Int)))]) 0 (Nat.zero_le _) ?_ ?_
  · (
 apply Le.mk' []; apply RnT.c; exact rfl; apply Rn.v; congr 1; omega; apply RnT.c; exact rfl; exact Rn.sl rfl rfl; apply RnT.c; exact rfl; exact Rn.v rfl
 exact RnT.n; apply RnH.c; exact rfl; exact rfl; (focus (simp [byA]; done)); exact rfl; exact rfl; exact RnH.n; exact rfl; exact rfl)
  intro m hm
  have hl := beB_length v W
  by_cases hlt : m < W
  · rw [show (W : Int) - 1 - m = ((W - 1 - m : Nat) : Int) by omega]
    have hc := appU_next bs v W m hlt _ rfl
    (
 refine Gol.seq ?_; apply Gol.sr; apply t0; exact sM rfl; apply t0; exact s_gen rfl rfl; dsimp only [reduceAdd, reduceMul]
 exact dn; exact rfl)
    refine Gol.cond_t rfl (by simp) ?_
    (
 refine Gol.skip ?_; refine thn_n ?_; refine Gol.seq ?_; refine Gol.block ?_; apply Gol.region
 apply t0; exact sM rfl; apply t0; exact sM rfl; apply t0; exact sM rfl; apply t0; exact s_muln rfl rfl (by simp <;> omega); apply t0; exact s_shrU rfl rfl (by first | omega | exact lb rfl | decide | (simp <;> omega) | (dsimp <;> omega))
 apply t0; exact s_cu8 rfl; apply tq; exact s_bytesP (PV.cons rfl rfl rfl PV.nil) rfl (by omega); dsimp only [reduceAdd, reduceMul, reduceSub, na, ca, nbk, mc, ml]
 apply tq; exact s_app rfl rfl rfl (rd_sl rfl rfl) (by simp only [byA_length, List.length_append, List.length_cons, List.length_nil, List.length_take, List.length_drop, List.length_replicate, List.length_map, Nat.mul_one, nameB_length, flat_length, List.length_set, inA_length] <;> omega) rfl rfl OneL.one (by omega)
 dsimp only [reduceAdd, reduceMul, reduceSub, na, ca, nbk, mc, ml]; apply t0; exact sA rfl
 dsimp only [reduceAdd, reduceMul]; exact dn; exact rfl; refine inBlk_n ?_; refine thn_n ?_; apply Gol.region
 apply t0; exact sM rfl; apply t0; exact s_sub rfl rfl (by omega); apply t0; exact sA rfl; dsimp only [reduceAdd, reduceMul]; exact dn
 exact rfl)
    refine rnd_n (m + 1) (by omega) (by omega) ?_
    (
 apply Le.mk' [(56, 168)]; apply RnT.c; exact rfl; apply Rn.v; congr 1; omega; apply RnT.c; exact rfl; exact Rn.sl rfl rfl; apply RnT.c; exact rfl; exact Rn.v rfl
 exact RnT.n; apply RnH.c; exact rfl; exact rfl; exact hc; exact rfl; exact rfl; exact RnH.n; exact rfl; exact rfl)
  · obtain rfl : m = W := by omega
    have ht : (beB v m).take m = beB v m := List.take_of_length_le (by rw [beB_length]; exact Nat.le_refl _)
    rw [ht]
    (
 refine Gol.seq ?_; apply Gol.sr; apply t0; exact sM rfl; apply t0; exact s_ge rfl rfl; dsimp only [reduceAdd, reduceMul]
 exact dn; exact rfl)
    refine Gol.cond_f rfl (by simp; omega) ?_
    (
 refine Gol.exit ?_; refine thn_x ?_; refine rnd_x ?_; refine inBlk_hit ?_; refine thn_n ?_
 apply Gol.sr; apply t0; exact sM rfl; apply t0; exact sA rfl; dsimp only [reduceAdd, reduceMul]; exact dn; exact rfl; refine Gol.ret ?_)
    (apply RetQ.mk (by first | exact .inr rfl | exact .inl rfl); apply res_1 rfl; exact res_tmp rfl; exact out_sl rfl)
theorem refAppUint_ok (bs : List UInt8) (v : UInt64) (width : Int) (n : Nat) (f : Bool) (hn : bs.length = n) (h : n ≤ 140737488355000) : Fresh Tryz.prog 137 [.ex n f (byA bs), .v (.int .u64 (v.toNat : Int)), .v (.int .i64 width)] (fun k => .sl k (n + clampW width)) [⟨byA (bs ++ beB v (clampW width)), 5, 1⟩] := by
  have hw := clampW_le width
  refine Fresh.of (fn := Tryz.f137) Tryz.func137 rfl (lb rfl) fun w => ?_
  (
 apply Gol.sr; apply t0; exact sA rfl; dsimp only [reduceAdd, reduceMul]; exact dn; exact rfl; apply Gol.sr; apply tq; exact s_bytesP PV.nil rfl (by omega)
 dsimp only [reduceAdd, reduceMul, reduceSub, na, ca, nbk, mc, ml]; apply t0; exact sM rfl
 apply tq; exact s_app rfl rfl rfl (rd_ex (by simp only [byA_length, List.length_append, List.length_cons, List.length_nil, List.length_take, List.length_drop, List.length_replicate, List.length_map, Nat.mul_one, nameB_length, flat_length, List.length_set, inA_length] <;> omega)) rfl rfl rfl OneL.one (by omega)
 dsimp only [reduceAdd, reduceMul, reduceSub, na, ca, nbk, mc, ml]; apply t0; exact sA rfl
 dsimp only [reduceAdd, reduceMul]; exact dn; exact rfl; refine Gol.seq ?_; apply Gol.sr; apply t0; exact sM rfl; apply t0
 exact s_min rfl rfl; apply t0; exact s_max rfl rfl; apply t0; exact s_sub rfl rfl (by omega); apply t0; exact sA rfl; dsimp only [reduceAdd, reduceMul]
 exact dn; exact rfl; refine Gol.block ?_)
  simp only [clampW_eq', Nat.zero_add]
  generalize clampW width = W at hw
  refine Gol.loop (ι := Nat) (fun m => m ≤ W) (fun m => W - m) 80 (fun m => [(24, some ⟨byA (bs ++ (beB v W).take m), 5, 1⟩)]) (fun m => [(8, .v (.int .i64 ((W : Int) - 1 - m))), (7, .sl 24 (n + m)), (1, .v (.int .u64 (v.toNat : Int)))]) 0 (Nat.zero_le _) ?_ ?_
  · (
 apply Le.mk' []; apply RnT.c; exact rfl; apply Rn.v; congr 1; omega; apply RnT.c; exact rfl; exact Rn.sl rfl rfl; apply RnT.c; exact rfl; exact Rn.v rfl
 exact RnT.n; apply RnH.c; exact rfl; exact rfl; (focus (simp [byA]; done)); exact rfl; exact rfl; exact RnH.n; exact rfl; exact rfl)
  intro m hm
  have hl := beB_length v W
  by_cases hlt : m < W
  · rw [show (W : Int) - 1 - m = ((W - 1 - m : Nat) : Int) by omega]
    have hc := appU_next bs v W m hlt _ rfl
    (
 refine Gol.seq ?_; apply Gol.sr; apply t0; exact sM rfl; apply t0; exact s_gen rfl rfl; dsimp only [reduceAdd, reduceMul]
 exact dn; exact rfl)
    refine Gol.cond_t rfl (by simp) ?_
    (
 refine Gol.skip ?_; refine thn_n ?_; refine Gol.seq ?_; refine Gol.block ?_; apply Gol.region
 apply t0; exact sM rfl; apply t0; exact sM rfl; apply t0; exact sM rfl; apply t0; exact s_muln rfl rfl (by simp <;> omega); apply t0; exact s_cu64 rfl
 apply t0; exact s_shrUc rfl rfl (by first | omega | exact lb rfl | decide | (simp <;> omega) | (dsimp <;> omega)); apply t0; exact s_cu8 rfl; apply tq; exact s_bytesP (PV.cons rfl rfl rfl PV.nil) rfl (by omega); dsimp only [reduceAdd, reduceMul, reduceSub, na, ca, nbk, mc, ml]
 apply tq; exact s_app rfl rfl rfl (rd_sl rfl rfl) (by simp only [byA_length, List.length_append, List.length_cons, List.length_nil, List.length_take, List.length_drop, List.length_replicate, List.length_map, Nat.mul_one, nameB_length, flat_length, List.length_set, inA_length] <;> omega) rfl rfl OneL.one (by omega)
 dsimp only [reduceAdd, reduceMul, reduceSub, na, ca, nbk, mc, ml]; apply t0; exact sA rfl
 dsimp only [reduceAdd, reduceMul]; exact dn; exact rfl; refine inBlk_n ?_; refine thn_n ?_; apply Gol.region
 apply t0; exact sM rfl; apply t0; exact s_sub rfl rfl (by omega); apply t0; exact sA rfl; dsimp only [reduceAdd, reduceMul]; exact dn
 exact rfl)
    refine rnd_n (m + 1) (by omega) (by omega) ?_
    (
 apply Le.mk' [(24, 160)]; apply RnT.c; exact rfl; apply Rn.v; congr 1; omega; apply RnT.c; exact rfl; exact Rn.sl rfl rfl; apply RnT.c; exact rfl; exact Rn.v rfl
 exact RnT.n; apply RnH.c; exact rfl; exact rfl; exact hc; exact rfl; exact rfl; exact RnH.n; exact rfl; exact rfl)
  · obtain rfl : m = W := by omega
    have ht : (beB v m).take m = beB v m := List.take_of_length_le (by rw [beB_length]; exact Nat.le_refl _)
    rw [ht]
    (
 refine Gol.seq ?_; apply Gol.sr; apply t0; exact sM rfl; apply t0; exact s_ge rfl rfl; dsimp only [reduceAdd, reduceMul]
 exact dn; exact rfl)
    refine Gol.cond_f rfl (by simp; omega) ?_
    (
 refine Gol.exit ?_; refine thn_x ?_; refine rnd_x ?_; refine inBlk_hit ?_; refine thn_n ?_
 apply Gol.sr; apply t0; exact sM rfl; apply t0; exact sA rfl; dsimp only [reduceAdd, reduceMul]; exact dn; exact rfl; refine Gol.ret ?_)
    (apply RetQ.mk (by first | exact .inr rfl | exact .inl rfl); apply res_1 rfl; exact res_tmp rfl; exact out_sl rfl)
theorem clampW_nat (w : Nat) (h : w ≤ 8) : clampW (w : Int) = w := by unfold clampW; omega
theorem appUint_n (bs : List UInt8) (v : UInt64) (w n : Nat) (f : Bool) (hw : w ≤ 8) (hn : bs.length = n) (h : n ≤ 140737488355000) : Fresh Tryz.prog 101 [.ex n f (byA bs), .v (.int .u64 (v.toNat : Int)), .v (.int .i64 (w : Int))] (fun k => .sl k (n + w)) [⟨byA (bs ++ beB v w), 5, 1⟩] := by
  have := appUint_ok bs v w n f hn h
  rwa [clampW_nat w hw] at this
theorem refAppUint_n (bs : List UInt8) (v : UInt64) (w n : Nat) (f : Bool) (hw : w ≤ 8) (hn : bs.length = n) (h : n ≤ 140737488355000) : Fresh Tryz.prog 137 [.ex n f (byA bs), .v (.int .u64 (v.toNat : Int)), .v (.int .i64 (w : Int))] (fun k => .sl k (n + w)) [⟨byA (bs ++ beB v w), 5, 1⟩] := by
  have := refAppUint_ok bs v w n f hn h
  rwa [clampW_nat w hw] at this
end Go.Proofs.YtneeclacmhhblaaGreat


namespace Go.Proofs.YtneeclacmhhblaaGreat
open Go.RowKit

end Go.Proofs.YtneeclacmhhblaaGreat


namespace Go.Proofs.YtneeclacmhhblaaGreat
open Go.RowKit
open Nat (reduceAdd reduceMul reduceSub)

def bytD (d : Dl) : List UInt8 := toU8 d.k :: toU8 d.i :: (nameB d.n ++ beB (toU64 d.a) 8)
def bytL (d : Lk) : List UInt8 := nameB d.n ++ nameB d.h ++ [toU8 d.o, toU8 d.t] ++ beB (toU64 d.u) 2
section
variable (S : List UInt8 → UInt64)
def leafD (d : Dl) : UInt64 := S (0x52 :: bytD d)
def leafQ (i : Nat) (q : Int) : UInt64 := S (0x53 :: [toU8 (i : Int), toU8 q])
def leafL (d : Lk) : UInt64 := S (0x54 :: bytL d)
def leafN (n : UInt64) : UInt64 := S (0x55 :: nameB n)
def leafG (g : Int) : UInt64 := S (0x56 :: beB (toU64 g) 2)
variable (hS : HashF S)
include hS
theorem leafCell_ok (d : Dl) : Fresh Tryz.prog 98 [.v (.agg (deltaC d.k d.i d.n d.a))] (fun _ => .v (.agg (nameC (leafD S d)))) [] := by
  have h1 := fun f => appUint_n (toU8 d.k :: toU8 d.i :: nameB d.n) (toU64 d.a) 8 10 f (by decide) rfl (by decide)
  have h2 := fun f => hS.tagged 0x52 (bytD d) 18 f (by simp [bytD, nameB_length, beB_length]) (by decide)
  refine Fresh.of (fn := Tryz.f98) Tryz.func98 rfl (lb rfl) fun w => ?_
  (
 apply Gol.sr; apply t1; exact s_box rfl rfl; apply t1; exact s_alloc; dsimp only [reduceAdd, reduceMul]; exact dn; exact rfl; apply Gol.sr; apply t0
 exact sF rfl; apply t0; exact sF rfl; apply t0; exact s_load rfl rfl rfl; apply t0; exact s_cu8 rfl; apply t0; exact sF rfl
 apply t0; exact sF rfl; apply t0; exact s_load rfl rfl rfl; apply t0; exact s_cu8 rfl; apply tq; exact s_bytesP (PV.cons rfl rfl rfl (PV.cons rfl rfl rfl PV.nil)) rfl (by omega)
 dsimp only [reduceAdd, reduceMul, reduceSub, na, ca, nbk, mc, ml]; apply t0; exact sA rfl
 dsimp only [reduceAdd, reduceMul]; exact dn; exact rfl; apply Gol.sr; apply t0; exact sM rfl; apply t0; exact sF rfl; apply t0; exact sF rfl
 apply t0; exact s_slA rfl rfl rfl rfl (by simp) (by omega) (by omega) (by omega); apply tq; exact s_app rfl rfl rfl (rd_sb rfl (lb rfl)) rfl rfl rfl rfl (by omega)
 dsimp only [reduceAdd, reduceMul, reduceSub, na, ca, nbk, mc, ml]; apply t0; exact sA rfl
 dsimp only [reduceAdd, reduceMul]; exact dn; exact rfl; apply Gol.sr; apply t0; exact sM rfl; apply t0; exact sF rfl; apply t0; exact s_load rfl rfl rfl
 apply t0; exact s_cu64 rfl; apply tq; exact s_call (f := 101) rfl (eC rfl (eC rfl (eC rfl eN))) (aC (arg_sl rfl) (aC aL (aC aL aN))) (h1 _) (lb rfl)
 dsimp only [reduceAdd, reduceMul, reduceSub, na, ca, nbk, mc, ml]; apply tq; exact s_call (f := 35) rfl (eC rfl (eC rfl eN)) (aC aL (aC (arg_sl rfl) aN)) (h2 _) (lb rfl)
 dsimp only [reduceAdd, reduceMul, reduceSub, na, ca, nbk, mc, ml]; apply n1; exact s_storeW rfl rfl rfl rfl rfl rfl
 dsimp only [reduceAdd, reduceMul]; exact dn; exact rfl; refine Gol.ret ?_)
  (apply RetQ.mk (by first | exact .inr rfl | exact .inl rfl); apply res_1 rfl; exact res_cell rfl rfl rfl (agu_cuv _); exact out_val)
theorem leafApplied_ok (n : UInt64) : Fresh Tryz.prog 100 [.v (.agg (nameC n))] (fun _ => .v (.agg (nameC (leafN S n)))) [] := by
  refine Fresh.of (fn := Tryz.f100) Tryz.func100 rfl (lb rfl) fun w => ?_
  (
 apply Gol.sr; apply t1; exact s_box rfl rfl; apply t1; exact s_alloc; dsimp only [reduceAdd, reduceMul]; exact dn; exact rfl; apply Gol.sr; apply t0
 exact s_slA rfl rfl rfl rfl (by simp) (by omega) (by omega) (by omega); apply tq; exact s_call (f := 35) rfl (eC rfl (eC rfl eN)) (aC aL (aC (arg_name rfl rfl) aN)) (hS.tagged 0x55 (nameB n) _ _ rfl (by decide)) (lb rfl)
 dsimp only [reduceAdd, reduceMul, reduceSub, na, ca, nbk, mc, ml]; apply n1; exact s_storeW rfl rfl rfl rfl rfl rfl
 dsimp only [reduceAdd, reduceMul]; exact dn; exact rfl; refine Gol.ret ?_)
  (apply RetQ.mk (by first | exact .inr rfl | exact .inl rfl); apply res_1 rfl; exact res_cell rfl rfl rfl (agu_cuv _); exact out_val)
theorem leafLock_ok (d : Lk) : Fresh Tryz.prog 99 [.v (.agg (lockC d.n d.h d.o d.t d.u))] (fun _ => .v (.agg (nameC (leafL S d)))) [] := by
  have h1 := fun f => appUint_n (nameB d.n ++ nameB d.h ++ [toU8 d.o, toU8 d.t]) (toU64 d.u) 2 18 f (by decide) rfl (by decide)
  have h2 := fun f => hS.tagged 0x54 (bytL d) 20 f (by simp [bytL, nameB_length, beB_length]) (by decide)
  refine Fresh.of (fn := Tryz.f99) Tryz.func99 rfl (lb rfl) fun w => ?_
  (
 apply Gol.sr; apply t1; exact s_box rfl rfl; apply t1; exact s_alloc; dsimp only [reduceAdd, reduceMul]; exact dn; exact rfl; refine Gol.seq ?_
 apply Gol.any; kernel_rfl; apply t0; exact sF rfl; apply t0; exact s_slA rfl rfl rfl rfl (by simp) (by omega) (by omega) (by omega)
 apply tq; exact s_appNil rfl rfl (rd_sb rfl (lb rfl)) rfl (by omega); dsimp only [reduceAdd, reduceMul, reduceSub, na, ca, nbk, mc, ml]
 apply t0; exact sF rfl; apply t0; exact s_slA rfl rfl rfl rfl (by simp) (by omega) (by omega) (by omega); apply tq; exact s_app rfl rfl rfl (rd_sb rfl (lb rfl)) rfl rfl rfl rfl (by omega)
 dsimp only [reduceAdd, reduceMul, reduceSub, na, ca, nbk, mc, ml]; apply t0; exact sA rfl
 dsimp only [reduceAdd, reduceMul]; exact dn; kernel_rfl; exact rfl; refine thn_n ?_; apply Gol.sr; apply t0; exact sM rfl
 apply t0; exact sF rfl; apply t0; exact s_load rfl rfl rfl; apply t0; exact s_cu8 rfl; apply t0; exact sF rfl; apply t0; exact s_load rfl rfl rfl
 apply t0; exact s_cu8 rfl; apply tq; exact s_bytesP (PV.cons rfl rfl rfl (PV.cons rfl rfl rfl PV.nil)) rfl (by omega); dsimp only [reduceAdd, reduceMul, reduceSub, na, ca, nbk, mc, ml]
 apply tq; exact s_app rfl rfl rfl (rd_sl rfl rfl) rfl rfl rfl OneL.one (by omega); dsimp only [reduceAdd, reduceMul, reduceSub, na, ca, nbk, mc, ml]
 apply t0; exact sA rfl; dsimp only [reduceAdd, reduceMul]; exact dn; exact rfl; apply Gol.sr; apply t0; exact sM rfl; apply t0; exact sF rfl
 apply t0; exact s_load rfl rfl rfl; apply t0; exact s_cu64 rfl; apply tq; exact s_call (f := 101) rfl (eC rfl (eC rfl (eC rfl eN))) (aC (arg_sl rfl) (aC aL (aC aL aN))) (h1 _) (lb rfl)
 dsimp only [reduceAdd, reduceMul, reduceSub, na, ca, nbk, mc, ml]; apply tq; exact s_call (f := 35) rfl (eC rfl (eC rfl eN)) (aC aL (aC (arg_sl rfl) aN)) (h2 _) (lb rfl)
 dsimp only [reduceAdd, reduceMul, reduceSub, na, ca, nbk, mc, ml]; apply n1; exact s_storeW rfl rfl rfl rfl rfl rfl
 dsimp only [reduceAdd, reduceMul]; exact dn; exact rfl; refine Gol.ret ?_)
  (apply RetQ.mk (by first | exact .inr rfl | exact .inl rfl); apply res_1 rfl; exact res_cell rfl rfl rfl (agu_cuv _); exact out_val)
end
end Go.Proofs.YtneeclacmhhblaaGreat


namespace Go.Proofs.YtneeclacmhhblaaGreat
open Go.RowKit
open Nat (reduceAdd reduceMul reduceSub)

section
variable (S : List UInt8 → UInt64)
def lv1 (s : Stt) (j : Nat) : List UInt64 := (s.cells.take j).map (leafD S)
def lv2 (s : Stt) (j : Nat) : List UInt64 := lv1 S s s.cells.length ++ (List.range j).map fun i => leafQ S i (s.seqs.getD i 0)
def lv3 (s : Stt) (j : Nat) : List UInt64 := lv2 S s s.seqs.length ++ (s.locks.take j).map (leafL S)
def lv4 (s : Stt) (j : Nat) : List UInt64 := lv3 S s s.locks.length ++ (s.applied.take j).map (leafN S)
def leavesN (s : Stt) : List UInt64 := lv4 S s s.applied.length ++ [leafG S s.guilty]
theorem map_take {α β : Type} {f : α → β} {l : List α} {j : Nat} {x : α} (h : l[j]? = some x) : (l.take (j + 1)).map f = (l.take j).map f ++ [f x] := by
  obtain ⟨hl, e⟩ := List.getElem?_eq_some_iff.1 h
  rw [List.take_succ_eq_append_getElem hl, List.map_append, e]; rfl
theorem lv1_next {s : Stt} {j : Nat} {x : Dl} (h : s.cells[j]? = some x) : lv1 S s (j + 1) = lv1 S s j ++ [leafD S x] := map_take h
theorem lv2_next {s : Stt} {j : Nat} : lv2 S s (j + 1) = lv2 S s j ++ [leafQ S j (s.seqs.getD j 0)] := by
  unfold lv2; rw [List.range_succ, List.map_append, List.append_assoc]; rfl
theorem lv3_next {s : Stt} {j : Nat} {x : Lk} (h : s.locks[j]? = some x) : lv3 S s (j + 1) = lv3 S s j ++ [leafL S x] := by unfold lv3; rw [map_take h, List.append_assoc]
theorem lv4_next {s : Stt} {j : Nat} {x : UInt64} (h : s.applied[j]? = some x) : lv4 S s (j + 1) = lv4 S s j ++ [leafN S x] := by unfold lv4; rw [map_take h, List.append_assoc]
theorem lv1_len (s : Stt) (j : Nat) : (lv1 S s j).length ≤ s.cells.length := by simp [lv1]; omega
theorem lv2_len (s : Stt) (j : Nat) : (lv2 S s j).length ≤ s.cells.length + j := by have := lv1_len S s s.cells.length; simp [lv2]; omega
theorem lv3_len (s : Stt) (j : Nat) : (lv3 S s j).length ≤ s.cells.length + s.seqs.length + s.locks.length := by have := lv2_len S s s.seqs.length; simp [lv3]; omega
theorem lv4_len (s : Stt) (j : Nat) : (lv4 S s j).length ≤ s.cells.length + s.seqs.length + s.locks.length + s.applied.length := by have := lv3_len S s s.locks.length; simp [lv4]; omega
variable (hS : HashF S)
include hS
theorem leaves_ok (s : Stt) (hs : Sm s) : Fresh Tryz.prog 70 [stA s] (fun k => .sl k (leavesN S s).length) [⟨byA (flat (leavesN S s)), 23, 8⟩] := by
  obtain ⟨h1, h2, h3, h4⟩ := hs
  unfold stA
  refine Fresh.of (fn := Tryz.f70) Tryz.func70 rfl (lb rfl) fun w => ?_
  (
 apply Gol.sr; apply t1; exact s_box rfl rfl; apply t0; exact sA rfl; dsimp only [reduceAdd, reduceMul]; exact dn; exact rfl; apply Gol.sr
 apply t0; exact sA rfl; dsimp only [reduceAdd, reduceMul]; exact dn; exact rfl; refine Gol.seq ?_; apply Gol.sr; apply t0
 exact sF rfl; apply t0; exact s_load rfl rfl rfl; apply t0; exact s_len rfl ln_ex; apply t0; exact sM rfl; dsimp only [reduceAdd, reduceMul]
 exact dn; exact rfl; refine Gol.block ?_)
  refine Gol.le (Le.nilOwn (i := 3) 23 8 rfl) ?_
  refine Gol.loop (ι := Nat) (fun j => j ≤ s.cells.length) (fun j => s.cells.length - j) 200 (fun j => [(199, some ⟨byA (flat (lv1 S s j)), 23, 8⟩), (0, some ⟨[.ex s.cells.length false (dsA s.cells), .ex s.seqs.length false (inA s.seqs), .ex s.locks.length false (lsA s.locks), .ex s.applied.length false (byA (flat s.applied)), .v (.int .i64 s.guilty)], 31, 5⟩)]) (fun j => [(15, .v (.int .i64 (j : Int))), (14, .v (.int .i64 (s.cells.length : Int))), (13, .ex s.cells.length false (dsA s.cells)), (3, .sl 199 (lv1 S s j).length), (1, .pt 0 0)]) 0 (Nat.zero_le _) ?_ ?_
  · (
 apply Le.mk3' [(199, 56)]; apply RnT3.c; exact rfl; apply Rn3.r; exact Rn.v rfl; apply RnT3.c; exact rfl; apply Rn3.r; exact Rn.v rfl; apply RnT3.c; exact rfl
 apply Rn3.r; exact Rn.clo inferInstance rfl; apply RnT3.c; exact rfl; apply Rn3.r; exact Rn.sl rfl rfl; apply RnT3.c; exact rfl; apply Rn3.r; exact Rn.pt rfl rfl
 exact RnT3.n; apply RnH3.c; exact rfl; exact rfl; apply RnC.cl; rfl; exact inferInstance; exact rfl; exact rfl; apply RnH3.c; exact rfl; exact rfl; apply RnC.cl
 rfl; exact inferInstance; exact rfl; exact rfl; exact RnH3.n; exact rfl; exact rfl)
  intro j hj
  have hLj := lv1_len S s j
  (apply Gol.sr; apply t0; exact s_ltn rfl rfl; dsimp only [reduceAdd, reduceMul]; exact dn; exact rfl; refine Gol.seq ?_)
  refine Gol.cond rfl (fun h => ?_) (fun h => ?_)
  · have hlt : j < s.cells.length := of_decide_eq_true h
    obtain ⟨d, hd⟩ : ∃ d, s.cells[j]? = some d := ⟨s.cells[j], List.getElem?_eq_getElem hlt⟩
    have hN := lv1_next S hd
    (
 refine Gol.skip ?_; refine thn_n ?_; refine Gol.seq ?_; refine Gol.block ?_; apply Gol.sr
 apply t0; exact s_ixe rfl rfl (by omega) (ds_ne (by omega)); apply t0; exact s_loadEN rfl (by simp only [byA_length, List.length_append, List.length_cons, List.length_nil, List.length_take, List.length_drop, List.length_replicate, List.length_map, Nat.mul_one, nameB_length, flat_length, List.length_set, inA_length, dsA_length, lsA_length, dA_length, lA_length] <;> omega) (agu_d (by assumption))
 apply t1; exact s_alloc; apply n1; exact s_storeW rfl rfl rfl rfl rfl rfl; dsimp only [reduceAdd, reduceMul]; exact dn; exact rfl; apply Gol.region
 apply t0; exact sM rfl; apply t0; exact s_loadW rfl rfl rfl (agu_cuv _); apply tq; exact s_call (f := 98) rfl (eC rfl eN) (aC aL aN) (leafCell_ok S hS d) (lb rfl)
 dsimp only [reduceAdd, reduceMul, reduceSub, na, ca, nbk, mc, ml]; apply t1; exact s_lit (PA.cons rfl rfl rfl PA.nil) rfl (by first | omega | exact lb rfl | decide | (simp <;> omega) | (dsimp <;> omega))
 apply tq; exact s_app rfl rfl rfl (rd_sl rfl rfl) (by simp only [byA_length, List.length_append, List.length_cons, List.length_nil, List.length_take, List.length_drop, List.length_replicate, List.length_map, Nat.mul_one, nameB_length, flat_length, List.length_set, inA_length, dsA_length, lsA_length, dA_length, lA_length] <;> omega) rfl rfl rfl (by omega)
 dsimp only [reduceAdd, reduceMul, reduceSub, na, ca, nbk, mc, ml]; apply t0; exact sA rfl
 dsimp only [reduceAdd, reduceMul]; exact dn; exact rfl; refine inBlk_n ?_; refine thn_n ?_; apply Gol.region
 apply t0; exact s_addn rfl rfl (by simp <;> omega); apply t0; exact sM rfl; dsimp only [reduceAdd, reduceMul]; exact dn; exact rfl)
    refine rnd_n (j + 1) (by omega) (by omega) ?_
    rw [hN, List.length_append, List.length_singleton]
    (
 apply Le.mk3' [(199, 272)]; apply RnT3.c; exact rfl; apply Rn3.r; exact Rn.v rfl; apply RnT3.c; exact rfl; apply Rn3.r; exact Rn.v rfl; apply RnT3.c; exact rfl
 apply Rn3.r; exact Rn.clo inferInstance rfl; apply RnT3.c; exact rfl; apply Rn3.r; exact Rn.sl rfl rfl; apply RnT3.c; exact rfl; apply Rn3.r; exact Rn.pt rfl rfl
 exact RnT3.n; apply RnH3.c; exact rfl; exact rfl; apply RnC.cl; exact grow_eq2; exact inferInstance; exact rfl; exact rfl; apply RnH3.c; exact rfl; exact rfl
 apply RnC.cl; rfl; exact inferInstance; exact rfl; exact rfl; exact RnH3.n; exact rfl; exact rfl)
  have hge1 : ¬ j < s.cells.length := of_decide_eq_false h
  obtain rfl : j = s.cells.length := by omega
  (
 refine Gol.exit ?_; refine thn_x ?_; refine rnd_x ?_; refine inBlk_hit ?_; refine thn_n ?_
 refine Gol.seq ?_; apply Gol.sr; apply t0; exact sF rfl; apply t0; exact s_load rfl rfl rfl; apply t0; exact s_len rfl ln_ex
 apply t0; exact sM rfl; dsimp only [reduceAdd, reduceMul]; exact dn; exact rfl; refine Gol.block ?_)
  refine Gol.loop (ι := Nat) (fun j => j ≤ s.seqs.length) (fun j => s.seqs.length - j) 200 (fun j => [(199, some ⟨byA (flat (lv2 S s j)), 23, 8⟩), (0, some ⟨[.ex s.cells.length false (dsA s.cells), .ex s.seqs.length false (inA s.seqs), .ex s.locks.length false (lsA s.locks), .ex s.applied.length false (byA (flat s.applied)), .v (.int .i64 s.guilty)], 31, 5⟩)]) (fun j => [(28, .v (.int .i64 (j : Int))), (27, .v (.int .i64 (s.seqs.length : Int))), (26, .ex s.seqs.length false (inA s.seqs)), (3, .sl 199 (lv2 S s j).length), (1, .pt 0 0)]) 0 (Nat.zero_le _) ?_ ?_
  · rw [show lv2 S s 0 = lv1 S s s.cells.length by simp [lv2]]
    (
 apply Le.mk3' []; apply RnT3.c; exact rfl; apply Rn3.r; exact Rn.v rfl; apply RnT3.c; exact rfl; apply Rn3.r; exact Rn.v rfl; apply RnT3.c; exact rfl
 apply Rn3.r; exact Rn.clo inferInstance rfl; apply RnT3.c; exact rfl; apply Rn3.r; exact Rn.sl rfl rfl; apply RnT3.c; exact rfl; apply Rn3.r; exact Rn.pt rfl rfl
 exact RnT3.n; apply RnH3.c; exact rfl; exact rfl; apply RnC.cl; rfl; exact inferInstance; exact rfl; exact rfl; apply RnH3.c; exact rfl; exact rfl; apply RnC.cl
 rfl; exact inferInstance; exact rfl; exact rfl; exact RnH3.n; exact rfl; exact rfl)
  intro j hj
  have hLj := lv2_len S s j
  (apply Gol.sr; apply t0; exact s_ltn rfl rfl; dsimp only [reduceAdd, reduceMul]; exact dn; exact rfl; refine Gol.seq ?_)
  refine Gol.cond rfl (fun h => ?_) (fun h => ?_)
  · have hlt : j < s.seqs.length := of_decide_eq_true h
    have hne : inA s.seqs ≠ [] := fun e => by have := inA_length s.seqs; rw [e] at this; simp at this; omega
    have hN := lv2_next S (s := s) (j := j)
    (
 refine Gol.skip ?_; refine thn_n ?_; refine Gol.seq ?_; refine Gol.block ?_; apply Gol.sr
 apply t0; exact sM rfl; apply t0; exact s_ixe rfl rfl (by omega) (by assumption); apply t0; exact s_loadE rfl (in_get0 (by assumption)); apply t0
 exact sA rfl; apply t0; exact sA rfl; dsimp only [reduceAdd, reduceMul]; exact dn; exact rfl; apply Gol.region; apply t0
 exact sM rfl; apply t0; exact sM rfl; apply t0; exact s_cu8 rfl; apply t0; exact sM rfl; apply t0; exact s_cu8 rfl; apply tq; exact s_bytesP (PV.cons rfl rfl rfl (PV.cons rfl rfl rfl PV.nil)) rfl (by omega)
 dsimp only [reduceAdd, reduceMul, reduceSub, na, ca, nbk, mc, ml]; apply tq; exact s_call (f := 35) rfl (eC rfl (eC rfl eN)) (aC aL (aC (arg_sl rfl) aN)) (hS.tagged 0x53 [toU8 (j : Int), toU8 (s.seqs.getD j 0)] 2 _ rfl (by decide)) (lb rfl)
 dsimp only [reduceAdd, reduceMul, reduceSub, na, ca, nbk, mc, ml]; apply t1; exact s_lit (PA.cons rfl rfl rfl PA.nil) rfl (by first | omega | exact lb rfl | decide | (simp <;> omega) | (dsimp <;> omega))
 apply tq; exact s_app rfl rfl rfl (rd_sl rfl rfl) (by simp only [byA_length, List.length_append, List.length_cons, List.length_nil, List.length_take, List.length_drop, List.length_replicate, List.length_map, Nat.mul_one, nameB_length, flat_length, List.length_set, inA_length, dsA_length, lsA_length, dA_length, lA_length] <;> omega) rfl rfl rfl (by omega)
 dsimp only [reduceAdd, reduceMul, reduceSub, na, ca, nbk, mc, ml]; apply t0; exact sA rfl
 dsimp only [reduceAdd, reduceMul]; exact dn; exact rfl; refine inBlk_n ?_; refine thn_n ?_; apply Gol.region
 apply t0; exact s_addn rfl rfl (by simp <;> omega); apply t0; exact sM rfl; dsimp only [reduceAdd, reduceMul]; exact dn; exact rfl)
    refine rnd_n (j + 1) (by omega) (by omega) ?_
    rw [hN, List.length_append, List.length_singleton]
    (
 apply Le.mk3' [(199, 312)]; apply RnT3.c; exact rfl; apply Rn3.r; exact Rn.v rfl; apply RnT3.c; exact rfl; apply Rn3.r; exact Rn.v rfl; apply RnT3.c; exact rfl
 apply Rn3.r; exact Rn.clo inferInstance rfl; apply RnT3.c; exact rfl; apply Rn3.r; exact Rn.sl rfl rfl; apply RnT3.c; exact rfl; apply Rn3.r; exact Rn.pt rfl rfl
 exact RnT3.n; apply RnH3.c; exact rfl; exact rfl; apply RnC.cl; exact grow_eq2; exact inferInstance; exact rfl; exact rfl; apply RnH3.c; exact rfl; exact rfl
 apply RnC.cl; rfl; exact inferInstance; exact rfl; exact rfl; exact RnH3.n; exact rfl; exact rfl)
  have hge2 : ¬ j < s.seqs.length := of_decide_eq_false h
  obtain rfl : j = s.seqs.length := by omega
  (
 refine Gol.exit ?_; refine thn_x ?_; refine rnd_x ?_; refine inBlk_hit ?_; refine thn_n ?_
 refine Gol.seq ?_; apply Gol.sr; apply t0; exact sF rfl; apply t0; exact s_load rfl rfl rfl; apply t0; exact s_len rfl ln_ex
 apply t0; exact sM rfl; dsimp only [reduceAdd, reduceMul]; exact dn; exact rfl; refine Gol.block ?_)
  refine Gol.loop (ι := Nat) (fun j => j ≤ s.locks.length) (fun j => s.locks.length - j) 200 (fun j => [(199, some ⟨byA (flat (lv3 S s j)), 23, 8⟩), (0, some ⟨[.ex s.cells.length false (dsA s.cells), .ex s.seqs.length false (inA s.seqs), .ex s.locks.length false (lsA s.locks), .ex s.applied.length false (byA (flat s.applied)), .v (.int .i64 s.guilty)], 31, 5⟩)]) (fun j => [(46, .v (.int .i64 (j : Int))), (45, .v (.int .i64 (s.locks.length : Int))), (44, .ex s.locks.length false (lsA s.locks)), (3, .sl 199 (lv3 S s j).length), (1, .pt 0 0)]) 0 (Nat.zero_le _) ?_ ?_
  · rw [show lv3 S s 0 = lv2 S s s.seqs.length by simp [lv3]]
    (
 apply Le.mk3' []; apply RnT3.c; exact rfl; apply Rn3.r; exact Rn.v rfl; apply RnT3.c; exact rfl; apply Rn3.r; exact Rn.v rfl; apply RnT3.c; exact rfl
 apply Rn3.r; exact Rn.clo inferInstance rfl; apply RnT3.c; exact rfl; apply Rn3.r; exact Rn.sl rfl rfl; apply RnT3.c; exact rfl; apply Rn3.r; exact Rn.pt rfl rfl
 exact RnT3.n; apply RnH3.c; exact rfl; exact rfl; apply RnC.cl; rfl; exact inferInstance; exact rfl; exact rfl; apply RnH3.c; exact rfl; exact rfl; apply RnC.cl
 rfl; exact inferInstance; exact rfl; exact rfl; exact RnH3.n; exact rfl; exact rfl)
  intro j hj
  have hLj := lv3_len S s j
  (apply Gol.sr; apply t0; exact s_ltn rfl rfl; dsimp only [reduceAdd, reduceMul]; exact dn; exact rfl; refine Gol.seq ?_)
  refine Gol.cond rfl (fun h => ?_) (fun h => ?_)
  · have hlt : j < s.locks.length := of_decide_eq_true h
    obtain ⟨d, hd⟩ : ∃ d, s.locks[j]? = some d := ⟨s.locks[j], List.getElem?_eq_getElem hlt⟩
    have hN := lv3_next S hd
    (
 refine Gol.skip ?_; refine thn_n ?_; refine Gol.seq ?_; refine Gol.block ?_; apply Gol.sr
 apply t0; exact s_ixe rfl rfl (by omega) (ls_ne (by omega)); apply t0; exact s_loadEN rfl (by simp only [byA_length, List.length_append, List.length_cons, List.length_nil, List.length_take, List.length_drop, List.length_replicate, List.length_map, Nat.mul_one, nameB_length, flat_length, List.length_set, inA_length, dsA_length, lsA_length, dA_length, lA_length] <;> omega) (agu_l (by assumption))
 apply t1; exact s_alloc; apply n1; exact s_storeW rfl rfl rfl rfl rfl rfl; dsimp only [reduceAdd, reduceMul]; exact dn; exact rfl; apply Gol.region
 apply t0; exact sM rfl; apply t0; exact s_loadW rfl rfl rfl (agu_cuv _); apply tq; exact s_call (f := 99) rfl (eC rfl eN) (aC aL aN) (leafLock_ok S hS d) (lb rfl)
 dsimp only [reduceAdd, reduceMul, reduceSub, na, ca, nbk, mc, ml]; apply t1; exact s_lit (PA.cons rfl rfl rfl PA.nil) rfl (by first | omega | exact lb rfl | decide | (simp <;> omega) | (dsimp <;> omega))
 apply tq; exact s_app rfl rfl rfl (rd_sl rfl rfl) (by simp only [byA_length, List.length_append, List.length_cons, List.length_nil, List.length_take, List.length_drop, List.length_replicate, List.length_map, Nat.mul_one, nameB_length, flat_length, List.length_set, inA_length, dsA_length, lsA_length, dA_length, lA_length] <;> omega) rfl rfl rfl (by omega)
 dsimp only [reduceAdd, reduceMul, reduceSub, na, ca, nbk, mc, ml]; apply t0; exact sA rfl
 dsimp only [reduceAdd, reduceMul]; exact dn; exact rfl; refine inBlk_n ?_; refine thn_n ?_; apply Gol.region
 apply t0; exact s_addn rfl rfl (by simp <;> omega); apply t0; exact sM rfl; dsimp only [reduceAdd, reduceMul]; exact dn; exact rfl)
    refine rnd_n (j + 1) (by omega) (by omega) ?_
    rw [hN, List.length_append, List.length_singleton]
    (
 apply Le.mk3' [(199, 272)]; apply RnT3.c; exact rfl; apply Rn3.r; exact Rn.v rfl; apply RnT3.c; exact rfl; apply Rn3.r; exact Rn.v rfl; apply RnT3.c; exact rfl
 apply Rn3.r; exact Rn.clo inferInstance rfl; apply RnT3.c; exact rfl; apply Rn3.r; exact Rn.sl rfl rfl; apply RnT3.c; exact rfl; apply Rn3.r; exact Rn.pt rfl rfl
 exact RnT3.n; apply RnH3.c; exact rfl; exact rfl; apply RnC.cl; exact grow_eq2; exact inferInstance; exact rfl; exact rfl; apply RnH3.c; exact rfl; exact rfl
 apply RnC.cl; rfl; exact inferInstance; exact rfl; exact rfl; exact RnH3.n; exact rfl; exact rfl)
  have hge3 : ¬ j < s.locks.length := of_decide_eq_false h
  obtain rfl : j = s.locks.length := by omega
  (
 refine Gol.exit ?_; refine thn_x ?_; refine rnd_x ?_; refine inBlk_hit ?_; refine thn_n ?_
 refine Gol.seq ?_; apply Gol.sr; apply t0; exact sF rfl; apply t0; exact s_load rfl rfl rfl; apply t0; exact s_len rfl ln_ex
 apply t0; exact sM rfl; dsimp only [reduceAdd, reduceMul]; exact dn; exact rfl; refine Gol.block ?_)
  refine Gol.loop (ι := Nat) (fun j => j ≤ s.applied.length) (fun j => s.applied.length - j) 200 (fun j => [(199, some ⟨byA (flat (lv4 S s j)), 23, 8⟩), (0, some ⟨[.ex s.cells.length false (dsA s.cells), .ex s.seqs.length false (inA s.seqs), .ex s.locks.length false (lsA s.locks), .ex s.applied.length false (byA (flat s.applied)), .v (.int .i64 s.guilty)], 31, 5⟩)]) (fun j => [(59, .v (.int .i64 (j : Int))), (58, .v (.int .i64 (s.applied.length : Int))), (57, .ex s.applied.length false (byA (flat s.applied))), (3, .sl 199 (lv4 S s j).length), (1, .pt 0 0)]) 0 (Nat.zero_le _) ?_ ?_
  · rw [show lv4 S s 0 = lv3 S s s.locks.length by simp [lv4]]
    (
 apply Le.mk3' []; apply RnT3.c; exact rfl; apply Rn3.r; exact Rn.v rfl; apply RnT3.c; exact rfl; apply Rn3.r; exact Rn.v rfl; apply RnT3.c; exact rfl
 apply Rn3.r; exact Rn.clo inferInstance rfl; apply RnT3.c; exact rfl; apply Rn3.r; exact Rn.sl rfl rfl; apply RnT3.c; exact rfl; apply Rn3.r; exact Rn.pt rfl rfl
 exact RnT3.n; apply RnH3.c; exact rfl; exact rfl; apply RnC.cl; rfl; exact inferInstance; exact rfl; exact rfl; apply RnH3.c; exact rfl; exact rfl; apply RnC.cl
 rfl; exact inferInstance; exact rfl; exact rfl; exact RnH3.n; exact rfl; exact rfl)
  intro j hj
  have hLj := lv4_len S s j
  (apply Gol.sr; apply t0; exact s_ltn rfl rfl; dsimp only [reduceAdd, reduceMul]; exact dn; exact rfl; refine Gol.seq ?_)
  refine Gol.cond rfl (fun h => ?_) (fun h => ?_)
  · have hlt : j < s.applied.length := of_decide_eq_true h
    have hd : s.applied[j]? = some (s.applied.getD j 0) := by rw [List.getD_eq_getElem?_getD, List.getElem?_eq_getElem hlt]; rfl
    have hN := lv4_next S hd
    (
 refine Gol.skip ?_; refine thn_n ?_; refine Gol.seq ?_; refine Gol.block ?_; apply Gol.sr
 apply t0; exact s_ixe rfl rfl (by omega) (flat_ne (by omega)); apply t0; exact s_loadEN rfl (by simp only [byA_length, List.length_append, List.length_cons, List.length_nil, List.length_take, List.length_drop, List.length_replicate, List.length_map, Nat.mul_one, nameB_length, flat_length, List.length_set, inA_length, dsA_length, lsA_length, dA_length, lA_length] <;> omega) (agu_nm (by omega))
 apply t1; exact s_alloc; apply n1; exact s_storeW rfl rfl rfl rfl rfl rfl; dsimp only [reduceAdd, reduceMul]; exact dn; exact rfl; apply Gol.region
 apply t0; exact sM rfl; apply t0; exact s_loadW rfl rfl rfl (agu_cuv _); apply tq; exact s_call (f := 100) rfl (eC rfl eN) (aC aL aN) (leafApplied_ok S hS _) (lb rfl)
 dsimp only [reduceAdd, reduceMul, reduceSub, na, ca, nbk, mc, ml]; apply t1; exact s_lit (PA.cons rfl rfl rfl PA.nil) rfl (by first | omega | exact lb rfl | decide | (simp <;> omega) | (dsimp <;> omega))
 apply tq; exact s_app rfl rfl rfl (rd_sl rfl rfl) (by simp only [byA_length, List.length_append, List.length_cons, List.length_nil, List.length_take, List.length_drop, List.length_replicate, List.length_map, Nat.mul_one, nameB_length, flat_length, List.length_set, inA_length, dsA_length, lsA_length, dA_length, lA_length] <;> omega) rfl rfl rfl (by omega)
 dsimp only [reduceAdd, reduceMul, reduceSub, na, ca, nbk, mc, ml]; apply t0; exact sA rfl
 dsimp only [reduceAdd, reduceMul]; exact dn; exact rfl; refine inBlk_n ?_; refine thn_n ?_; apply Gol.region
 apply t0; exact s_addn rfl rfl (by simp <;> omega); apply t0; exact sM rfl; dsimp only [reduceAdd, reduceMul]; exact dn; exact rfl)
    refine rnd_n (j + 1) (by omega) (by omega) ?_
    rw [hN, List.length_append, List.length_singleton]
    (
 apply Le.mk3' [(199, 272)]; apply RnT3.c; exact rfl; apply Rn3.r; exact Rn.v rfl; apply RnT3.c; exact rfl; apply Rn3.r; exact Rn.v rfl; apply RnT3.c; exact rfl
 apply Rn3.r; exact Rn.clo inferInstance rfl; apply RnT3.c; exact rfl; apply Rn3.r; exact Rn.sl rfl rfl; apply RnT3.c; exact rfl; apply Rn3.r; exact Rn.pt rfl rfl
 exact RnT3.n; apply RnH3.c; exact rfl; exact rfl; apply RnC.cl; exact grow_eq2; exact inferInstance; exact rfl; exact rfl; apply RnH3.c; exact rfl; exact rfl
 apply RnC.cl; rfl; exact inferInstance; exact rfl; exact rfl; exact RnH3.n; exact rfl; exact rfl)
  have hge4 : ¬ j < s.applied.length := of_decide_eq_false h
  obtain rfl : j = s.applied.length := by omega
  (
 refine Gol.exit ?_; refine thn_x ?_; refine rnd_x ?_; refine inBlk_hit ?_; refine thn_n ?_
 apply Gol.sr; apply t0; exact sM rfl; apply t0; exact sF rfl; apply t0; exact s_load rfl rfl rfl; apply t0; exact s_cu64 rfl; apply tq; exact s_call (f := 101) rfl (eC rfl (eC rfl (eC rfl eN))) (aC aL (aC aL (aC aL aN))) ((appUint_n [] (toU64 s.guilty) 2 0 false (by decide) rfl (by decide)).sub sub_nil) (lb rfl)
 dsimp only [reduceAdd, reduceMul, reduceSub, na, ca, nbk, mc, ml]; apply tq; exact s_call (f := 35) rfl (eC rfl (eC rfl eN)) (aC aL (aC (arg_sl rfl) aN)) (hS.tagged 0x56 (beB (toU64 s.guilty) 2) 2 _ (beB_length _ _) (by decide)) (lb rfl)
 dsimp only [reduceAdd, reduceMul, reduceSub, na, ca, nbk, mc, ml]; apply t1; exact s_lit (PA.cons rfl rfl rfl PA.nil) rfl (by first | omega | exact lb rfl | decide | (simp <;> omega) | (dsimp <;> omega))
 apply tq; exact s_app rfl rfl rfl (rd_sl rfl rfl) (by simp only [byA_length, List.length_append, List.length_cons, List.length_nil, List.length_take, List.length_drop, List.length_replicate, List.length_map, Nat.mul_one, nameB_length, flat_length, List.length_set, inA_length, dsA_length, lsA_length, dA_length, lA_length] <;> omega) rfl rfl rfl (by omega)
 dsimp only [reduceAdd, reduceMul, reduceSub, na, ca, nbk, mc, ml]; apply t0; exact sA rfl
 dsimp only [reduceAdd, reduceMul]; exact dn; exact rfl; refine Gol.ret ?_)
  rw [grow_eq2, show (lv4 S s s.applied.length).length + 1 = (leavesN S s).length by simp [leavesN]]
  (apply RetQ.mk (by first | exact .inr rfl | exact .inl rfl); apply res_1 rfl; exact res_tmp rfl; exact out_sl rfl)
end
end Go.Proofs.YtneeclacmhhblaaGreat


namespace Go.Proofs.YtneeclacmhhblaaGreat
open Go.RowKit
open Nat (reduceAdd reduceMul reduceSub)

theorem byte1 (k : Int) : beB (toU64 k) 1 = [toU8 k] := by
  have h : ((toU64 k).toNat : Int) = k % 18446744073709551616 := by rw [toU64, UInt64.toNat_ofNat']; omega
  have e : shr6 (toU64 k) (8 * 0) = toU64 k := by
    apply UInt64.toNat_inj.1
    have := (toU64 k).toNat_lt
    rw [shr6, UInt64.toNat_ofNat']
    simp only [Nat.mul_zero, Nat.pow_zero, Nat.div_one]
    omega
  show [byteAt (toU64 k) 0] = _
  rw [byteAt, e, h]
  unfold toU8
  congr 2
  omega
section
variable (S : List UInt8 → UInt64)
theorem leavesN_len (s : Stt) : (leavesN S s).length = s.cells.length + s.seqs.length + s.locks.length + s.applied.length + 1 := by
  simp [leavesN, lv4, lv3, lv2, lv1]; omega
variable (hS : HashF S)
include hS
theorem rootS_ok (s : Stt) (hs : Sm s) : Fresh Tryz.prog 34 [stA s] (fun _ => .v (.agg (nameC (rootN S (leavesN S s))))) [] := by
  have hl := leaves_ok S hS s hs
  have hn := leavesN_len S s
  obtain ⟨h1, h2, h3, h4⟩ := hs
  unfold stA at hl ⊢
  refine Fresh.of (fn := Tryz.f34) Tryz.func34 rfl (lb rfl) fun w => ?_
  (
 apply Gol.sr; apply t1; exact s_box rfl rfl; apply t1; exact s_alloc; dsimp only [reduceAdd, reduceMul]; exact dn; exact rfl; apply Gol.sr; apply t0
 exact s_loadW rfl rfl rfl (agu_cua _); apply tq; exact s_call (f := 70) rfl (eC rfl eN) (aC aL aN) hl (lb rfl)
 dsimp only [reduceAdd, reduceMul, reduceSub, na, ca, nbk, mc, ml]; apply tq; exact s_call (f := 69) rfl (eC rfl eN) (aC (arg_sl rfl) aN) (root_ok S hS _ _ _ rfl (by omega)) (lb rfl)
 dsimp only [reduceAdd, reduceMul, reduceSub, na, ca, nbk, mc, ml]; apply n1; exact s_storeW rfl rfl rfl rfl rfl rfl
 dsimp only [reduceAdd, reduceMul]; exact dn; exact rfl; refine Gol.ret ?_)
  (apply RetQ.mk (by first | exact .inr rfl | exact .inl rfl); apply res_1 rfl; exact res_cell rfl rfl rfl (agu_cuv _); exact out_val)
omit hS
theorem refNum_ok (bs : List UInt8) (v : Int) (m n : Nat) (f : Bool) (hw : m ≤ 8) (hn : bs.length = n) (h : n ≤ 1000000) : Fresh Tryz.prog 109 [.ex n f (byA bs), .v (.int .i64 v), .v (.int .i64 (m : Int))] (fun k => .sl k (n + m)) [⟨byA (bs ++ beB (toU64 v) m), 5, 1⟩] := by
  refine Fresh.of (fn := Tryz.f109) Tryz.func109 rfl (lb rfl) fun w => ?_
  (
 apply Gol.sr; apply t0; exact sA rfl; dsimp only [reduceAdd, reduceMul]; exact dn; exact rfl; apply Gol.sr; apply t0; exact sM rfl; apply t0
 exact sM rfl; apply t0; exact s_cu64 rfl; apply t0; exact sM rfl; apply tq; exact s_call (f := 137) rfl (eC rfl (eC rfl (eC rfl eN))) (aC aL (aC aL (aC aL aN))) (refAppUint_n bs (toU64 v) m n _ hw hn (by omega)) (lb rfl)
 dsimp only [reduceAdd, reduceMul, reduceSub, na, ca, nbk, mc, ml]; apply t0; exact sA rfl
 dsimp only [reduceAdd, reduceMul]; exact dn; exact rfl; refine Gol.ret ?_)
  (apply RetQ.mk (by first | exact .inr rfl | exact .inl rfl); apply res_1 rfl; exact res_tmp rfl; exact out_sl rfl)
theorem refName_ok (bs : List UInt8) (x : UInt64) (n : Nat) (f : Bool) (hn : bs.length = n) (h : n ≤ 1000000) : Fresh Tryz.prog 110 [.ex n f (byA bs), .v (.agg (nameC x))] (fun k => .sl k (n + 8)) [⟨byA (bs ++ nameB x), 5, 1⟩] := by
  refine Fresh.of (fn := Tryz.f110) Tryz.func110 rfl (lb rfl) fun w => ?_
  (
 apply Gol.sr; apply t1; exact s_box rfl rfl; apply t0; exact sA rfl; dsimp only [reduceAdd, reduceMul]; exact dn; exact rfl; refine Gol.seq ?_
 apply Gol.any; kernel_rfl; apply tq; exact s_bytesP PV.nil rfl (by omega); dsimp only [reduceAdd, reduceMul, reduceSub, na, ca, nbk, mc, ml]
 apply t0; exact sM rfl; apply tq; exact s_app rfl rfl rfl (rd_ex (by simp only [byA_length, List.length_append, List.length_cons, List.length_nil, List.length_take, List.length_drop, List.length_replicate, List.length_map, Nat.mul_one, nameB_length, flat_length, List.length_set, inA_length, dsA_length, lsA_length, dA_length, lA_length] <;> omega)) rfl rfl rfl OneL.one (by omega)
 dsimp only [reduceAdd, reduceMul, reduceSub, na, ca, nbk, mc, ml]; apply t0; exact s_slA rfl rfl rfl rfl (by simp) (by omega) (by omega) (by omega)
 apply tq; exact s_app rfl rfl rfl (rd_name rfl rfl) (by simp only [byA_length, List.length_append, List.length_cons, List.length_nil, List.length_take, List.length_drop, List.length_replicate, List.length_map, Nat.mul_one, nameB_length, flat_length, List.length_set, inA_length, dsA_length, lsA_length, dA_length, lA_length] <;> omega) rfl rfl OneL.one (by omega)
 dsimp only [reduceAdd, reduceMul, reduceSub, na, ca, nbk, mc, ml]; apply t0; exact sA rfl
 dsimp only [reduceAdd, reduceMul]; exact dn; kernel_rfl; exact rfl; refine thn_n ?_; refine Gol.ret ?_)
  simp only [Nat.zero_add, List.nil_append, ← byA_append]
  (apply RetQ.mk (by first | exact .inr rfl | exact .inl rfl); apply res_1 rfl; exact res_tmp rfl; exact out_sl rfl)
include hS
theorem refCellLeaf_ok (d : Dl) : Fresh Tryz.prog 108 [.v (.agg (deltaC d.k d.i d.n d.a))] (fun _ => .v (.agg (nameC (leafD S d)))) [] := by
  have e : [] ++ beB (toU64 d.k) 1 ++ beB (toU64 d.i) 1 ++ nameB d.n ++ beB (toU64 d.a) 8 = bytD d := by rw [byte1, byte1]; simp [bytD]
  have h1 := (refNum_ok [] d.k 1 0 false (by decide) rfl (by decide)).sub sub_nil
  have h2 := fun f => refNum_ok ([] ++ beB (toU64 d.k) 1) d.i 1 1 f (by decide) (by simp [beB_length]) (by decide)
  have h3 := fun f => refName_ok ([] ++ beB (toU64 d.k) 1 ++ beB (toU64 d.i) 1) d.n 2 f (by simp [beB_length]) (by decide)
  have h4 := fun f => refNum_ok ([] ++ beB (toU64 d.k) 1 ++ beB (toU64 d.i) 1 ++ nameB d.n) d.a 8 10 f (by decide) (by simp [beB_length, nameB_length]) (by decide)
  have h5 := fun f => hS.refTagged 0x52 (bytD d) 18 f (by simp [bytD, nameB_length, beB_length]) (by decide)
  rw [e] at h4
  refine Fresh.of (fn := Tryz.f108) Tryz.func108 rfl (lb rfl) fun w => ?_
  (
 apply Gol.sr; apply t1; exact s_box rfl rfl; apply t1; exact s_alloc; dsimp only [reduceAdd, reduceMul]; exact dn; exact rfl; refine Gol.seq ?_
 apply Gol.any; kernel_rfl; apply t0; exact sF rfl; apply t0; exact sF rfl; apply t0; exact s_load rfl rfl rfl; apply tq
 exact s_call (f := 109) rfl (eC rfl (eC rfl (eC rfl eN))) (aC aL (aC aL (aC aL aN))) h1 (lb rfl)
 dsimp only [reduceAdd, reduceMul, reduceSub, na, ca, nbk, mc, ml]; apply t0; exact sF rfl
 apply t0; exact sF rfl; apply t0; exact s_load rfl rfl rfl; apply tq; exact s_call (f := 109) rfl (eC rfl (eC rfl (eC rfl eN))) (aC (arg_sl rfl) (aC aL (aC aL aN))) (h2 _) (lb rfl)
 dsimp only [reduceAdd, reduceMul, reduceSub, na, ca, nbk, mc, ml]; apply t0; exact sF rfl
 apply t0; exact sF rfl; apply t0; exact s_loadN rfl rfl (lb rfl) (agu_nm8 rfl); apply tq; exact s_call (f := 110) rfl (eC rfl (eC rfl eN)) (aC (arg_sl rfl) (aC aL aN)) (h3 _) (lb rfl)
 dsimp only [reduceAdd, reduceMul, reduceSub, na, ca, nbk, mc, ml]; apply t0; exact sF rfl
 apply t0; exact s_load rfl rfl rfl; apply tq; exact s_call (f := 109) rfl (eC rfl (eC rfl (eC rfl eN))) (aC (arg_sl rfl) (aC aL (aC aL aN))) (h4 _) (lb rfl)
 dsimp only [reduceAdd, reduceMul, reduceSub, na, ca, nbk, mc, ml]; apply tq; exact s_call (f := 72) rfl (eC rfl (eC rfl eN)) (aC aL (aC (arg_sl rfl) aN)) (h5 _) (lb rfl)
 dsimp only [reduceAdd, reduceMul, reduceSub, na, ca, nbk, mc, ml]; apply n1; exact s_storeW rfl rfl rfl rfl rfl rfl
 dsimp only [reduceAdd, reduceMul]; exact dn; kernel_rfl; exact rfl; refine thn_n ?_; refine Gol.ret ?_)
  (apply RetQ.mk (by first | exact .inr rfl | exact .inl rfl); apply res_1 rfl; exact res_cell rfl rfl rfl (agu_cuv _); exact out_val)
theorem refAppliedLeaf_ok (n : UInt64) : Fresh Tryz.prog 111 [.v (.agg (nameC n))] (fun _ => .v (.agg (nameC (leafN S n)))) [] := by
  have h1 := (refName_ok [] n 0 false rfl (by decide)).sub sub_nil
  refine Fresh.of (fn := Tryz.f111) Tryz.func111 rfl (lb rfl) fun w => ?_
  (
 apply Gol.sr; apply t1; exact s_box rfl rfl; apply t1; exact s_alloc; dsimp only [reduceAdd, reduceMul]; exact dn; exact rfl; apply Gol.sr; apply t0
 exact s_loadW rfl rfl rfl (agu_cuv _); apply tq; exact s_call (f := 110) rfl (eC rfl (eC rfl eN)) (aC aL (aC aL aN)) h1 (lb rfl)
 dsimp only [reduceAdd, reduceMul, reduceSub, na, ca, nbk, mc, ml]; apply tq; exact s_call (f := 72) rfl (eC rfl (eC rfl eN)) (aC aL (aC (arg_sl rfl) aN)) (hS.refTagged 0x55 (nameB n) 8 _ rfl (by decide)) (lb rfl)
 dsimp only [reduceAdd, reduceMul, reduceSub, na, ca, nbk, mc, ml]; apply n1; exact s_storeW rfl rfl rfl rfl rfl rfl
 dsimp only [reduceAdd, reduceMul]; exact dn; exact rfl; refine Gol.ret ?_)
  (apply RetQ.mk (by first | exact .inr rfl | exact .inl rfl); apply res_1 rfl; exact res_cell rfl rfl rfl (agu_cuv _); exact out_val)
end
end Go.Proofs.YtneeclacmhhblaaGreat


namespace Go.Proofs.YtneeclacmhhblaaGreat
open Go.RowKit
inductive Ren (dn : Bool) (R : Nat → Nat → Prop) : AV → AV → Prop
  | clo {u : AV} (h : Clo u) : Ren dn R u u
  | vag {X : Array Value} {cs : List AV} (h : cs = X.toList.map .v) : Ren dn R (.v (.agg X)) (.ag cs)
  | nil {f : Bool} (hd : dn = true) : Ren dn R (.ex 0 f []) (.v (.slice none 0 0))
  | agv {us : List AV} {X : Array Value} (hd : dn = true) (hl : us.length = X.size) (h : ∀ (j : Nat) u x, us[j]? = some u → X[j]? = some x → Ren dn R u (.v x)) : Ren dn R (.ag us) (.v (.agg X))
  | pt {j b o : Nat} (h : R j b) : Ren dn R (.pt j o) (.pt b o)
  | sl {j b n : Nat} (h : R j b) : Ren dn R (.sl j n) (.sl b n)
  | mp {j b : Nat} (h : R j b) : Ren dn R (.mp j) (.mp b)
  | ag {us vs : List AV} (hl : us.length = vs.length) (h : ∀ (j : Nat) u v, us[j]? = some u → vs[j]? = some v → Ren dn R u v) : Ren dn R (.ag us) (.ag vs)
  | tp {us vs : List AV} (hl : us.length = vs.length) (h : ∀ (j : Nat) u v, us[j]? = some u → vs[j]? = some v → Ren dn R u v) : Ren dn R (.tp us) (.tp vs)
  | fn {f : FuncId} {us vs : List AV} (hl : us.length = vs.length) (h : ∀ (j : Nat) u v, us[j]? = some u → vs[j]? = some v → Ren dn R u v) : Ren dn R (.fn f us) (.fn f vs)
def RenL (dn : Bool) (R : Nat → Nat → Prop) (us vs : List AV) : Prop := us.length = vs.length ∧ ∀ (j : Nat) u v, us[j]? = some u → vs[j]? = some v → Ren dn R u v
section
variable {R : Nat → Nat → Prop} {dn : Bool}
theorem RenL.nil : RenL dn R [] [] := ⟨rfl, fun j u v h => by simp at h⟩
theorem RenL.cons {u v : AV} {us vs : List AV} (h : Ren dn R u v) (t : RenL dn R us vs) : RenL dn R (u :: us) (v :: vs) := ⟨by simp [t.1], fun j a b ha hb => by
  cases j with
  | zero => simp at ha hb; subst ha hb; exact h
  | succ j => exact t.2 j a b (by simpa using ha) (by simpa using hb)⟩
theorem rK {u : AV} {us vs : List AV} [h : Clo u] (t : RenL dn R us vs) : RenL dn R (u :: us) (u :: vs) := RenL.cons (Ren.clo h) t
theorem rZ {u : AV} [h : Clo u] : Ren dn R u u := .clo h
theorem RenL.clo {us : List AV} [h : CloL us] : RenL dn R us us := ⟨rfl, fun j u v hu hv => by rw [hu] at hv; injection hv with hv; subst hv; exact .clo (h.cl u (List.mem_of_getElem? hu))⟩
theorem RenL.v {us : List AV} {X : Array Value} (h : RenL dn R us (X.toList.map .v)) (hd : dn = true) : Ren dn R (.ag us) (.v (.agg X)) := .agv hd (by simpa using h.1) (fun j u x hu hx => h.2 j u (.v x) hu (by rw [List.getElem?_map, Array.getElem?_toList, hx]; rfl))
theorem Ren.agL {us vs : List AV} (h : RenL dn R us vs) : Ren dn R (.ag us) (.ag vs) := .ag h.1 h.2
theorem Ren.tpL {us vs : List AV} (h : RenL dn R us vs) : Ren dn R (.tp us) (.tp vs) := .tp h.1 h.2
theorem Ren.fnL {f : FuncId} {us vs : List AV} (h : RenL dn R us vs) : Ren dn R (.fn f us) (.fn f vs) := .fn h.1 h.2
theorem Ren.down {E F : Env} (hs : E.sees F) (hD : ∀ j b, R j b → F.D j ∧ F.L j = E.L b) {u v : AV} (h : Ren dn R u v) : ∀ {x : Value}, RV E v x → RV F u x := by
  induction h with
  | clo h => exact fun hx => h.cl E F _ hs hx
  | vag h =>
    intro x hx
    subst h
    cases hx with
    | ag cs ys hl h =>
      have hR : RVs E (_ : List AV) ys.toList := ⟨by simpa using hl, fun j c x hc hx => h j c x hc (by simpa using hx)⟩
      have := hR.vals_inv
      rw [← Array.toArray_toList (xs := ys), this, Array.toArray_toList]
      exact .v _
  | nil hd => intro x hx; rw [hx.v_inv]; exact .ex0 _ _ _ _ (Nat.le_refl _) (fun _ => rfl)
  | @agv us X hd hl h ih => intro x hx; rw [hx.v_inv]; exact .ag _ _ hl.symm (fun j c x hc hx => ih j c x hc hx (.v x))
  | @pt j b o h =>
    intro x hx
    obtain ⟨d1, d2⟩ := hD j b h
    obtain ⟨g, rfl, h1, h2, hm⟩ := hx.pt_inv
    exact .pt _ _ g d1 (by rw [d2]; exact h2) (by rw [d2]; exact hm)
  | @sl j b n h =>
    intro x hx
    obtain ⟨d1, d2⟩ := hD j b h
    cases hx with | sl b n _ hn hm => rw [← d2] at hn hm ⊢; exact .sl _ _ d1 hn hm
  | @mp j b h =>
    intro x hx
    obtain ⟨d1, d2⟩ := hD j b h
    cases hx with | mp b g _ hg hm => exact .mp _ g d1 (by rw [d2]; exact hg) (by rw [d2]; exact hm)
  | @ag us vs hl h ih =>
    intro x hx
    cases hx with
    | ag us xs hl' hx => exact .ag _ _ (hl'.trans hl.symm) (fun j c x hc hx' => by
        have hlt : j < vs.length := by rw [← hl]; exact (List.getElem?_eq_some_iff.1 hc).1
        exact ih j c _ hc (List.getElem?_eq_getElem hlt) (hx j _ x (List.getElem?_eq_getElem hlt) hx'))
  | @tp us vs hl h ih =>
    intro x hx
    cases hx with
    | tp us xs hl' hx => exact .tp _ _ (hl'.trans hl.symm) (fun j c x hc hx' => by
        have hlt : j < vs.length := by rw [← hl]; exact (List.getElem?_eq_some_iff.1 hc).1
        exact ih j c _ hc (List.getElem?_eq_getElem hlt) (hx j _ x (List.getElem?_eq_getElem hlt) hx'))
  | @fn f us vs hl h ih =>
    intro x hx
    cases hx with
    | fn f us xs hl' hx => exact .fn _ _ _ (hl'.trans hl.symm) (fun j c x hc hx' => by
        have hlt : j < vs.length := by rw [← hl]; exact (List.getElem?_eq_some_iff.1 hc).1
        exact ih j c _ hc (List.getElem?_eq_getElem hlt) (hx j _ x (List.getElem?_eq_getElem hlt) hx'))
theorem Ren.up {E F : Env} (hs : E.sees F) (hD : ∀ j b, R j b → F.D b ∧ F.L b = E.L j) {u v : AV} (h : Ren dn R u v) (hdn : dn = false) : ∀ {x : Value}, RV E u x → RV F v x := by
  induction h with
  | clo h => exact fun hx => h.cl E F _ hs hx
  | @vag X cs h =>
    intro x hx
    subst h
    rw [hx.v_inv]
    have := RVs.vals (E := F) X.toList
    exact .ag _ _ (by simp) (fun j c x hc hx => this.2 j c x hc (by simpa using hx))
  | nil hd => rw [hdn] at hd; cases hd
  | agv hd => rw [hdn] at hd; cases hd
  | @pt j b o h =>
    intro x hx
    obtain ⟨d1, d2⟩ := hD j b h
    obtain ⟨g, rfl, h1, h2, hm⟩ := hx.pt_inv
    exact .pt _ _ g d1 (by rw [d2]; exact h2) (by rw [d2]; exact hm)
  | @sl j b n h =>
    intro x hx
    obtain ⟨d1, d2⟩ := hD j b h
    cases hx with | sl b n _ hn hm => rw [← d2] at hn hm ⊢; exact .sl _ _ d1 hn hm
  | @mp j b h =>
    intro x hx
    obtain ⟨d1, d2⟩ := hD j b h
    cases hx with | mp b g _ hg hm => exact .mp _ g d1 (by rw [d2]; exact hg) (by rw [d2]; exact hm)
  | @ag us vs hl h ih =>
    intro x hx
    cases hx with
    | ag us xs hl' hx => exact .ag _ _ (hl'.trans hl) (fun j c x hc hx' => by
        have hlt : j < us.length := by rw [hl]; exact (List.getElem?_eq_some_iff.1 hc).1
        exact ih j _ c (List.getElem?_eq_getElem hlt) hc (hx j _ x (List.getElem?_eq_getElem hlt) hx'))
  | @tp us vs hl h ih =>
    intro x hx
    cases hx with
    | tp us xs hl' hx => exact .tp _ _ (hl'.trans hl) (fun j c x hc hx' => by
        have hlt : j < us.length := by rw [hl]; exact (List.getElem?_eq_some_iff.1 hc).1
        exact ih j _ c (List.getElem?_eq_getElem hlt) hc (hx j _ x (List.getElem?_eq_getElem hlt) hx'))
  | @fn f us vs hl h ih =>
    intro x hx
    cases hx with
    | fn f us xs hl' hx => exact .fn _ _ _ (hl'.trans hl) (fun j c x hc hx' => by
        have hlt : j < us.length := by rw [hl]; exact (List.getElem?_eq_some_iff.1 hc).1
        exact ih j _ c (List.getElem?_eq_getElem hlt) hc (hx j _ x (List.getElem?_eq_getElem hlt) hx'))
theorem RenL.down {E F : Env} (hs : E.sees F) (hD : ∀ j b, R j b → F.D j ∧ F.L j = E.L b) {us vs : List AV} (h : RenL dn R us vs) {xs : List Value} (hx : RVs E vs xs) : RVs F us xs :=
  ⟨hx.1.trans h.1.symm, fun j c x hc hx' => by
    have hlt : j < vs.length := by rw [← h.1]; exact (List.getElem?_eq_some_iff.1 hc).1
    exact (h.2 j c _ hc (List.getElem?_eq_getElem hlt)).down hs hD (hx.2 j _ x (List.getElem?_eq_getElem hlt) hx')⟩
theorem RenL.up {E F : Env} (hs : E.sees F) (hD : ∀ j b, R j b → F.D b ∧ F.L b = E.L j) {us vs : List AV} (h : RenL dn R us vs) (hdn : dn = false) {xs : List Value} (hx : RVs E us xs) : RVs F vs xs :=
  ⟨hx.1.trans h.1, fun j c x hc hx' => by
    have hlt : j < us.length := by rw [h.1]; exact (List.getElem?_eq_some_iff.1 hc).1
    exact (h.2 j _ c (List.getElem?_eq_getElem hlt) hc).up hs hD hdn (hx.2 j _ x (List.getElem?_eq_getElem hlt) hx')⟩
theorem BOK.renum {E F : Env} {l : Loc} {blk blk' : ABlk} (h : BOK E l blk) (hw : F.w = E.w) (he : blk'.elem = blk.elem) (hz : blk'.sz = blk.sz) (hl : blk'.cells.length = blk.cells.length) (hc : ∀ xs, RVs E blk.cells xs → RVs F blk'.cells xs) : BOK F l blk' := by
  cases eg : l.g with
  | none =>
    have h0 := h.none eg
    refine .mk_none eg ⟨List.eq_nil_of_length_eq_zero ?_, h0.2⟩
    rw [hl, h0.1]; rfl
  | some g =>
    by_cases hm : l.c ≤ maxLen
    · obtain ⟨cs, c1, c2, c3, c4, c5⟩ := h.at eg hm
      exact .mk eg ⟨cs, by rw [hw, he]; exact c1, c2, by rw [hz]; exact c3, by rw [hl]; exact c4, by rw [hl]; exact hc _ c5⟩
    · obtain ⟨es, ck, c1, c2⟩ := h.atM eg hm
      exact .mkM eg hm (hz.trans (h.szM eg hm)) (by rw [hw]; exact h.stM eg hm) ⟨es, ck, by rw [hw]; exact c1, hc _ c2⟩
end
def Acts (P : Program) (f : FuncId) (H0 : List ABlk) (args : List AV) (v : AV) (H1 : List (Option ABlk)) : Prop :=
  ∀ (hid : Nat → Prop) (E0 : Env) (xs : List Value), (∀ j blk, H0[j]? = some blk → E0.D j ∧ BOK E0 (E0.L j) blk) → (∀ g, E0.S g ↔ (∃ j, j < H0.length ∧ (E0.L j).g = some g) ∨ hid g) → (∀ g, hid g → g < E0.w.heap.size ∧ ¬ ∃ j, j < H0.length ∧ (E0.L j).g = some g) →
    (∀ i j g, i < H0.length → j < H0.length → (E0.L i).g = some g → (E0.L j).g = some g → i = j) → (∀ b, E0.D b → b < H0.length) → RVs E0 args xs →
    Calls P f xs.toArray E0.w fun e w' => ∃ (x : Value) (ls : Nat → Loc), e = .returned x ∧ w'.os = E0.w.os ∧ w'.tape = E0.w.tape ∧ w'.output = E0.w.output ∧ E0.w.heap.size ≤ w'.heap.size ∧ (∀ g, g < E0.w.heap.size → (¬ ∃ j, j < H0.length ∧ (E0.L j).g = some g) → w'.heap[g]? = E0.w.heap[g]?) ∧
    H0.length ≤ H1.length ∧ (∀ j, j < H0.length → ls j = E0.L j) ∧ (∀ j g blk, H1[j]? = some (some blk) → (ls j).g = some g → E0.w.heap.size ≤ g ∨ ∃ i, i < H0.length ∧ (E0.L i).g = some g) ∧
    (∀ i j g b1 b2, H1[i]? = some (some b1) → H1[j]? = some (some b2) → (ls i).g = some g → (ls j).g = some g → i = j) ∧
    ∀ E' : Env, E'.w = w' → (∀ g, E'.S g → hid g ∨ ∃ j blk, H1[j]? = some (some blk) ∧ (ls j).g = some g) → (∀ j, j < H1.length → E'.D j ∧ E'.L j = ls j) → (∀ j blk, H1[j]? = some (some blk) → BOK E' (ls j) blk) ∧ RV E' v x
def IdR (ids : List Nat) (j b : Nat) : Prop := ids[j]? = some b
theorem IdR.mk {ids : List Nat} {j b : Nat} (h : ids[j]? = some b) : IdR ids j b := h
inductive OAs (R : Nat → Nat → Prop) (H : AH) : List Nat → List (Option ABlk) → Prop
  | nil : OAs R H [] []
  | gone {b : Nat} {ids : List Nat} {l : List (Option ABlk)} (t : OAs R H ids l) : OAs R H (b :: ids) (none :: l)
  | kept {b : Nat} {ids : List Nat} {blk blk' : ABlk} {l : List (Option ABlk)} (hb : hk H b = some blk') (he : blk.elem = blk'.elem) (hz : blk.sz = blk'.sz) (hc : RenL true R blk.cells blk'.cells) (t : OAs R H ids l) : OAs R H (b :: ids) (some blk :: l)
theorem OAs.get {R : Nat → Nat → Prop} {H : AH} {ids : List Nat} {l : List (Option ABlk)} (h : OAs R H ids l) : ids.length = l.length ∧ ∀ (j b : Nat) (blk : ABlk), ids[j]? = some b → l[j]? = some (some blk) → ∃ blk', hk H b = some blk' ∧ blk.elem = blk'.elem ∧ blk.sz = blk'.sz ∧ RenL true R blk.cells blk'.cells := by
  induction h with
  | nil => exact ⟨rfl, fun j b blk h => by simp at h⟩
  | @gone b ids l t ih =>
    refine ⟨by simp [ih.1], fun j b' blk' h1 h2 => ?_⟩
    cases j with
    | zero => simp at h2
    | succ j => exact ih.2 j b' blk' (by simpa using h1) (by simpa using h2)
  | @kept b ids blk blk2 l hb he hz hc t ih =>
    refine ⟨by simp [ih.1], fun j b' blk' h1 h2 => ?_⟩
    cases j with
    | zero => simp at h1 h2; subst h1 h2; exact ⟨blk2, hb, he, hz, hc⟩
    | succ j => exact ih.2 j b' blk' (by simpa using h1) (by simpa using h2)
def OutA (n0 : Nat) (H : AH) (u v : AV) (H1 : List (Option ABlk)) : Prop := ∃ ids : List Nat, distinct ids = true ∧ n0 ≤ H1.length ∧ (∀ j, j < n0 → ids[j]? = some j) ∧ OAs (IdR ids) H ids H1 ∧ Ren true (IdR ids) v u
def RetA (P : Program) (fn : Func) (n0 : Nat) (v : AV) (H1 : List (Option ABlk)) : AQ := fun e _ H T => (e = .normal ∨ e = .ret) ∧ ∃ u, ResV P fn H T u ∧ OutA n0 H u v H1
theorem RetA.mk {P : Program} {fn : Func} {n0 : Nat} {v u : AV} {H1 : List (Option ABlk)} {e : Exit} {k : Nat} {H : AH} {T : AT} (ids : List Nat) (he : e = .normal ∨ e = .ret) (hr : ResV P fn H T u) (hd : distinct ids = true) (hn : Nat.ble n0 H1.length = true) (hi : (List.range n0).all (fun j => match ids[j]? with | some b => Nat.beq b j | none => false) = true) (hb : OAs (IdR ids) H ids H1) (hv : Ren true (IdR ids) v u) : RetA P fn n0 v H1 e k H T :=
  have hi' : ∀ j, j < n0 → ids[j]? = some j := fun j hj => by
    have := List.all_eq_true.1 hi j (List.mem_range.2 hj)
    split at this
    · rename_i b hb; rw [hb, Nat.eq_of_beq_eq_true this]
    · cases this
  ⟨he, u, hr, ids, hd, Nat.le_of_ble_eq_true hn, hi', hb, hv⟩
theorem Acts.of {P : Program} {f : FuncId} {fn : Func} {c : Code} {H0 : List ABlk} {args : List AV} {v : AV} {H1 : List (Option ABlk)} (hf : P.funcs[f]? = some fn) (hb : fn.body = some c) (hn : args.length ≤ fn.ntmps) (h8 : H0.length ≤ 8)
    (h : ∀ w bl hid loc, Gol P fn.ntmps w ⟨bl, hid, H0.length, loc⟩ c 8 (nbk 0 H0) (slots args) (RetA P fn H0.length v H1)) : Acts P f H0 args v H1 := by
  intro hid E0 xs hB hS hhid hinj hD hx
  refine calls_of_wp hf hb ?_
  have hx' : ∀ (t : Nat) u, args[t]? = some u → ∃ x, xs[t]? = some x ∧ RV E0 u x := fun t u hu => hx.at hu
  have hl := hx.1
  let bl : Nat → Prop := fun g => ∃ j, j < H0.length ∧ (E0.L j).g = some g
  have hst : St fn.ntmps E0.w ⟨bl, hid, H0.length, E0.L⟩ 8 (nbk 0 H0) (slots args) { tmps := xs.toArray ++ Array.replicate (fn.ntmps - xs.toArray.size) undef, defers := [] } E0.w := by
    refine ⟨E0, rfl, ⟨rfl, rfl, rfl, Nat.le_refl _, fun _ _ _ => rfl, fun g => ?_, fun b blk hb => ?_, fun b b' k1 k2 g h1 h2 e1 e2 => ?_, hhid, fun b hb => ?_⟩, fun b hb => by have := hD b hb; omega, fun t u hu => ?_, by simp; omega, rfl⟩
    · rw [hS]
      constructor
      · rintro (⟨j, hj, e⟩ | hh)
        · exact .inl ⟨j, H0[j], by rw [hk_nbk0]; exact List.getElem?_eq_getElem hj, e⟩
        · exact .inr hh
      · rintro (⟨b, blk, hb, e⟩ | h)
        · rw [hk_nbk0] at hb; exact .inl ⟨b, (List.getElem?_eq_some_iff.1 hb).1, e⟩
        · exact .inr h
    · rw [hk_nbk0] at hb
      exact ⟨(hB b blk hb).1, fun g e => .inr ⟨b, (List.getElem?_eq_some_iff.1 hb).1, e⟩, (hB b blk hb).2⟩
    · rw [hk_nbk0] at h1 h2
      exact hinj b b' g (List.getElem?_eq_some_iff.1 h1).1 (List.getElem?_eq_some_iff.1 h2).1 e1 e2
    · exact ⟨(hB b _ (List.getElem?_eq_getElem hb)).1, rfl⟩
    · obtain ⟨x, h1, h2⟩ := hx' t u (slots_get args t u hu)
      have hlt : t < xs.length := (List.getElem?_eq_some_iff.1 h1).1
      exact ⟨x, by rw [Array.getElem?_append_left (by simpa using hlt)]; simpa using h1, h2⟩
  refine wp_mono (h E0.w bl hid E0.L _ _ hst) ?_
  rintro e a' w' ⟨k', H', T', ⟨E, e1, e2, e3, e4, e5, e6⟩, he, u, hr, ids, hd, hn1, hid0, hb1, hv⟩
  obtain ⟨x, hrun, hxu⟩ := hr _ _ E a' e2 e4
  subst e1
  obtain ⟨hlen, hget⟩ := hb1.get
  have hidx : ∀ j, j < H1.length → ∃ b, ids[j]? = some b := fun j hj => ⟨_, List.getElem?_eq_getElem (by omega)⟩
  have hL : ∀ j b : Nat, ids[j]? = some b → E.L (ids.getD j 0) = E.L b := fun j b h => by rw [List.getD_eq_getElem?_getD, h]; rfl
  have main : ∃ (ls : Nat → Loc), E.w.os = E0.w.os ∧ E.w.tape = E0.w.tape ∧ E.w.output = E0.w.output ∧ E0.w.heap.size ≤ E.w.heap.size ∧ (∀ g, g < E0.w.heap.size → (¬ ∃ j, j < H0.length ∧ (E0.L j).g = some g) → E.w.heap[g]? = E0.w.heap[g]?) ∧
      H0.length ≤ H1.length ∧ (∀ j, j < H0.length → ls j = E0.L j) ∧ (∀ j g blk, H1[j]? = some (some blk) → (ls j).g = some g → E0.w.heap.size ≤ g ∨ ∃ i, i < H0.length ∧ (E0.L i).g = some g) ∧
      (∀ i j g b1 b2, H1[i]? = some (some b1) → H1[j]? = some (some b2) → (ls i).g = some g → (ls j).g = some g → i = j) ∧
      ∀ E' : Env, E'.w = E.w → (∀ g, E'.S g → hid g ∨ ∃ j blk, H1[j]? = some (some blk) ∧ (ls j).g = some g) → (∀ j, j < H1.length → E'.D j ∧ E'.L j = ls j) → (∀ j blk, H1[j]? = some (some blk) → BOK E' (ls j) blk) ∧ RV E' v x := by
    refine ⟨fun j => E.L (ids.getD j 0), e2.os, e2.tape, e2.output, e2.size, fun g hg hno => e2.frame g hg hno, hn1, fun j hj => ?_, fun j g blk hj eg => ?_, fun i j g b1 b2 hi hj ei ej => ?_, fun E' hw hS' hD' => ?_⟩
    · simp only [hL j j (hid0 j hj)]
      exact (e2.pin j hj).2
    · have hjl := (List.getElem?_eq_some_iff.1 hj).1
      obtain ⟨b, h1⟩ := hidx j hjl
      obtain ⟨blk', h2, _⟩ := hget j b blk h1 hj
      simp only [hL j b h1] at eg
      exact (e2.own b blk' h2).2.1 g eg
    · obtain ⟨b, h1⟩ := hidx i (List.getElem?_eq_some_iff.1 hi).1
      obtain ⟨c, h2⟩ := hidx j (List.getElem?_eq_some_iff.1 hj).1
      obtain ⟨k1, h3, _⟩ := hget i b _ h1 hi
      obtain ⟨k2, h4, _⟩ := hget j c _ h2 hj
      simp only [hL i b h1] at ei
      simp only [hL j c h2] at ej
      have := e2.inj b c k1 k2 g h3 h4 ei ej
      subst this
      exact distinct_inj hd i j b h1 h2
    · have hsee : E.sees E' := ⟨by rw [hw]; exact Nat.le_refl _, fun g _ _ => by rw [hw], fun g _ hg => by
        rcases hS' g hg with hh | ⟨j, blk, hj, eg⟩
        · exact (e2.seq g).2 (.inr hh)
        · obtain ⟨b, h1⟩ := hidx j (List.getElem?_eq_some_iff.1 hj).1
          obtain ⟨blk', h2, _⟩ := hget j b blk h1 hj
          simp only [hL j b h1] at eg
          exact e2.S_of h2 eg⟩
      have hDL : ∀ j b, IdR ids j b → E'.D j ∧ E'.L j = E.L b := fun j b h => by
        have hjl : j < H1.length := by rw [← hlen]; exact (List.getElem?_eq_some_iff.1 h).1
        obtain ⟨d1, d2⟩ := hD' j hjl
        exact ⟨d1, by rw [d2]; exact hL j b h⟩
      refine ⟨fun j blk hj => ?_, hv.down hsee hDL hxu⟩
      obtain ⟨b, h1⟩ := hidx j (List.getElem?_eq_some_iff.1 hj).1
      obtain ⟨blk', h2, he', hz, hc⟩ := hget j b blk h1 hj
      simp only [hL j b h1]
      exact (e2.own b blk' h2).2.2.renum hw he' hz hc.1 (fun xs hx => hc.down hsee hDL hx)
  rcases he with rfl | rfl
  · obtain ⟨ls, m⟩ := main; exact ⟨e6, x, hrun, x, ls, rfl, m⟩
  · obtain ⟨ls, m⟩ := main; exact ⟨e6, x, hrun, x, ls, rfl, m⟩
def CaR (ids : List Nat) (k m j b : Nat) : Prop := ids[j]? = some b ∨ ∃ i, i < m ∧ j = ids.length + i ∧ b = k + i
theorem CaR.old {ids : List Nat} {k m j b : Nat} (h : ids[j]? = some b) : CaR ids k m j b := .inl h
theorem CaR.new {ids : List Nat} {k m j : Nat} (i : Nat) (h : Nat.blt i m = true) (hj : j = ids.length + i) : CaR ids k m j (k + i) := .inr ⟨i, by simpa [Nat.blt_eq] using h, hj, rfl⟩
inductive ABs (R : Nat → Nat → Prop) (H : AH) : List Nat → List ABlk → Prop
  | nil : ABs R H [] []
  | cons {b : Nat} {ids : List Nat} {blk blk' : ABlk} {l : List ABlk} (hb : hk H b = some blk') (he : blk.elem = blk'.elem) (hz : blk.sz = blk'.sz) (hc : RenL true R blk.cells blk'.cells) (t : ABs R H ids l) : ABs R H (b :: ids) (blk :: l)
theorem ABs.get {R : Nat → Nat → Prop} {H : AH} {ids : List Nat} {l : List ABlk} (h : ABs R H ids l) : ids.length = l.length ∧ ∀ (j b : Nat) (blk : ABlk), ids[j]? = some b → l[j]? = some blk → ∃ blk', hk H b = some blk' ∧ blk.elem = blk'.elem ∧ blk.sz = blk'.sz ∧ RenL true R blk.cells blk'.cells := by
  induction h with
  | nil => exact ⟨rfl, fun j b blk h => by simp at h⟩
  | @cons b ids blk blk2 l hb he hz hc t ih =>
    refine ⟨by simp [ih.1], fun j b' blk' h1 h2 => ?_⟩
    cases j with
    | zero => simp at h1 h2; subst h1 h2; exact ⟨blk2, hb, he, hz, hc⟩
    | succ j => exact ih.2 j b' blk' (by simpa using h1) (by simpa using h2)
inductive HRen (R : Nat → Nat → Prop) : Nat → List (Option ABlk) → AH → Prop
  | nil {j : Nat} : HRen R j [] []
  | gone {j b : Nat} {l : List (Option ABlk)} {h : AH} (hb : R j b) (t : HRen R (j + 1) l h) : HRen R j (none :: l) ((b, none) :: h)
  | kept {j b : Nat} {blk : ABlk} {cells : List AV} {l : List (Option ABlk)} {h : AH} (hb : R j b) (hc : RenL false R blk.cells cells) (t : HRen R (j + 1) l h) : HRen R j (some blk :: l) ((b, some ⟨cells, blk.elem, blk.sz⟩) :: h)
def EntR (R : Nat → Nat → Prop) (e e' : Option ABlk) : Prop := match e with
  | none => e' = none
  | some blk => ∃ cells, e' = some ⟨cells, blk.elem, blk.sz⟩ ∧ RenL false R blk.cells cells
theorem HRen.at {R : Nat → Nat → Prop} {j0 : Nat} {l : List (Option ABlk)} {h : AH} (hr : HRen R j0 l h) (Hr : AH) : ∀ b, (∃ i e e', l[i]? = some e ∧ R (j0 + i) b ∧ hk (h ++ Hr) b = e' ∧ EntR R e e') ∨ (b ∉ h.map (·.1) ∧ hk (h ++ Hr) b = hk Hr b) := by
  induction hr with
  | nil => exact fun b => .inr ⟨by simp, rfl⟩
  | @gone j c l h hb t ih =>
    intro b
    by_cases hc : c = b
    · subst hc; exact .inl ⟨0, none, none, rfl, hb, by rw [List.cons_append, hk_cons, if_pos rfl], rfl⟩
    · rcases ih b with ⟨i, e, e', h1, h2, h3, h4⟩ | ⟨h1, h2⟩
      · exact .inl ⟨i + 1, e, e', by simpa using h1, by rwa [show j + (i + 1) = j + 1 + i by omega], by rw [List.cons_append, hk_cons, if_neg hc]; exact h3, h4⟩
      · exact .inr ⟨by simp only [List.map_cons, List.mem_cons, not_or]; exact ⟨fun e => hc e.symm, h1⟩, by rw [List.cons_append, hk_cons, if_neg hc]; exact h2⟩
  | @kept j c blk cells l h hb hcl t ih =>
    intro b
    by_cases hc : c = b
    · subst hc; exact .inl ⟨0, some blk, _, rfl, hb, by rw [List.cons_append, hk_cons, if_pos rfl], cells, rfl, hcl⟩
    · rcases ih b with ⟨i, e, e', h1, h2, h3, h4⟩ | ⟨h1, h2⟩
      · exact .inl ⟨i + 1, e, e', by simpa using h1, by rwa [show j + (i + 1) = j + 1 + i by omega], by rw [List.cons_append, hk_cons, if_neg hc]; exact h3, h4⟩
      · exact .inr ⟨by simp only [List.map_cons, List.mem_cons, not_or]; exact ⟨fun e => hc e.symm, h1⟩, by rw [List.cons_append, hk_cons, if_neg hc]; exact h2⟩
theorem HRen.key {R : Nat → Nat → Prop} {j0 : Nat} {l : List (Option ABlk)} {h : AH} (hr : HRen R j0 l h) : ∀ i, i < l.length → ∃ b, R (j0 + i) b ∧ b ∈ h.map (·.1) := by
  induction hr with
  | nil => exact fun i hi => by simp at hi
  | @gone j c l h hb t ih =>
    intro i hi
    cases i with
    | zero => exact ⟨c, hb, by simp⟩
    | succ i => obtain ⟨b, h1, h2⟩ := ih i (by simpa using hi); exact ⟨b, by rwa [show j + (i + 1) = j + 1 + i by omega], by simp only [List.map_cons, List.mem_cons]; exact .inr h2⟩
  | @kept j c blk cells l h hb hcl t ih =>
    intro i hi
    cases i with
    | zero => exact ⟨c, hb, by simp⟩
    | succ i => obtain ⟨b, h1, h2⟩ := ih i (by simpa using hi); exact ⟨b, by rwa [show j + (i + 1) = j + 1 + i by omega], by simp only [List.map_cons, List.mem_cons]; exact .inr h2⟩
section
variable {P : Program} {k : Nat} {H : AH} {T : AT} {d : Option Tmp} {ty : TypeId} {ps : String} {af : Array Edge} {gd : Option (Nat × Bool)}
theorem s_acts {f : FuncId} {fo : Operand} {ops : List Operand} {ts : Array TypeId} {us ds cs : List AV} {H0 : List ABlk} {v v' : AV} {H1 : List (Option ABlk)} {Hn : AH} (ids : List Nat) (hf : ev T fo = some (.fn f ds)) (hF : FnI P f) (hc : Acts P f H0 cs v H1) (hu : evs T ops us) (hd : distinct ids = true)
    (hB : ABs (CaR ids k 0) H ids H0) (ha : RenL true (CaR ids k 0) cs (us ++ ds)) (hv : Ren false (CaR ids k (H1.length - ids.length)) v v') (hH : HRen (CaR ids k (H1.length - ids.length)) 0 H1 Hn) (hb8 : H1.length - ids.length ≤ 8) :
    StepU P ⟨d, .call { callee := .value fo, args := ops.toArray, argTypes := ts }, ty, ps, af, gd⟩ k ids H T v' Hn := by
  refine ⟨fun w0 M Hr E a hs hU hk0 hT K Q hK => ?_⟩
  have hfv := hT fo (by simp [Op.operands, Call.operands]) _ hf
  have hxs := evs_rvs (E := E) (a := a) hu (fun x hx => hT x (by simp [Op.operands, Call.operands, hx]))
  obtain ⟨hlen, hget⟩ := hB.get
  have hown : ∀ (j b : Nat) (blk : ABlk), ids[j]? = some b → H0[j]? = some blk → ∃ blk', hk Hr b = some blk' ∧ blk.elem = blk'.elem ∧ blk.sz = blk'.sz ∧ RenL true (CaR ids k 0) blk.cells blk'.cells := fun j b blk h1 h2 => by
    obtain ⟨blk', h3, h4⟩ := hget j b blk h1 h2
    exact ⟨blk', (hU b (List.mem_of_getElem? h1)).trans h3, h4⟩
  have hidx : ∀ j, j < H0.length → ∃ b, ids[j]? = some b := fun j hj => ⟨_, List.getElem?_eq_getElem (by omega)⟩
  have hids : ∀ b ∈ ids, ∃ blk, hk Hr b = some blk := fun b hb => by
    obtain ⟨j, hj⟩ := List.getElem?_of_mem hb
    have hlt : j < H0.length := by rw [← hlen]; exact (List.getElem?_eq_some_iff.1 hj).1
    obtain ⟨blk', h1, _⟩ := hown j b _ hj (List.getElem?_eq_getElem hlt)
    exact ⟨blk', h1⟩
  let E0 : Env := { w := E.w, S := E.S, L := fun j => E.L (ids.getD j 0), D := fun j => j < ids.length }
  have hL0 : ∀ j b : Nat, ids[j]? = some b → E0.D j ∧ E0.L j = E.L b := fun j b h => ⟨(List.getElem?_eq_some_iff.1 h).1, by show E.L (ids.getD j 0) = _; rw [List.getD_eq_getElem?_getD, h]; rfl⟩
  have hR0 : ∀ j b, CaR ids k 0 j b → E0.D j ∧ E0.L j = E.L b := fun j b h => by
    rcases h with h | ⟨i, hi, _⟩
    · exact hL0 j b h
    · omega
  have hsee : E.sees E0 := ⟨Nat.le_refl _, fun _ _ _ => rfl, fun g _ h => h⟩
  -- where the blocks lie that are handed in
  let own : Nat → Prop := fun g => ∃ j, j < H0.length ∧ (E0.L j).g = some g
  have hownG : ∀ g, own g → ∃ b blk, b ∈ ids ∧ hk Hr b = some blk ∧ (E.L b).g = some g := fun g ⟨j, hj, e⟩ => by
    obtain ⟨b, h1⟩ := hidx j hj
    obtain ⟨blk', h2, _⟩ := hown j b _ h1 (List.getElem?_eq_getElem hj)
    rw [(hL0 j b h1).2] at e
    exact ⟨b, blk', List.mem_of_getElem? h1, h2, e⟩
  have hGown : ∀ g b, b ∈ ids → (E.L b).g = some g → own g := fun g b hb e => by
    obtain ⟨j, hj⟩ := List.getElem?_of_mem hb
    exact ⟨j, by rw [← hlen]; exact (List.getElem?_eq_some_iff.1 hj).1, by rw [(hL0 j b hj).2]; exact e⟩
  have hownS : ∀ g, own g → E.S g := fun g h => by obtain ⟨b, blk, _, h1, h2⟩ := hownG g h; exact hs.S_of h1 h2
  let hid : Nat → Prop := fun g => E.S g ∧ ¬ own g
  have h0 : RVs E0 cs ((ops.map a.eval) ++ (match a.eval fo with | .func _ _ ys => ys.toList | _ => [])) := by
    generalize hfe : a.eval fo = fv at hfv
    cases hfv with
    | fn f ds ys hl h => exact ha.down hsee hR0 (hxs.append ⟨by simpa using hl, fun j c x hc hx => h j c x hc (by simpa using hx)⟩)
  have hcall := hc hid E0 _ (fun j blk hj => by
      have hlt := (List.getElem?_eq_some_iff.1 hj).1
      obtain ⟨b, h1⟩ := hidx j hlt
      obtain ⟨blk', h2, h3, h4, h5⟩ := hown j b blk h1 hj
      obtain ⟨d1, d2⟩ := hL0 j b h1
      refine ⟨d1, ?_⟩
      rw [d2]
      exact (hs.own b blk' h2).2.2.renum rfl h3 h4 h5.1 (fun xs hx => h5.down hsee hR0 hx))
    (fun g => by
      constructor
      · intro h
        by_cases ho : own g
        · exact .inl ho
        · exact .inr ⟨h, ho⟩
      · rintro (h | h)
        · exact hownS g h
        · exact h.1)
    (fun g h => ⟨hs.S_lt h.1, h.2⟩)
    (fun i j g hi hj ei ej => by
      obtain ⟨b, h1⟩ := hidx i hi
      obtain ⟨c, h2⟩ := hidx j hj
      rw [(hL0 i b h1).2] at ei
      rw [(hL0 j c h2).2] at ej
      obtain ⟨k1, h3, _⟩ := hown i b _ h1 (List.getElem?_eq_getElem hi)
      obtain ⟨k2, h4, _⟩ := hown j c _ h2 (List.getElem?_eq_getElem hj)
      have := hs.inj b c _ _ g h3 h4 ei ej
      subst this
      exact distinct_inj hd i j b h1 h2)
    (fun b hb => by rw [← hlen]; exact hb) h0
  have hrun : (execOp a.eval ⟨d, .call { callee := .value fo, args := ops.toArray, argTypes := ts }, ty, ps, af, gd⟩).run P E.w = .ok (.enter f ((ops.map a.eval) ++ (match a.eval fo with | .func _ _ ys => ys.toList | _ => [])).toArray) E.w := by
    generalize hfe : a.eval fo = fv at hfv
    cases hfv with
    | fn f ds ys hl h =>
      simp only [execOp, resolve, hfe, Deferred.ofValue, invoke, Sem.run_bind, Sem.run_pure, Result.andThen_ok, Array.empty_append, hF.hc]
      simp
  unfold Oper.wp
  rw [hrun]
  simp only [Oper.upon]
  refine hcall.mono ?_
  rintro e w' ⟨x, ls, rfl, ho, ht, hp, hsz, hfr, hn1, hls, hlo, hinj, hpost⟩
  have hn1' : ids.length ≤ H1.length := by omega
  have hm : ids.length + (H1.length - ids.length) = H1.length := by omega
  generalize hmm : H1.length - ids.length = m at *
  let E' : Env := { w := w', S := fun g => hid g ∨ ∃ j blk, H1[j]? = some (some blk) ∧ (ls j).g = some g, L := fun b => if k ≤ b ∧ b < k + m then ls (ids.length + (b - k)) else E.L b, D := fun b => E.D b ∨ (k ≤ b ∧ b < k + m) }
  have hne : ∀ b, E.D b → ¬ (k ≤ b ∧ b < k + m) := fun b hb h => hk0 b h.1 (by omega) hb
  have hidD : ∀ b ∈ ids, E.D b := fun b hb => by obtain ⟨blk, h1⟩ := hids b hb; exact (hs.own b blk h1).1
  have hLold : ∀ b, E.D b → E'.L b = E.L b := fun b hb => by show (if _ then _ else _) = _; rw [if_neg (hne b hb)]
  have hR : ∀ j b, CaR ids k m j b → j < H1.length ∧ E'.D b ∧ E'.L b = ls j := fun j b h => by
    rcases h with h | ⟨i, hi, rfl, rfl⟩
    · have hjl : j < ids.length := (List.getElem?_eq_some_iff.1 h).1
      have hbD := hidD b (List.mem_of_getElem? h)
      exact ⟨by omega, .inl hbD, by rw [hLold b hbD, hls j (by omega), (hL0 j b h).2]⟩
    · refine ⟨by omega, .inr ⟨by omega, by omega⟩, ?_⟩
      show (if _ then _ else _) = _
      rw [if_pos ⟨by omega, by omega⟩, Nat.add_sub_cancel_left]
  have hRinj : ∀ i j b, CaR ids k m i b → CaR ids k m j b → i = j := fun i j b h1 h2 => by
    rcases h1 with h1 | ⟨p, hp, rfl, rfl⟩ <;> rcases h2 with h2 | ⟨q, hq, hj, hb⟩
    · exact distinct_inj hd i j b h1 h2
    · have := hne b (hidD b (List.mem_of_getElem? h1)); omega
    · have := hne _ (hidD _ (List.mem_of_getElem? h2)); omega
    · omega
  have hRfun : ∀ j b c, CaR ids k m j b → CaR ids k m j c → b = c := fun j b c h1 h2 => by
    rcases h1 with h1 | ⟨p, hp, rfl, rfl⟩ <;> rcases h2 with h2 | ⟨q, hq, hj, hb⟩
    · rw [h1] at h2; injection h2
    · have := (List.getElem?_eq_some_iff.1 h1).1; omega
    · have := (List.getElem?_eq_some_iff.1 h2).1; omega
    · omega
  let Ec : Env := { w := w', S := E'.S, L := ls, D := fun j => j < H1.length }
  obtain ⟨pB, pv⟩ := hpost Ec rfl (fun g h => h) (fun j hj => ⟨hj, rfl⟩)
  have hseeC : Ec.sees E' := ⟨Nat.le_refl _, fun _ _ _ => rfl, fun g _ h => h⟩
  have hRu : ∀ j b, CaR ids k m j b → E'.D b ∧ E'.L b = Ec.L j := fun j b h => (hR j b h).2
  -- where the blocks behind the call lie
  have hlsS : ∀ j g blk, H1[j]? = some (some blk) → (ls j).g = some g → g < E.w.heap.size → own g := fun j g blk hj e hg => by
    rcases hlo j g blk hj e with h | h
    · exact absurd hg (Nat.not_lt.2 h)
    · exact h
  have hle : E.le E' := ⟨hsz, fun g hg hS => hfr g hg (fun h => hS (hownS g h)), fun g hg hS => by
      rcases hS with h | ⟨j, blk, hj, e⟩
      · exact h.1
      · exact hownS g (hlsS j g blk hj e hg), fun b hb => ⟨.inl hb, hLold b hb⟩⟩
  have hent : ∀ b blk, hk (Hn ++ Hr) b = some blk → (∃ j blk0, H1[j]? = some (some blk0) ∧ CaR ids k m j b ∧ blk.elem = blk0.elem ∧ blk.sz = blk0.sz ∧ RenL false (CaR ids k m) blk0.cells blk.cells) ∨ (b ∉ ids ∧ hk Hr b = some blk) := fun b blk hb => by
    rcases hH.at Hr b with ⟨i, e, e', h1, h2, h3, h4⟩ | ⟨h1, h2⟩
    · rw [Nat.zero_add] at h2
      rw [hb] at h3
      cases e with
      | none => simp only [EntR] at h4; rw [← h3] at h4; cases h4
      | some blk0 =>
        obtain ⟨cells, h5, h6⟩ := h4
        rw [← h3] at h5
        injection h5 with h5
        subst h5
        exact .inl ⟨i, blk0, h1, h2, rfl, rfl, h6⟩
    · rw [h2] at hb
      refine .inr ⟨fun hin => ?_, hb⟩
      obtain ⟨j, hj⟩ := List.getElem?_of_mem hin
      obtain ⟨c, h3, h4⟩ := hH.key j (by have := (List.getElem?_eq_some_iff.1 hj).1; omega)
      rw [Nat.zero_add] at h3
      exact h1 (hRfun j c b h3 (.inl hj) ▸ h4)
  have hfind : ∀ j blk0, H1[j]? = some (some blk0) → ∃ b blk, CaR ids k m j b ∧ hk (Hn ++ Hr) b = some blk := fun j blk0 hj => by
    obtain ⟨b, h1, h2⟩ := hH.key j (List.getElem?_eq_some_iff.1 hj).1
    rw [Nat.zero_add] at h1
    rcases hH.at Hr b with ⟨i, e, e', h3, h4, h5, h6⟩ | ⟨h3, _⟩
    · rw [Nat.zero_add] at h4
      obtain rfl := hRinj i j b h4 h1
      rw [hj] at h3
      injection h3 with h3
      subst h3
      obtain ⟨cells, h7, _⟩ := h6
      exact ⟨b, _, h1, h5.trans h7⟩
    · exact absurd h2 h3
  have hkeep : ∀ b, b ∉ ids → ∀ blk, hk Hr b = some blk → hk (Hn ++ Hr) b = some blk := fun b hb blk h => by
    rcases hH.at Hr b with ⟨i, e, e', h1, h2, h3, h4⟩ | ⟨h1, h2⟩
    · rw [Nat.zero_add] at h2
      rcases h2 with h2 | ⟨q, hq, _, hb2⟩
      · exact absurd (List.mem_of_getElem? h2) hb
      · have := hne b (hs.own b blk h).1; omega
    · rw [h2]; exact h
  have hSta : Sta w0 M (Hn ++ Hr) E' := by
    refine ⟨ho.trans hs.os, ht.trans hs.tape, hp.trans hs.output, Nat.le_trans hs.size hsz, fun g hg hM => ?_, fun g => ⟨?_, ?_⟩, fun b blk hb => ?_, fun b b' k1 k2 g h1 h2 e1 e2 => ?_, hs.hid, hs.pin_le hle⟩
    · refine (hfr g (Nat.lt_of_lt_of_le hg hs.size) (fun h => ?_)).trans (hs.frame g hg hM)
      obtain ⟨b, blk, _, h1, h2⟩ := hownG g h
      rcases (hs.own b blk h1).2.1 g h2 with h3 | h3
      · omega
      · exact hM h3
    · rintro (⟨h, hno⟩ | ⟨j, blk0, hj, e⟩)
      · rcases (hs.seq g).1 h with ⟨b, blk, hb, e⟩ | hh
        · have hni : b ∉ ids := fun hin => hno (hGown g b hin e)
          exact .inl ⟨b, blk, hkeep b hni blk hb, by rw [hLold b (hs.own b blk hb).1]; exact e⟩
        · exact .inr hh
      · obtain ⟨b, blk, h1, h2⟩ := hfind j blk0 hj
        exact .inl ⟨b, blk, h2, by rw [(hR j b h1).2.2]; exact e⟩
    · rintro (⟨b, blk, hb, e⟩ | hh)
      · rcases hent b blk hb with ⟨j, blk0, h1, h2, _⟩ | ⟨h1, h2⟩
        · exact .inr ⟨j, blk0, h1, by rw [← (hR j b h2).2.2]; exact e⟩
        · rw [hLold b (hs.own b blk h2).1] at e
          refine .inl ⟨hs.S_of h2 e, fun ho => ?_⟩
          obtain ⟨c, blk2, h3, h4, h5⟩ := hownG g ho
          exact h1 (hs.inj b c blk blk2 g h2 h4 e h5 ▸ h3)
      · refine .inl ⟨(hs.seq g).2 (.inr hh), fun ho => ?_⟩
        obtain ⟨c, blk2, _, h4, h5⟩ := hownG g ho
        exact hs.nhid h4 h5 hh
    · rcases hent b blk hb with ⟨j, blk0, h1, h2, h3, h4, h5⟩ | ⟨h1, h2⟩
      · obtain ⟨_, d1, d2⟩ := hR j b h2
        refine ⟨d1, fun g e => ?_, ?_⟩
        · rw [d2] at e
          rcases hlo j g blk0 h1 e with h6 | h6
          · exact .inl (Nat.le_trans hs.size h6)
          · obtain ⟨c, blk2, _, h7, h8⟩ := hownG g h6
            exact (hs.own c blk2 h7).2.1 g h8
        · rw [d2]
          exact (pB j blk0 h1).renum rfl h3 h4 h5.1.symm (fun xs hx => h5.up hseeC hRu rfl hx)
      · obtain ⟨o1, o2, o3⟩ := hs.own b blk h2
        rw [hLold b o1]
        refine ⟨.inl o1, o2, o3.mono hle (fun g e => hfr g (hs.lt h2 e) (fun ho => ?_))⟩
        obtain ⟨c, blk2, h3, h4, h5⟩ := hownG g ho
        exact h1 (hs.inj b c blk blk2 g h2 h4 e h5 ▸ h3)
    · have cross : ∀ j blk0 c blk, H1[j]? = some (some blk0) → (ls j).g = some g → c ∉ ids → hk Hr c = some blk → (E.L c).g = some g → False := fun j blk0 c blk h1 e h2 h3 e' => by
        have ho := hlsS j g blk0 h1 e (hs.lt h3 e')
        obtain ⟨c2, blk2, h4, h5, h6⟩ := hownG g ho
        exact h2 (hs.inj c c2 blk blk2 g h3 h5 e' h6 ▸ h4)
      rcases hent b k1 h1 with ⟨i, a1, p1, p2, _⟩ | ⟨p1, p2⟩ <;> rcases hent b' k2 h2 with ⟨j, a2, q1, q2, _⟩ | ⟨q1, q2⟩
      · rw [(hR i b p2).2.2] at e1
        rw [(hR j b' q2).2.2] at e2
        obtain rfl := hinj i j g a1 a2 p1 q1 e1 e2
        exact hRfun i b b' p2 q2
      · rw [(hR i b p2).2.2] at e1
        rw [hLold b' (hs.own b' k2 q2).1] at e2
        exact (cross i a1 b' k2 p1 e1 q1 q2 e2).elim
      · rw [hLold b (hs.own b k1 p2).1] at e1
        rw [(hR j b' q2).2.2] at e2
        exact (cross j a2 b k1 q1 e2 p1 p2 e1).elim
      · rw [hLold b (hs.own b k1 p2).1] at e1
        rw [hLold b' (hs.own b' k2 q2).1] at e2
        exact hs.inj b b' k1 k2 g p2 q2 e1 e2
  exact hK x E' hSta hle (fun b hb => hb.imp id (fun h => ⟨h.1, by omega⟩)) (hv.up hseeC hRu rfl pv)
end
end Go.Proofs.YtneeclacmhhblaaGreat


namespace Go.Proofs.YtneeclacmhhblaaGreat
open Go.RowKit
section
variable {κ ν : Type}
noncomputable section
open Classical in
def alk : List (κ × ν) → κ → Option ν
  | [], _ => none
  | p :: l, x => if x = p.1 then some p.2 else alk l x
open Classical in
def kix : List (κ × ν) → κ → Nat
  | [], _ => 0
  | p :: l, x => if x = p.1 then 0 else kix l x + 1
open Classical in
def aput : List (κ × ν) → κ → ν → List (κ × ν)
  | [], x, v => [(x, v)]
  | p :: l, x, v => if x = p.1 then (p.1, v) :: l else p :: aput l x v
open Classical in
def aent : List (κ × ν) → κ → ν → List (κ × ν)
  | [], x, z => [(x, z)]
  | p :: l, x, z => if x = p.1 then p :: l else p :: aent l x z
end
open Classical in
theorem alk_aput (l : List (κ × ν)) (x : κ) (v : ν) (y : κ) : alk (aput l x v) y = if y = x then some v else alk l y := by
  induction l with
  | nil => simp only [aput, alk]
  | cons p l ih =>
    simp only [aput]
    by_cases h : x = p.1
    · rw [if_pos h]
      simp only [alk, h]
      split <;> rfl
    · rw [if_neg h]
      simp only [alk, ih]
      by_cases h1 : y = p.1
      · rw [if_pos h1, if_pos h1, if_neg (fun e : y = x => h (e.symm.trans h1))]
      · rw [if_neg h1, if_neg h1]
theorem aput_aent (l : List (κ × ν)) (x : κ) (z v : ν) : aput (aent l x z) x v = aput l x v := by
  induction l with
  | nil => simp [aput, aent]
  | cons p l ih =>
    simp only [aent, aput]
    split
    · rename_i h; simp [aput, h]
    · rename_i h; simp [aput, h, ih]
theorem kix_lt {l : List (κ × ν)} {x : κ} {v : ν} (h : alk l x = some v) : l[kix l x]? = some (x, v) := by
  induction l with
  | nil => cases h
  | cons p l ih =>
    simp only [alk] at h
    simp only [kix]
    split at h
    · rename_i e; subst e; injection h with h; subst h; simp
    · rename_i e; simpa [e] using ih h
theorem kix_none {l : List (κ × ν)} {x : κ} (h : alk l x = none) : kix l x = l.length := by
  induction l with
  | nil => rfl
  | cons p l ih =>
    simp only [alk] at h
    split at h
    · cases h
    · rename_i e; simp [kix, e, ih h]
theorem aput_set {l : List (κ × ν)} {x : κ} {v w : ν} (h : alk l x = some w) : aput l x v = l.set (kix l x) (x, v) := by
  induction l with
  | nil => cases h
  | cons p l ih =>
    simp only [alk] at h
    simp only [aput, kix]
    split at h
    · rename_i e; subst e; simp
    · rename_i e; simp [e, ih h]
theorem aput_none {l : List (κ × ν)} {x : κ} {v : ν} (h : alk l x = none) : aput l x v = l ++ [(x, v)] := by
  induction l with
  | nil => rfl
  | cons p l ih =>
    simp only [alk] at h
    split at h
    · cases h
    · rename_i e; simp [aput, e, ih h]
theorem aent_some {l : List (κ × ν)} {x : κ} {z w : ν} (h : alk l x = some w) : aent l x z = l := by
  induction l with
  | nil => cases h
  | cons p l ih =>
    simp only [alk] at h
    split at h
    · rename_i e; simp [aent, e]
    · rename_i e; simp [aent, e, ih h]
theorem aent_none {l : List (κ × ν)} {x : κ} {z : ν} (h : alk l x = none) : aent l x z = l ++ [(x, z)] := by
  induction l with
  | nil => rfl
  | cons p l ih =>
    simp only [alk] at h
    split at h
    · cases h
    · rename_i e; simp [aent, e, ih h]
theorem alk_aent (l : List (κ × ν)) (x : κ) (z : ν) : alk (aent l x z) x = some ((alk l x).getD z) := by
  cases h : alk l x with
  | none => rw [aent_none h]; induction l with
    | nil => simp [alk]
    | cons p l ih =>
      simp only [alk] at h
      split at h
      · cases h
      · rename_i e; simp [alk, e]; simpa using ih h
  | some w => rw [aent_some h, h]; rfl
theorem kix_aent (l : List (κ × ν)) (x : κ) (z : ν) : kix (aent l x z) x = kix l x := by
  induction l with
  | nil => simp [aent, kix]
  | cons p l ih =>
    simp only [aent]
    split
    · rfl
    · rename_i e; simp [kix, e, ih]
variable (ke : κ → Value) (ve : ν → Value)
def kvA (l : List (κ × ν)) : List AV := l.flatMap fun p => [.v (ke p.1), .v (ve p.2)]
def kvV (l : List (κ × ν)) : List Value := l.flatMap fun p => [ke p.1, ve p.2]
theorem kvA_vals (l : List (κ × ν)) : kvA ke ve l = (kvV ke ve l).map .v := by
  induction l with
  | nil => rfl
  | cons p l ih => simp only [kvA, kvV, List.flatMap_cons, List.map_append] at ih ⊢; rw [ih]; rfl
instance (l : List (κ × ν)) : CloL (kvA ke ve l) := by rw [kvA_vals]; infer_instance
instance (l : List (κ × ν)) : ValL (kvA ke ve l) := by rw [kvA_vals]; infer_instance
theorem kvs_reads {E : Env} {l : List (κ × ν)} {es : Array MapEntry} (h : RVs E (kvA ke ve l) (kvs es)) : es.toList.map (fun e => (e.key, e.val)) = l.map fun p => (ke p.1, ve p.2) := by
  rw [kvA_vals] at h
  have h2 := h.vals_inv
  clear h
  have h := h2
  clear h2
  unfold kvs at h
  generalize es.toList = xs at h ⊢
  induction l generalizing xs with
  | nil => cases xs with
    | nil => rfl
    | cons x xs => simp [kvV] at h
  | cons p l ih => cases xs with
    | nil => simp [kvV] at h
    | cons x xs =>
      simp only [kvV, List.flatMap_cons, List.cons_append, List.nil_append, List.cons.injEq] at h
      simp only [List.map_cons, List.cons.injEq, Prod.mk.injEq]
      exact ⟨⟨h.1, h.2.1⟩, ih xs h.2.2⟩
theorem reads_kvs {E : Env} {l : List (κ × ν)} {es : Array MapEntry} (h : es.toList.map (fun e => (e.key, e.val)) = l.map fun p => (ke p.1, ve p.2)) : RVs E (kvA ke ve l) (kvs es) := by
  rw [kvA_vals]
  have : kvs es = kvV ke ve l := by
    unfold kvs
    generalize es.toList = xs at h ⊢
    induction l generalizing xs with
    | nil => cases xs with
      | nil => rfl
      | cons x xs => simp at h
    | cons p l ih => cases xs with
      | nil => simp at h
      | cons x xs =>
        simp only [List.map_cons, List.cons.injEq, Prod.mk.injEq] at h
        simp only [kvV, List.flatMap_cons, List.cons_append, List.nil_append]
        rw [h.1.1, h.1.2, ih xs h.2]; rfl
  rw [this]
  exact RVs.vals _
end
class MI (P : Program) (t : TypeId) (kt vt : outParam TypeId) (z : outParam Value) : Prop where
  under : P.underlying t = some (.map kt vt)
  zero : ∀ w, (zeroValue vt).run P w = .ok z w
class KI (P : Program) (kt : TypeId) {κ : Type} (ke : κ → Value) : Prop where
  ck : ∀ b x w, (Instr.checkKey b 10000 kt (ke x)).run P w = .ok () w
  eq : ∀ x y w, ∃ b : Bool, (b = true ↔ x = y) ∧ (Op.equal kt (ke x) (ke y)).run P w = .ok b w
  nf : ∃ d, P.underlying kt = some d ∧ ∀ x y, Instr.sameNow d (ke x) (ke y) = none
  sb : ∀ x, Instr.sameBits 10000 (ke x) (ke x) = true
section
variable {P : Program} {t kt vt : TypeId} {z : Value} {κ ν : Type} {ke : κ → Value} {ve : ν → Value}
theorem run_getMap {w : World} {g : Nat} {es : Array MapEntry} {ck : Nat} (h : w.heap[g]? = some (.map es ck)) : (getObj g).run P w = .ok (.map es ck) w := by
  simp [getObj, Sem.run, h]
theorem run_setMap {w : World} {g : Nat} {es : Array MapEntry} {ck : Nat} (h : w.heap[g]? = some (.map es ck)) (o : Obj) : (setObj g o).run P w = .ok () { w with heap := w.heap.setIfInBounds g o } := by
  simp [setObj, Sem.run, h]
theorem run_ask (hK : KI P kt ke) (w : World) (x : κ) : ∀ (l : List (κ × ν)) (es : List MapEntry) (i : Nat), es.map (fun e => (e.key, e.val)) = l.map (fun p => (ke p.1, ve p.2)) →
    (Instr.findAsking kt (ke x) es i).run P w = .ok ((alk l x).map fun v => (i + kix l x, ve v)) w
  | [], es, i, h => by
    have : es = [] := by simpa using h
    subst this
    rfl
  | p :: l, es, i, h => by
    cases es with
    | nil => simp at h
    | cons e es =>
      simp only [List.map_cons, List.cons.injEq, Prod.mk.injEq] at h
      obtain ⟨⟨h1, h2⟩, h3⟩ := h
      obtain ⟨bq, hbq, hrq⟩ := hK.eq x p.1 w
      simp only [Instr.findAsking, Sem.run_bind, h1, hrq, Result.andThen_ok]
      by_cases hx : x = p.1
      · rw [hbq.2 hx]
        simp [hx, alk, kix, h2, Sem.run_pure]
      · have := run_ask hK w x l es (i + 1) h3
        have hbf : bq = false := by cases bq with | false => rfl | true => exact absurd (hbq.1 rfl) hx
        simp only [hbf, Bool.false_eq_true, if_false, this, alk, kix, if_neg hx]
        congr 1
        cases alk l x with
        | none => rfl
        | some v => simp [Nat.add_assoc, Nat.add_comm 1]
theorem run_find (hK : KI P kt ke) (w : World) (x : κ) (l : List (κ × ν)) (es : List MapEntry) (h : es.map (fun e => (e.key, e.val)) = l.map (fun p => (ke p.1, ve p.2))) :
    (Instr.findKey kt (ke x) es).run P w = .ok ((alk l x).map fun v => (kix l x, ve v)) w := by
  obtain ⟨d, hd, hn⟩ := hK.nf
  unfold Instr.findKey
  simp only [Sem.run_bind, run_underlying hd, Result.andThen_ok]
  cases l with
  | nil =>
    have : es = [] := by simpa using h
    subst this
    rfl
  | cons p l =>
    cases es with
    | nil => simp at h
    | cons e es =>
      have h1 : e.key = ke p.1 := by simp only [List.map_cons, List.cons.injEq, Prod.mk.injEq] at h; exact h.1.1
      have : Instr.findNow d (ke x) (e :: es) 0 = none := by simp only [Instr.findNow, h1, hn]
      simp only [this]
      have := run_ask hK w x (p :: l) (e :: es) 0 h
      rw [this]
      congr 1
      cases alk (p :: l) x <;> simp
theorem run_look (hM : MI P t kt vt z) (hK : KI P kt ke) {w : World} {g : Nat} {es : Array MapEntry} {ck : Nat} (hg : w.heap[g]? = some (.map es ck)) (x : κ) (l : List (κ × ν)) (h : es.toList.map (fun e => (e.key, e.val)) = l.map (fun p => (ke p.1, ve p.2))) (c : Bool) :
    (Instr.lookup t (.map (some g)) (ke x) c).run P w = .ok (if c then .tuple #[((alk l x).map ve).getD z, .bool (alk l x).isSome] else ((alk l x).map ve).getD z) w := by
  unfold Instr.lookup
  simp only [Sem.run_bind, run_underlying hM.under, Result.andThen_ok, run_getMap hg, Sem.run_pure, hK.ck, run_find hK w x l es.toList h]
  cases alk l x with
  | none => simp only [Option.map_none, Sem.run_bind, hM.zero, Result.andThen_ok, Sem.run_pure, Option.getD_none, Option.isSome_none]
            try (cases c <;> rfl)
  | some v => simp only [Option.map_some, Sem.run_pure, Result.andThen_ok, Option.getD_some, Option.isSome_some]
              try (cases c <;> rfl)
theorem own_map {w0 : World} {M : Mod} {Hr : AH} {E : Env} (hs : Sta w0 M Hr E) {b : Nat} {X : Value} {blk : ABlk} (hb : hk Hr b = some blk) (hx : RV E (.mp b) X) : ∃ (g : Nat) (es : Array MapEntry) (ck : Nat), X = .map (some g) ∧ (E.L b).g = some g ∧ ¬ (E.L b).c ≤ maxLen ∧ E.w.heap[g]? = some (.map es ck) ∧ RVs E blk.cells (kvs es) ∧ Stamps es ck := by
  cases hx with
  | mp b g hD hg hm =>
    have o3 := (hs.own b blk hb).2.2
    obtain ⟨es, ck, c1, c2⟩ := o3.atM hg hm
    exact ⟨g, es, ck, rfl, hg, hm, c1, c2, o3.stM hg hm es ck c1⟩
theorem Sta.setM {w0 : World} {M : Mod} {H : AH} {E : Env} (h : Sta w0 M H E) {b : Nat} {blk : ABlk} {g : Nat} (hb : hk H b = some blk) (hg : (E.L b).g = some g) (hm : ¬ (E.L b).c ≤ maxLen) {es : Array MapEntry} {ck : Nat} (hst : Stamps es ck) (cells : List AV) (hlt : g < E.w.heap.size)
    (hR : ∀ E' : Env, RVs E' cells (kvs es)) :
    Sta w0 M ((b, some { blk with cells := cells }) :: H) { E with w := { E.w with heap := E.w.heap.setIfInBounds g (.map es ck) } } ∧ E.le { E with w := { E.w with heap := E.w.heap.setIfInBounds g (.map es ck) } } := by
  have hz := (h.own b blk hb).2.2.szM hg hm
  refine h.set hb hg { E.w with heap := E.w.heap.setIfInBounds g (.map es ck) } (by simp) (fun g' hne => by simp [Ne.symm hne]) rfl rfl rfl cells (fun E' hw hle => ?_)
  have hh : E'.w.heap[g]? = some (.map es ck) := by rw [hw]; simp [hlt]
  refine .mkM hg hm hz (fun es' ck' h' => ?_) ⟨es, ck, hh, hR E'⟩
  rw [hh] at h'; injection h' with h'; injection h' with h1 h2; subst h1 h2; exact hst
end
section
variable {P : Program} {t kt vt : TypeId} {z : Value} {κ ν : Type} {ke : κ → Value} {ve : ν → Value}
variable {k : Nat} {H : AH} {T : AT} {d : Option Tmp} {ty : TypeId} {ps : String} {af : Array Edge} {gd : Option (Nat × Bool)}
theorem s_makeMapN : StepU P ⟨d, .makeMap t none, ty, ps, af, gd⟩ k [] H T (.mp k) [(k, some ⟨[], t, 0⟩)] :=
  .of_new fun w0 M Hr E a hs hU hT => by
    have hh : (E.w.alloc (.map #[] 0)).heap[E.w.heap.size]? = some (.map #[] 0) := heap_alloc_new _ _
    refine ⟨.map (some E.w.heap.size), _, ⟨some E.w.heap.size, maxLen + 1⟩, rfl, below_alloc _ _, fun g e => by simp at e; omega, fun E' hw hle => ?_, fun E' hl hd => .mp _ _ hd (by rw [hl]) (by rw [hl]; exact Nat.not_succ_le_self _)⟩
    refine .mkM rfl (Nat.not_succ_le_self _) rfl (fun es ck h => ?_) ⟨#[], 0, by rw [hw]; exact hh, RVs.nil E'⟩
    rw [hw] at h
    have := hh.symm.trans h
    injection this with h'; injection h' with h1 h2; subst h1 h2
    exact ⟨rfl, fun i e h => by simp at h⟩
theorem s_makeMap [hM : MI P t kt vt z] {x : Operand} {kq : IntKind} {n : Int} (hx : ev T x = some (.v (.int kq n))) : StepU P ⟨d, .makeMap t (some x), ty, ps, af, gd⟩ k [] H T (.mp k) [(k, some ⟨[], t, 0⟩)] :=
  .of_new fun w0 M Hr E a hs hU hT => by
    have hv := (hT x (by simp [Op.operands]) _ hx).v_inv
    have hh : (E.w.alloc (.map #[] 0)).heap[E.w.heap.size]? = some (.map #[] 0) := heap_alloc_new _ _
    have hrun : (Instr.makeMap t (some (.int kq n))).run P E.w = .ok (.map (some E.w.heap.size)) (E.w.alloc (.map #[] 0)) := by
      simp [Instr.makeMap, run_underlying hM.under, asInt]
      rfl
    refine ⟨.map (some E.w.heap.size), _, ⟨some E.w.heap.size, maxLen + 1⟩, by simp only [execOp, Option.map_some, hv, Sem.run_bind, hrun, Result.andThen_ok]; rfl, below_alloc _ _, fun g e => by simp at e; omega, fun E' hw hle => ?_, fun E' hl hd => .mp _ _ hd (by rw [hl]) (by rw [hl]; exact Nat.not_succ_le_self _)⟩
    refine .mkM rfl (Nat.not_succ_le_self _) rfl (fun es ck h => ?_) ⟨#[], 0, by rw [hw]; exact hh, RVs.nil E'⟩
    rw [hw] at h
    have := hh.symm.trans h
    injection this with h'; injection h' with h1 h2; subst h1 h2
    exact ⟨rfl, fun i e h => by simp at h⟩
theorem map_at {w0 : World} {M : Mod} {Hr : AH} {E : Env} (hs : Sta w0 M Hr E) {u : AV} {X : Value} {l : List (κ × ν)} (hu : (∃ b blk, u = .mp b ∧ hk Hr b = some blk ∧ blk.cells = kvA ke ve l) ∨ u = .em (kvA ke ve l)) (hx : RV E u X) :
    ∃ (g : Nat) (es : Array MapEntry) (ck : Nat), X = .map (some g) ∧ E.w.heap[g]? = some (.map es ck) ∧ es.toList.map (fun e => (e.key, e.val)) = l.map (fun p => (ke p.1, ve p.2)) := by
  rcases hu with ⟨b, blk, rfl, hb, hc⟩ | rfl
  · obtain ⟨g, es, ck, h1, h2, h3, h4, h5, _⟩ := own_map hs hb hx
    rw [hc] at h5
    exact ⟨g, es, ck, h1, h4, kvs_reads ke ve h5⟩
  · cases hx with
    | em cs g es ck hg hS hx hl h => exact ⟨g, es, ck, rfl, hx, kvs_reads ke ve ⟨hl, h⟩⟩
theorem agu_v_inv {E : Env} {X : Array Value} {x : Value} (h : RV E (.ag (X.toList.map .v)) x) : x = .agg X := by
  cases h with
  | ag cs ys hl h =>
    have hR : RVs E (X.toList.map AV.v) ys.toList := ⟨by simpa using hl, fun j c x hc hx => h j c x hc (by simpa using hx)⟩
    have := hR.vals_inv
    have e : ys = X := by rw [← Array.toArray_toList (xs := ys), this, Array.toArray_toList]
    rw [e]
theorem lk_some {ve : ν → Value} {l : List (κ × ν)} {i : κ} {v : ν} (h : alk l i = some v) : ((alk l i).map ve).getD z = ve v := by rw [h]; rfl
theorem lk_none {ve : ν → Value} {l : List (κ × ν)} {i : κ} (h : alk l i = none) : ((alk l i).map ve).getD z = z := by rw [h]; rfl
theorem lk_getD {ve : ν → Value} {l : List (κ × ν)} {i : κ} {z0 : ν} : ((alk l i).map ve).getD (ve z0) = ve ((alk l i).getD z0) := by cases alk l i <;> rfl
theorem lk_aent {ve : ν → Value} {l : List (κ × ν)} {i : κ} {z0 : ν} : ((alk (aent l i z0) i).map ve).getD z = ve ((alk l i).getD z0) := by rw [alk_aent]; rfl
theorem lk_is {l : List (κ × ν)} {i : κ} {v : ν} (h : alk l i = some v) : (alk l i).isSome = true := by rw [h]; rfl
theorem lk_isnt {l : List (κ × ν)} {i : κ} (h : alk l i = none) : (alk l i).isSome = false := by rw [h]; rfl
def IsV (u : AV) (X : Value) : Prop := ∀ (E : Env) (x : Value), RV E u x → x = X
theorem isV_v {X : Value} : IsV (.v X) X := fun E x h => h.v_inv
theorem isV_ag {X : Array Value} {cs : List AV} (h : cs = X.toList.map .v) : IsV (.ag cs) (.agg X) := fun E x hx => by
  subst h
  exact (agu_v_inv hx)
theorem rv_two (E : Env) (p q : Value) : RV E (.tp [.v p, .v q]) (.tuple #[p, q]) := .tp _ _ rfl fun j w x hw hx => by
  match j with
  | 0 => simp at hw hx; subst hw hx; exact .v _
  | 1 => simp at hw hx; subst hw hx; exact .v _
  | j + 2 => simp at hw
theorem s_lookM2 {x y : Operand} {b : Nat} {e : TypeId} {sz : Nat} {l : List (κ × ν)} {i : κ} {X : Value} {bb : Bool} [hM : MI P t kt vt z] (hx : ev T x = some (.mp b)) (hb : hk H b = some ⟨kvA ke ve l, e, sz⟩) {uy : AV} (hy : ev T y = some uy) (hyv : IsV uy (ke i)) (hK : KI P kt ke) (hv : ((alk l i).map ve).getD z = X) (hi : (alk l i).isSome = bb) :
    StepU P ⟨d, .lookup t x y true, ty, ps, af, gd⟩ k [b] H T (.tp [.v X, .v (.bool bb)]) [] :=
  .of_pure fun _ _ _ E a hs hU hT => by
    have h1 := hT x (by simp [Op.operands]) _ hx
    have h2 := hyv E _ (hT y (by simp [Op.operands]) _ hy)
    obtain ⟨g, es, ck, h3, h4, h5⟩ := map_at hs (.inl ⟨b, _, rfl, (hU b (by simp)).trans hb, rfl⟩) h1
    have hr := run_look hM hK h4 i l h5 true
    simp only [if_true, Bool.false_eq_true, if_false] at hr
    refine ⟨_, by simp only [execOp, h3, h2, Sem.run_bind, hr, Result.andThen_ok]; rfl, ?_⟩
    subst hv hi; exact rv_two _ _ _
theorem s_lookM1 {x y : Operand} {b : Nat} {e : TypeId} {sz : Nat} {l : List (κ × ν)} {i : κ} {X : Value} [hM : MI P t kt vt z] (hx : ev T x = some (.mp b)) (hb : hk H b = some ⟨kvA ke ve l, e, sz⟩) {uy : AV} (hy : ev T y = some uy) (hyv : IsV uy (ke i)) (hK : KI P kt ke) (hv : ((alk l i).map ve).getD z = X) :
    StepU P ⟨d, .lookup t x y false, ty, ps, af, gd⟩ k [b] H T (.v X) [] :=
  .of_pure fun _ _ _ E a hs hU hT => by
    have h1 := hT x (by simp [Op.operands]) _ hx
    have h2 := hyv E _ (hT y (by simp [Op.operands]) _ hy)
    obtain ⟨g, es, ck, h3, h4, h5⟩ := map_at hs (.inl ⟨b, _, rfl, (hU b (by simp)).trans hb, rfl⟩) h1
    have hr := run_look hM hK h4 i l h5 false
    simp only [if_true, Bool.false_eq_true, if_false] at hr
    refine ⟨_, by simp only [execOp, h3, h2, Sem.run_bind, hr, Result.andThen_ok]; rfl, ?_⟩
    subst hv; exact .v _
theorem s_lookE2 {x y : Operand} {l : List (κ × ν)} {i : κ} {X : Value} {bb : Bool} [hM : MI P t kt vt z] (hx : ev T x = some (.em (kvA ke ve l))) {uy : AV} (hy : ev T y = some uy) (hyv : IsV uy (ke i)) (hK : KI P kt ke) (hv : ((alk l i).map ve).getD z = X) (hi : (alk l i).isSome = bb) :
    StepU P ⟨d, .lookup t x y true, ty, ps, af, gd⟩ k [] H T (.tp [.v X, .v (.bool bb)]) [] :=
  .of_pure fun _ _ _ E a hs hU hT => by
    have h1 := hT x (by simp [Op.operands]) _ hx
    have h2 := hyv E _ (hT y (by simp [Op.operands]) _ hy)
    obtain ⟨g, es, ck, h3, h4, h5⟩ := map_at hs (.inr rfl) h1
    have hr := run_look hM hK h4 i l h5 true
    simp only [if_true, Bool.false_eq_true, if_false] at hr
    refine ⟨_, by simp only [execOp, h3, h2, Sem.run_bind, hr, Result.andThen_ok]; rfl, ?_⟩
    subst hv hi; exact rv_two _ _ _
theorem s_lookE1 {x y : Operand} {l : List (κ × ν)} {i : κ} {X : Value} [hM : MI P t kt vt z] (hx : ev T x = some (.em (kvA ke ve l))) {uy : AV} (hy : ev T y = some uy) (hyv : IsV uy (ke i)) (hK : KI P kt ke) (hv : ((alk l i).map ve).getD z = X) :
    StepU P ⟨d, .lookup t x y false, ty, ps, af, gd⟩ k [] H T (.v X) [] :=
  .of_pure fun _ _ _ E a hs hU hT => by
    have h1 := hT x (by simp [Op.operands]) _ hx
    have h2 := hyv E _ (hT y (by simp [Op.operands]) _ hy)
    obtain ⟨g, es, ck, h3, h4, h5⟩ := map_at hs (.inr rfl) h1
    have hr := run_look hM hK h4 i l h5 false
    simp only [if_true, Bool.false_eq_true, if_false] at hr
    refine ⟨_, by simp only [execOp, h3, h2, Sem.run_bind, hr, Result.andThen_ok]; rfl, ?_⟩
    subst hv; exact .v _
theorem reads_set {l : List (κ × ν)} {es : Array MapEntry} {i : Nat} {p : κ × ν} (h : es.toList.map (fun e => (e.key, e.val)) = l.map (fun p => (ke p.1, ve p.2))) (f : MapEntry → MapEntry) (hf : ∀ e, es[i]? = some e → (f e).key = ke p.1 ∧ (f e).val = ve p.2) :
    (es.modify i f).toList.map (fun e => (e.key, e.val)) = (l.set i p).map (fun p => (ke p.1, ve p.2)) := by
  apply List.ext_getElem?
  intro j
  have hj := congrArg (fun x => x[j]?) h
  simp only [List.getElem?_map, Array.getElem?_toList] at hj
  simp only [List.getElem?_map, Array.getElem?_toList, Array.getElem?_modify, List.getElem?_set]
  by_cases hij : i = j
  · subst hij
    simp only [if_true]
    cases he : es[i]? with
    | none =>
      have hl : l.length ≤ i := by
        rw [he] at hj
        cases hl : l[i]? with
        | none => exact List.getElem?_eq_none_iff.1 hl
        | some q => rw [hl] at hj; simp at hj
      rw [if_neg (by omega)]; rfl
    | some e =>
      have hl : i < l.length := by
        rw [he] at hj
        cases hl : l[i]? with
        | none => rw [hl] at hj; simp at hj
        | some q => exact (List.getElem?_eq_some_iff.1 hl).1
      rw [if_pos hl]
      simp [hf e he]
  · simp only [if_neg hij]; exact hj
theorem stamps_modify {es : Array MapEntry} {ck i : Nat} (h : Stamps es ck) (f : MapEntry → MapEntry) (hf : ∀ e, (f e).born = e.born) : Stamps (es.modify i f) ck := by
  refine ⟨by simp [h.1], fun j e he => ?_⟩
  rw [Array.getElem?_modify] at he
  split at he
  · cases hq : es[j]? with
    | none => rw [hq] at he; simp at he
    | some e' => rw [hq] at he; simp at he; subst he; rw [hf]; exact h.2 j e' hq
  · exact h.2 j e he
theorem stamps_push {es : Array MapEntry} {ck : Nat} (h : Stamps es ck) (x y : Value) : Stamps (es.push { key := x, val := y, born := ck }) (ck + 1) := by
  refine ⟨by simp [h.1], fun j e he => ?_⟩
  rw [Array.getElem?_push] at he
  split at he
  · rename_i hj; injection he with he; subst he; show ck = j; rw [h.1, hj]
  · exact h.2 j e he
theorem run_stays (hK : KI P kt ke) (x : κ) (w : World) : (Instr.keyThatStays (ke x) (ke x)).run P w = .ok (ke x) w := by
  unfold Instr.keyThatStays
  rw [if_pos (hK.sb x)]; rfl
theorem key_at {l : List (κ × ν)} {es : Array MapEntry} {i : Nat} {p : κ × ν} (h : es.toList.map (fun e => (e.key, e.val)) = l.map (fun p => (ke p.1, ve p.2))) (hp : l[i]? = some p) : ∃ e, es[i]? = some e ∧ e.key = ke p.1 ∧ e.val = ve p.2 := by
  have hj := congrArg (fun x => x[i]?) h
  simp only [List.getElem?_map, Array.getElem?_toList, hp, Option.map_some] at hj
  cases he : es[i]? with
  | none => rw [he] at hj; simp at hj
  | some e => rw [he] at hj; simp at hj; exact ⟨e, rfl, hj.1, hj.2⟩
theorem s_mapUpd {m x y : Operand} {b : Nat} {e : TypeId} {sz : Nat} {l : List (κ × ν)} {i : κ} {v : ν} [hM : MI P t kt vt z] (hm : ev T m = some (.mp b)) (hb : hk H b = some ⟨kvA ke ve l, e, sz⟩) {ux uy : AV} (hx : ev T x = some ux) (hxv : IsV ux (ke i)) (hK : KI P kt ke) (hy : ev T y = some uy) (hyv : IsV uy (ve v)) :
    StepU P ⟨d, .mapUpdate t m x y, ty, ps, af, gd⟩ k [b] H T (.v undef) [(b, some ⟨kvA ke ve (aput l i v), e, sz⟩)] := by
  refine ⟨fun w0 M Hr E a hs hU _ hT K Q hK' => ?_⟩
  have h1 := hT m (by simp [Op.operands]) _ hm
  have h2 := hxv E _ (hT x (by simp [Op.operands]) _ hx)
  have h3 := hyv E _ (hT y (by simp [Op.operands]) _ hy)
  have hb' := (hU b (by simp)).trans hb
  obtain ⟨g, es, ck, e1, e2, e3, e4, e5, e6⟩ := own_map hs hb' h1
  have hr := kvs_reads ke ve e5
  have hlt := (Array.getElem?_eq_some_iff.1 e4).1
  have hfind := run_find hK E.w i l es.toList hr
  cases hl : alk l i with
  | some w1 =>
    rw [hl, Option.map_some] at hfind
    have hp := kix_lt hl
    obtain ⟨en, k1, k2, k3⟩ := key_at hr hp
    have hrun : (Instr.mapUpdate t (.map (some g)) (ke i) (ve v)).run P E.w = .ok () { E.w with heap := E.w.heap.setIfInBounds g (.map (es.modify (kix l i) fun e => { e with key := ke i, val := ve v }) ck) } := by
      unfold Instr.mapUpdate
      simp only [Sem.run_bind, run_underlying hM.under, Result.andThen_ok, run_getMap e4, hK.ck, hfind, k1, Option.map_some, Option.getD_some, k2, run_stays hK, run_setMap e4]
    obtain ⟨q1, q2⟩ := hs.setM hb' e2 e3 (stamps_modify (i := kix l i) e6 (fun e => { e with key := ke i, val := ve v }) (fun _ => rfl)) (kvA ke ve (aput l i v)) hlt (fun E' => by
      refine reads_kvs ke ve ?_
      rw [aput_set hl]
      exact reads_set hr _ (fun e he => ⟨rfl, rfl⟩))
    unfold Oper.wp
    have : (execOp a.eval ⟨d, .mapUpdate t m x y, ty, ps, af, gd⟩).run P E.w = .ok .skip { E.w with heap := E.w.heap.setIfInBounds g (.map (es.modify (kix l i) fun e => { e with key := ke i, val := ve v }) ck) } := by
      simp only [execOp, e1, h2, h3, Sem.run_bind, hrun, Result.andThen_ok]; rfl
    rw [this]
    exact hK' _ _ q1 q2 (fun b hb => .inl hb) (.v _)
  | none =>
    rw [hl, Option.map_none] at hfind
    have hrun : (Instr.mapUpdate t (.map (some g)) (ke i) (ve v)).run P E.w = .ok () { E.w with heap := E.w.heap.setIfInBounds g (.map (es.push { key := ke i, val := ve v, born := ck }) (ck + 1)) } := by
      unfold Instr.mapUpdate
      simp only [Sem.run_bind, run_underlying hM.under, Result.andThen_ok, run_getMap e4, hK.ck, hfind, run_setMap e4]
    obtain ⟨q1, q2⟩ := hs.setM hb' e2 e3 (stamps_push e6 (ke i) (ve v)) (kvA ke ve (aput l i v)) hlt (fun E' => by
      refine reads_kvs ke ve ?_
      rw [aput_none hl]
      simp [hr])
    unfold Oper.wp
    have : (execOp a.eval ⟨d, .mapUpdate t m x y, ty, ps, af, gd⟩).run P E.w = .ok .skip { E.w with heap := E.w.heap.setIfInBounds g (.map (es.push { key := ke i, val := ve v, born := ck }) (ck + 1)) } := by
      simp only [execOp, e1, h2, h3, Sem.run_bind, hrun, Result.andThen_ok]; rfl
    rw [this]
    exact hK' _ _ q1 q2 (fun b hb => .inl hb) (.v _)
theorem s_mapEnt {m x : Operand} {b : Nat} {e : TypeId} {sz : Nat} {l : List (κ × ν)} {i : κ} {z0 : ν} [hM : MI P t kt vt z] (hm : ev T m = some (.mp b)) (hb : hk H b = some ⟨kvA ke ve l, e, sz⟩) {ux : AV} (hx : ev T x = some ux) (hxv : IsV ux (ke i)) (hK : KI P kt ke) (hz : ve z0 = z) :
    StepU P ⟨d, .mapEntry t m x, ty, ps, af, gd⟩ k [b] H T (.tp [.v (ve ((alk l i).getD z0)), .v (.int .i64 (kix l i : Nat))]) [(b, some ⟨kvA ke ve (aent l i z0), e, sz⟩)] := by
  refine ⟨fun w0 M Hr E a hs hU _ hT K Q hK' => ?_⟩
  have h1 := hT m (by simp [Op.operands]) _ hm
  have h2 := hxv E _ (hT x (by simp [Op.operands]) _ hx)
  have hb' := (hU b (by simp)).trans hb
  obtain ⟨g, es, ck, e1, e2, e3, e4, e5, e6⟩ := own_map hs hb' h1
  have hr := kvs_reads ke ve e5
  have hlt := (Array.getElem?_eq_some_iff.1 e4).1
  have hfind := run_find hK E.w i l es.toList hr
  have hRV : ∀ (E' : Env) (p q : Value), RV E' (.tp [.v p, .v q]) (.tuple #[p, q]) := fun E' p q => .tp _ _ rfl fun j w x hw hx => by
    match j with
    | 0 => simp at hw hx; subst hw hx; exact .v _
    | 1 => simp at hw hx; subst hw hx; exact .v _
    | j + 2 => simp at hw
  cases hl : alk l i with
  | some w1 =>
    rw [hl, Option.map_some] at hfind
    have hp := kix_lt hl
    obtain ⟨en, k1, k2, k3⟩ := key_at hr hp
    have hborn := e6.2 _ en k1
    have hrun : (Instr.mapEntry t (.map (some g)) (ke i)).run P E.w = .ok (.tuple #[ve w1, .int .i64 (kix l i : Nat)]) { E.w with heap := E.w.heap.setIfInBounds g (.map (es.modify (kix l i) fun e => { e with key := ke i }) ck) } := by
      unfold Instr.mapEntry
      simp only [Sem.run_bind, run_underlying hM.under, Result.andThen_ok, run_getMap e4, hK.ck, hfind, k1, Option.map_some, Option.getD_some, k2, run_stays hK, run_setMap e4, Sem.run_pure, hborn, goInt]
    obtain ⟨q1, q2⟩ := hs.setM hb' e2 e3 (stamps_modify (i := kix l i) e6 (fun e => { e with key := ke i }) (fun _ => rfl)) (kvA ke ve (aent l i z0)) hlt (fun E' => by
      refine reads_kvs ke ve ?_
      rw [aent_some hl]
      have := reads_set (i := kix l i) (p := (i, w1)) hr (fun e => { e with key := ke i }) (fun e he => by rw [k1] at he; injection he with he; subst he; exact ⟨rfl, k3⟩)
      rw [this]
      congr 1
      apply List.ext_getElem?
      intro j
      rw [List.getElem?_set]
      split
      · rename_i hj; subst hj; rw [hp, if_pos (List.getElem?_eq_some_iff.1 hp).1]
      · rfl)
    unfold Oper.wp
    have : (execOp a.eval ⟨d, .mapEntry t m x, ty, ps, af, gd⟩).run P E.w = .ok (.value (.tuple #[ve w1, .int .i64 (kix l i : Nat)])) { E.w with heap := E.w.heap.setIfInBounds g (.map (es.modify (kix l i) fun e => { e with key := ke i }) ck) } := by
      simp only [execOp, e1, h2, Sem.run_bind, hrun, Result.andThen_ok]; rfl
    rw [this]
    exact hK' _ _ q1 q2 (fun b hb => .inl hb) (by rw [hl]; exact hRV _ _ _)
  | none =>
    rw [hl, Option.map_none] at hfind
    have hck : ck = kix l i := by
      have hle := congrArg List.length hr
      simp only [List.length_map, Array.length_toList] at hle
      rw [e6.1, hle, kix_none hl]
    have hrun : (Instr.mapEntry t (.map (some g)) (ke i)).run P E.w = .ok (.tuple #[z, .int .i64 (ck : Nat)]) { E.w with heap := E.w.heap.setIfInBounds g (.map (es.push { key := ke i, val := z, born := ck }) (ck + 1)) } := by
      unfold Instr.mapEntry
      simp only [Sem.run_bind, run_underlying hM.under, Result.andThen_ok, run_getMap e4, hK.ck, hfind, hM.zero, run_setMap e4, Sem.run_pure, goInt]
    obtain ⟨q1, q2⟩ := hs.setM hb' e2 e3 (stamps_push e6 (ke i) z) (kvA ke ve (aent l i z0)) hlt (fun E' => by
      refine reads_kvs ke ve ?_
      rw [aent_none hl]
      simp [hr, hz])
    unfold Oper.wp
    have : (execOp a.eval ⟨d, .mapEntry t m x, ty, ps, af, gd⟩).run P E.w = .ok (.value (.tuple #[z, .int .i64 (ck : Nat)])) { E.w with heap := E.w.heap.setIfInBounds g (.map (es.push { key := ke i, val := z, born := ck }) (ck + 1)) } := by
      simp only [execOp, e1, h2, Sem.run_bind, hrun, Result.andThen_ok]; rfl
    rw [this]
    refine hK' _ _ q1 q2 (fun b hb => .inl hb) ?_
    rw [hl, ← hck]
    simp only [Option.getD_none, hz]
    exact hRV _ _ _
theorem find_born {es : Array MapEntry} {ck i : Nat} (h : Stamps es ck) (hi : i < es.size) : es.findIdx? (fun e => (e.born : Int) == (i : Int)) = some i := by
  rw [Array.findIdx?_eq_some_iff_getElem]
  refine ⟨hi, ?_, fun j hj => ?_⟩
  · rw [h.2 i _ (Array.getElem?_eq_getElem hi)]; simp
  · rw [h.2 j _ (Array.getElem?_eq_getElem (by omega))]
    simp; omega
theorem s_entSt {m x y : Operand} {b : Nat} {e : TypeId} {sz : Nat} {l : List (κ × ν)} {i : κ} {v z0 : ν} (hm : ev T m = some (.mp b)) (hb : hk H b = some ⟨kvA ke ve (aent l i z0), e, sz⟩) (hx : ev T x = some (.v (.int .i64 (kix l i : Nat)))) {uy : AV} (hy : ev T y = some uy) (hyv : IsV uy (ve v)) :
    StepU P ⟨d, .entryStore t m x y, ty, ps, af, gd⟩ k [b] H T (.v undef) [(b, some ⟨kvA ke ve (aput l i v), e, sz⟩)] := by
  refine ⟨fun w0 M Hr E a hs hU _ hT K Q hK' => ?_⟩
  have h1 := hT m (by simp [Op.operands]) _ hm
  have h2 := (hT x (by simp [Op.operands]) _ hx).v_inv
  have h3 := hyv E _ (hT y (by simp [Op.operands]) _ hy)
  have hb' := (hU b (by simp)).trans hb
  obtain ⟨g, es, ck, e1, e2, e3, e4, e5, e6⟩ := own_map hs hb' h1
  have hr := kvs_reads ke ve e5
  have hlt := (Array.getElem?_eq_some_iff.1 e4).1
  have hae := alk_aent l i z0
  have hp := kix_lt hae
  rw [kix_aent] at hp
  obtain ⟨en, k1, k2, k3⟩ := key_at hr hp
  have hil := (Array.getElem?_eq_some_iff.1 k1).1
  have hrun : (Instr.entryStore t (.map (some g)) (.int .i64 (kix l i : Nat)) (ve v)).run P E.w = .ok () { E.w with heap := E.w.heap.setIfInBounds g (.map (es.modify (kix l i) fun e => { e with val := ve v }) ck) } := by
    unfold Instr.entryStore
    simp only [Sem.run_bind, Result.andThen_ok, run_getMap e4, asInt, asIntOf, Sem.run_pure, find_born e6 hil, run_setMap e4]
  obtain ⟨q1, q2⟩ := hs.setM hb' e2 e3 (stamps_modify (i := kix l i) e6 (fun e => { e with val := ve v }) (fun _ => rfl)) (kvA ke ve (aput l i v)) hlt (fun E' => by
    refine reads_kvs ke ve ?_
    rw [← aput_aent l i z0 v, aput_set hae, kix_aent]
    exact reads_set hr _ (fun e he => by rw [k1] at he; injection he with he; subst he; exact ⟨k2, rfl⟩))
  unfold Oper.wp
  have : (execOp a.eval ⟨d, .entryStore t m x y, ty, ps, af, gd⟩).run P E.w = .ok .skip { E.w with heap := E.w.heap.setIfInBounds g (.map (es.modify (kix l i) fun e => { e with val := ve v }) ck) } := by
    simp only [execOp, e1, h2, h3, Sem.run_bind, hrun, Result.andThen_ok]; rfl
  rw [this]
  exact hK' _ _ q1 q2 (fun b hb => .inl hb) (.v _)
end
theorem soft_one {tr : List Stp} (i0 : Nat) {b j : Nat} {y : Option ABlk} (h1 : (tr.zipIdx.all fun x => x.1.W.isEmpty || Nat.beq x.2 i0) = true) (h2 : ∃ s, tr[i0]? = some s ∧ s.W = [(b, y, j)]) (h3 : ∃ r, tr[j]? = some r ∧ r.Hn = [(b, y)]) :
    ∀ (i : Nat) s w, tr[i]? = some s → w ∈ s.W → ∃ r, tr[w.2.2]? = some r ∧ r.Hn = [(w.1, w.2.1)] := fun i s w hs hw => by
  have := List.all_eq_true.1 h1 (s, i) (by rw [List.mem_zipIdx_iff_getElem?]; exact hs)
  simp only [Bool.or_eq_true, List.isEmpty_iff] at this
  rcases this with h | h
  · rw [h] at hw; cases hw
  · obtain rfl := Nat.eq_of_beq_eq_true h
    obtain ⟨s', h4, h5⟩ := h2
    rw [hs] at h4; injection h4 with h4; subst h4
    rw [h5] at hw
    simp at hw
    subst hw
    exact h3
theorem Le.giveM {M : Mod} {k : Nat} {H : AH} {T : AT} {i b : Nat} {blk : ABlk} {cs : List AV} (h : lk T i = some (.mp b)) (hb : hk H b = some blk) (hc : blk.cells = cs) : Le M k H T k ((b, none) :: H) ((i, .em cs) :: T) := by
  subst hc
  rintro m w0 a w ⟨E, e1, e2, e3, e4, e5, e6⟩
  obtain ⟨E', w1, w2, w3, hle, hs, hg⟩ := e2.giveUp b
  refine ⟨E', w1.trans e1, hs, fun b' hb' => e3 b' (by rw [← w3]; exact hb'), fun t u hu => ?_, e5, e6⟩
  rw [lk_cons] at hu
  split at hu
  · rename_i ei; subst ei; injection hu with hu; subst hu
    obtain ⟨x, hx, hr⟩ := e4 i _ h
    refine ⟨x, hx, ?_⟩
    obtain ⟨g, es, ck, k1, k2, k3, k4, k5, _⟩ := own_map e2 hb hr
    subst k1
    have := k5.mono hle
    exact .em _ g es ck (by rw [w1]; exact (Array.getElem?_eq_some_iff.1 k4).1) (hg blk g hb k2) (by rw [w1]; exact k4) this.1 this.2
  · obtain ⟨x, hx, hr⟩ := e4 t u hu; exact ⟨x, hx, hr.mono hle⟩
theorem Le.giveMC {M : Mod} {k : Nat} {H : AH} {T : AT} {B b : Nat} {blkB blk : ABlk} (j : Nat) {cs : List AV} (hB : hk H B = some blkB) (hj : blkB.cells[j]? = some (.mp b)) (hb : hk H b = some blk) (hne : Nat.beq b B = false) (hsz : Nat.blt 0 blkB.sz = true) (hc : blk.cells = cs) : Le M k H T k ((B, some { blkB with cells := blkB.cells.set j (.em cs) }) :: (b, none) :: H) T := by
  subst hc
  rintro m w0 a w ⟨E, e1, e2, e3, e4, e5, e6⟩
  have hbB : b ≠ B := fun e => by subst e; simp at hne
  obtain ⟨E', w1, w2, w3, hle, hs, hg⟩ := e2.giveUp b
  have hB' : hk ((b, none) :: H) B = some blkB := by rw [hk_cons, if_neg hbB]; exact hB
  obtain ⟨o1, o2, o3⟩ := hs.own B blkB hB'
  have key : BOK E' (E'.L B) { blkB with cells := blkB.cells.set j (.em blk.cells) } := by
    cases eg : (E'.L B).g with
    | none => have hz := o3.none eg; rw [hz.1] at hj; simp at hj
    | some g =>
      by_cases hmB : (E'.L B).c ≤ maxLen
      case' neg => exact absurd hsz (by rw [o3.szM eg hmB]; simp)
      obtain ⟨cc, c1, c2, c3, c4, c5⟩ := o3.at eg hmB
      obtain ⟨x, hx, hr⟩ := c5.at hj
      have hr0 : RV E (.mp b) x := by
        cases hr with
        | mp b g hD hg hm => rw [w2] at hg hm; rw [w3] at hD; exact .mp _ g hD hg hm
      obtain ⟨g2, es, ck, k1, k2, k3, k4, k5, _⟩ := own_map e2 hb hr0
      subst k1
      have h5 := k5.mono hle
      have hem : RV E' (.em blk.cells) (.map (some g2)) := .em _ g2 es ck (by rw [w1]; exact (Array.getElem?_eq_some_iff.1 k4).1) (hg blk g2 hb k2) (by rw [w1]; exact k4) h5.1 h5.2
      refine .mk eg ⟨cc, c1, c2, c3, by simpa using c4, ?_⟩
      show RVs E' (blkB.cells.set j _) (cc.toList.take (blkB.cells.set j _).length)
      rw [List.length_set]
      refine ⟨by rw [List.length_set]; exact c5.1, fun i cv y hcv hy => ?_⟩
      rw [List.getElem?_set] at hcv
      split at hcv
      · rename_i hij; subst hij
        split at hcv
        · injection hcv with hcv; subst hcv; rw [hx] at hy; injection hy with hy; subst hy; exact hem
        · cases hcv
      · exact c5.2 i cv y hcv hy
  have hex : ∀ bb kk, hk ((B, some { blkB with cells := blkB.cells.set j (.em blk.cells) }) :: (b, none) :: H) bb = some kk → ∃ k2, hk ((b, none) :: H) bb = some k2 := fun bb kk hh => by
    rw [hk_cons] at hh
    split at hh
    · rename_i hbb; subst hbb; exact ⟨blkB, hB'⟩
    · exact ⟨kk, hh⟩
  refine ⟨E', w1.trans e1, ⟨hs.os, hs.tape, hs.output, hs.size, hs.frame, fun g' => ?_, fun b' blk' hb' => ?_, fun b1 b2 k1 k2 g' h1 h2 x1 x2 => ?_, hs.hid, hs.pin⟩, fun b' hb' => e3 b' (by rw [← w3]; exact hb'), fun t u hu => ?_, e5, e6⟩
  · rw [hs.seq g']
    constructor
    · rintro (⟨b', blk', h1, h2⟩ | hh)
      case' inr => exact .inr hh
      by_cases hbb : B = b'
      · subst hbb; exact .inl ⟨B, _, by rw [hk_cons, if_pos rfl], h2⟩
      · exact .inl ⟨b', blk', by rw [hk_cons, if_neg hbb]; exact h1, h2⟩
    · rintro (⟨b', blk', h1, h2⟩ | hh)
      case' inr => exact .inr hh
      obtain ⟨k2, h3⟩ := hex b' blk' h1
      exact .inl ⟨b', k2, h3, h2⟩
  · rw [hk_cons] at hb'
    split at hb'
    · rename_i hbb; subst hbb; injection hb' with hb'; subst hb'; exact ⟨o1, o2, key⟩
    · exact hs.own b' blk' hb'
  · obtain ⟨k1', h1'⟩ := hex b1 k1 h1
    obtain ⟨k2', h2'⟩ := hex b2 k2 h2
    exact hs.inj b1 b2 k1' k2' g' h1' h2' x1 x2
  · obtain ⟨x, hx, hr⟩ := e4 t u hu; exact ⟨x, hx, hr.mono hle⟩
instance (cs : List AV) [h : CloL cs] : Clo (.em cs) := ⟨fun E E' y hE k => by
  cases k with
  | em cs g es ck hg hS hx hl k =>
    have := CloL.rvs (h := h) hE ⟨hl, k⟩
    exact .em cs g es ck (Nat.lt_of_lt_of_le hg hE.size) (fun h' => hS (hE.sub g hg h')) ((hE.keep g hg hS).trans hx) this.1 this.2⟩
end Go.Proofs.YtneeclacmhhblaaGreat


namespace Go.Proofs.YtneeclacmhhblaaGreat
open Go.RowKit
open Nat (reduceAdd reduceMul reduceSub)

structure Vt where
  kind : Int
  slot : Int
  round : Int
  choice : Int
  signer : Int
  support : Int
  parent : UInt64
  value : UInt64
deriving DecidableEq
def voteC (v : Vt) : Array Value := #[.int .i64 v.kind, .int .i64 v.slot, .int .i64 v.round, .int .i64 v.choice, .int .i64 v.signer, .int .i64 v.support,
  .int .u8 ((nb v.parent 7).toNat : Int), .int .u8 ((nb v.parent 6).toNat : Int), .int .u8 ((nb v.parent 5).toNat : Int), .int .u8 ((nb v.parent 4).toNat : Int), .int .u8 ((nb v.parent 3).toNat : Int), .int .u8 ((nb v.parent 2).toNat : Int), .int .u8 ((nb v.parent 1).toNat : Int), .int .u8 ((nb v.parent 0).toNat : Int),
  .int .u8 ((nb v.value 7).toNat : Int), .int .u8 ((nb v.value 6).toNat : Int), .int .u8 ((nb v.value 5).toNat : Int), .int .u8 ((nb v.value 4).toNat : Int), .int .u8 ((nb v.value 3).toNat : Int), .int .u8 ((nb v.value 2).toNat : Int), .int .u8 ((nb v.value 1).toNat : Int), .int .u8 ((nb v.value 0).toNat : Int)]
theorem vote_eq (a b : Vt) (w : World) : (Op.equal 87 (.agg (voteC a)) (.agg (voteC b))).run Tryz.prog w = .ok (decide (a = b)) w := by
  have hI := Tryz.underlying3
  have hM := Tryz.underlying26
  have hN := Tryz.underlying23
  have key : EqFs Tryz.prog w 9999 (voteC a) (voteC b) (Tryz.prog.fieldsOf 87).toList [a.kind == b.kind, a.slot == b.slot, a.round == b.round, a.choice == b.choice, a.signer == b.signer, a.support == b.support, a.parent == b.parent, a.value == b.value] := by
    simp only [Program.fieldsOf, Tryz.underlying87]
    refine .cons (by decide) (part_int hI rfl) (part_int hI rfl) (run_equalIn_int w _ _ _ _ _ _ hI) ?_
    refine .cons (by decide) (part_int hI rfl) (part_int hI rfl) (run_equalIn_int w _ _ _ _ _ _ hI) ?_
    refine .cons (by decide) (part_int hI rfl) (part_int hI rfl) (run_equalIn_int w _ _ _ _ _ _ hI) ?_
    refine .cons (by decide) (part_int hI rfl) (part_int hI rfl) (run_equalIn_int w _ _ _ _ _ _ hI) ?_
    refine .cons (by decide) (part_int hI rfl) (part_int hI rfl) (run_equalIn_int w _ _ _ _ _ _ hI) ?_
    refine .cons (by decide) (part_int hM rfl) (part_int hM rfl) (run_equalIn_int w _ _ _ _ _ _ hM) ?_
    refine .cons (by decide) (part_name (v := a.parent) hN (by kernel_rfl) rfl) (part_name (v := b.parent) hN (by kernel_rfl) rfl) (run_eq_name w 9997 hN (by kernel_rfl) Tryz.underlying5 (by kernel_rfl) _ _) ?_
    refine .cons (by decide) (part_name (v := a.value) hN (by kernel_rfl) rfl) (part_name (v := b.value) hN (by kernel_rfl) rfl) (run_eq_name w 9997 hN (by kernel_rfl) Tryz.underlying5 (by kernel_rfl) _ _) ?_
    exact .nil
  have h := run_equalIn_struct (P := Tryz.prog) w 9999 87 (voteC a) (voteC b) (by kernel_rfl) (by kernel_rfl)
  rw [key.run] at h
  refine h.trans (congrArg (fun b => Result.ok b w) ?_)
  obtain ⟨a1, a2, a3, a4, a5, a6, a7, a8⟩ := a
  obtain ⟨b1, b2, b3, b4, b5, b6, b7, b8⟩ := b
  rw [Bool.eq_iff_iff]
  simp [Bool.and_eq_true]
instance (a b : Vt) : EqR Tryz.prog 87 (voteC a) (voteC b) (decide (a = b)) := ⟨by kernel_rfl, vote_eq a b⟩
theorem between_ok (n lo hi : Int) : Fresh Tryz.prog 115 [.v (.int .i64 n), .v (.int .i64 lo), .v (.int .i64 hi)] (fun _ => .v (.bool (decide (lo ≤ n ∧ n ≤ hi)))) [] := by
  by_cases h1 : lo ≤ n
  · rw [show decide (lo ≤ n ∧ n ≤ hi) = decide (n ≤ hi) by simp [h1]]
    refine Fresh.of (fn := Tryz.f115) Tryz.func115 rfl (lb rfl) fun w => ?_
    (
 apply Gol.sr; apply t0; exact sA rfl; dsimp only [reduceAdd, reduceMul]; exact dn; exact rfl; apply Gol.sr; apply t0; exact sM rfl; apply t0
 exact sM rfl; apply t0; exact s_ge rfl rfl; apply t0; exact sM rfl; apply g0; exact wnt_g rfl rfl rfl (by simp only [*]; rfl); exact sM rfl
 apply g0; exact wnt_g rfl rfl rfl (by simp only [*]; rfl); exact sM rfl; apply g0; exact wnt_g rfl rfl rfl (by simp only [*]; rfl)
 exact s_le rfl rfl; apply t0; exact s_pick_t rfl (by simp only [*]; rfl) rfl; apply t0; exact sA rfl; dsimp only [reduceAdd, reduceMul]
 exact dn; exact rfl; refine Gol.ret ?_)
    (apply RetQ.mk (by first | exact .inr rfl | exact .inl rfl); apply res_1 rfl; exact res_tmp rfl; exact out_val)
  · rw [show decide (lo ≤ n ∧ n ≤ hi) = false by simp [h1]]
    refine Fresh.of (fn := Tryz.f115) Tryz.func115 rfl (lb rfl) fun w => ?_
    (
 apply Gol.sr; apply t0; exact sA rfl; dsimp only [reduceAdd, reduceMul]; exact dn; exact rfl; apply Gol.sr; apply t0; exact sM rfl; apply t0
 exact sM rfl; apply t0; exact s_ge rfl rfl; apply t0; exact sM rfl; apply sk; exact wnt_g rfl rfl rfl (by simp only [*]; rfl); apply sk
 exact wnt_g rfl rfl rfl (by simp only [*]; rfl); apply sk; exact wnt_g rfl rfl rfl (by simp only [*]; rfl); apply t0; exact s_pick_f rfl (by simp only [*]; rfl) rfl
 apply t0; exact sA rfl; dsimp only [reduceAdd, reduceMul]; exact dn; exact rfl; refine Gol.ret ?_)
    (apply RetQ.mk (by first | exact .inr rfl | exact .inl rfl); apply res_1 rfl; exact res_tmp rfl; exact out_val)
end Go.Proofs.YtneeclacmhhblaaGreat


namespace Go.Proofs.YtneeclacmhhblaaGreat
open Go.RowKit
section
variable {α : Type} (f : α → List AV)
def fA (l : List α) : List AV := l.flatMap f
theorem fA_cons (x : α) (l : List α) : fA f (x :: l) = f x ++ fA f l := rfl
theorem fA_append (a b : List α) : fA f (a ++ b) = fA f a ++ fA f b := by simp [fA]
theorem fA_one (x : α) : fA f [x] = f x := by simp [fA]
variable {f} {m : Nat}
theorem fA_length (h : ∀ x, (f x).length = m) (l : List α) : (fA f l).length = l.length * m := by
  induction l with
  | nil => simp [fA]
  | cons d l ih => rw [fA_cons, List.length_append, h, ih, List.length_cons, Nat.succ_mul]; omega
theorem fA_drop (h : ∀ x, (f x).length = m) : ∀ (l : List α) (i : Nat), (fA f l).drop (i * m) = fA f (l.drop i)
  | _, 0 => by simp
  | [], i + 1 => by simp [fA]
  | d :: l, i + 1 => by rw [fA_cons, List.drop_succ_cons, Nat.succ_mul, Nat.add_comm, ← h d, List.drop_length_add_append, h, fA_drop h l i]
theorem fA_at (h : ∀ x, (f x).length = m) {l : List α} {i : Nat} {x : α} (hx : l[i]? = some x) : (fA f l).drop (i * m) = f x ++ fA f (l.drop (i + 1)) := by rw [fA_drop h, drop_of hx, fA_cons]
theorem fA_ne (h : ∀ x, (f x).length = m) (hm : 0 < m) {l : List α} {i : Nat} (hi : i < l.length) : fA f l ≠ [] := fun e => by
  have := fA_length h l
  rw [e] at this
  have h2 := Nat.mul_pos (Nat.lt_of_le_of_lt (Nat.zero_le _) hi) hm
  simp only [List.length_nil] at this
  omega
theorem fA_ones (h : ∀ x, (f x).all AV.one = true) (l : List α) : (fA f l).all AV.one = true := by
  induction l with
  | nil => rfl
  | cons d l ih => rw [fA_cons, List.all_append, ih, h]; rfl
theorem fA_clo (h : ∀ x, CloL (f x)) (l : List α) : CloL (fA f l) := ⟨fun c hc => by
  obtain ⟨x, _, hx⟩ := List.mem_flatMap.1 hc
  exact (h x).cl c hx⟩
end
structure Rc where
  c : Int
  e : Nat
  o : Int
  g : Int
def rcA (r : Rc) : List AV := [.v (.int .i64 r.c), .ex r.e false [], .v (.int .i64 r.o), .v (.int .i64 r.g)]
def rcsA (l : List Rc) : List AV := fA rcA l
structure It where
  n : UInt64
  k : Int
  h : Int
  p : UInt64
  hd : Nat
  tp : Nat
  cm : Int
  st : Stt
  tx : Nat
  rc : List Rc
def itA (x : It) : List AV := [
  .v (.int .u8 ((nb x.n 7).toNat : Int)), .v (.int .u8 ((nb x.n 6).toNat : Int)), .v (.int .u8 ((nb x.n 5).toNat : Int)), .v (.int .u8 ((nb x.n 4).toNat : Int)), .v (.int .u8 ((nb x.n 3).toNat : Int)), .v (.int .u8 ((nb x.n 2).toNat : Int)), .v (.int .u8 ((nb x.n 1).toNat : Int)), .v (.int .u8 ((nb x.n 0).toNat : Int)),
  .v (.int .i64 x.k), .v (.int .i64 x.h),
  .v (.int .u8 ((nb x.p 7).toNat : Int)), .v (.int .u8 ((nb x.p 6).toNat : Int)), .v (.int .u8 ((nb x.p 5).toNat : Int)), .v (.int .u8 ((nb x.p 4).toNat : Int)), .v (.int .u8 ((nb x.p 3).toNat : Int)), .v (.int .u8 ((nb x.p 2).toNat : Int)), .v (.int .u8 ((nb x.p 1).toNat : Int)), .v (.int .u8 ((nb x.p 0).toNat : Int)),
  .ex x.hd false [], .ex x.tp false [], .v (.int .i64 x.cm),
  .ex x.st.cells.length false (dsA x.st.cells), .ex x.st.seqs.length false (inA x.st.seqs), .ex x.st.locks.length false (lsA x.st.locks), .ex x.st.applied.length false (byA (flat x.st.applied)), .v (.int .i64 x.st.guilty),
  .ex x.tx false [], .ex x.rc.length false (rcsA x.rc)]
def itsA (l : List It) : List AV := fA itA l
def vtA (v : Vt) : List AV := (voteC v).toList.map .v
def vtsA (l : List Vt) : List AV := fA vtA l
theorem rcA_length (r : Rc) : (rcA r).length = 4 := rfl
theorem itA_length (x : It) : (itA x).length = 28 := rfl
theorem vtA_length (v : Vt) : (vtA v).length = 22 := rfl
theorem rcsA_length (l : List Rc) : (rcsA l).length = l.length * 4 := fA_length rcA_length l
theorem itsA_length (l : List It) : (itsA l).length = l.length * 28 := fA_length itA_length l
theorem vtsA_length (l : List Vt) : (vtsA l).length = l.length * 22 := fA_length vtA_length l
theorem its_at {l : List It} {i : Nat} {x : It} (h : l[i]? = some x) : (itsA l).drop (i * 28) = itA x ++ itsA (l.drop (i + 1)) := fA_at itA_length h
theorem vts_at {l : List Vt} {i : Nat} {x : Vt} (h : l[i]? = some x) : (vtsA l).drop (i * 22) = vtA x ++ vtsA (l.drop (i + 1)) := fA_at vtA_length h
theorem its_ne {l : List It} {i : Nat} (h : i < l.length) : itsA l ≠ [] := fA_ne itA_length (by decide) h
theorem vts_ne {l : List Vt} {i : Nat} (h : i < l.length) : vtsA l ≠ [] := fA_ne vtA_length (by decide) h
instance (r : Rc) : CloL (rcA r) := by unfold rcA; infer_instance
instance (l : List Rc) : CloL (rcsA l) := fA_clo (fun _ => inferInstance) l
instance (x : It) : CloL (itA x) := by unfold itA; infer_instance
instance (l : List It) : CloL (itsA l) := fA_clo (fun _ => inferInstance) l
instance (v : Vt) : CloL (vtA v) := CloL.vals _
instance (l : List Vt) : CloL (vtsA l) := fA_clo (fun _ => inferInstance) l
instance (r : Rc) : OneL (rcA r) := ⟨rfl⟩
instance (l : List Rc) : OneL (rcsA l) := ⟨fA_ones (fun _ => rfl) l⟩
instance (x : It) : OneL (itA x) := ⟨rfl⟩
instance (l : List It) : OneL (itsA l) := ⟨fA_ones (fun _ => rfl) l⟩
instance (v : Vt) : OneL (vtA v) := ⟨rfl⟩
instance (l : List Vt) : OneL (vtsA l) := ⟨fA_ones (fun _ => rfl) l⟩
theorem vtA_vals (l : List Vt) : vtsA l = (l.flatMap fun v => (voteC v).toList).map .v := by rw [List.map_flatMap]; rfl
instance (v : Vt) : ValL (vtA v) := ValL.vals _
instance (l : List Vt) : ValL (vtsA l) := by rw [vtA_vals]; infer_instance
theorem agu_it {x : It} {r : List AV} : agu (.ag (itA x)) ((itA x ++ r).take 28) := by
  rw [← itA_length x, List.take_left]; exact agu_ag _
theorem agu_st {s : Stt} {cs : List AV} (h : cs = [.ex s.cells.length false (dsA s.cells), .ex s.seqs.length false (inA s.seqs), .ex s.locks.length false (lsA s.locks), .ex s.applied.length false (byA (flat s.applied)), .v (.int .i64 s.guilty)]) : agu (stA s) cs := h ▸ agu_ag _
instance (cs : List AV) [h : CloL cs] : CloL (cu (.ag cs)) := h
theorem agu_vt {x : Vt} {r : List AV} : agu (.v (.agg (voteC x))) ((vtA x ++ r).take 22) := by
  rw [← vtA_length x, List.take_left]; exact agu_v _
section
variable {P : Program} {t t' ty : TypeId} {k : Nat} {H : AH} {T : AT} {d : Option Tmp} {ps : String} {af : Array Edge} {gd : Option (Nat × Bool)} {x y : Operand}
theorem s_minn {i j : Nat} {k1 : IntKind} {ts : Array TypeId} (hx : ev T x = some (.v (.int k1 (i : Int)))) (hy : ev T y = some (.v (.int k1 (j : Int)))) : StepU P ⟨d, .call { callee := .builtin .min, args := #[x, y], argTypes := ts }, ty, ps, af, gd⟩ k [] H T (.v (.int k1 ((min i j : Nat) : Int))) [] := by
  have : ((min i j : Nat) : Int) = min (i : Int) (j : Int) := by omega
  rw [this]; exact s_min hx hy
end
section
variable {P : Program} {t t' ty : TypeId} {k : Nat} {H : AH} {T : AT} {d : Option Tmp} {ps : String} {af : Array Edge} {gd : Option (Nat × Bool)} {x y : Operand}
theorem s_shlZ {a b : Int} {k1 : IntKind} (hx : ev T x = some (.v (.int .i64 a))) (hy : ev T y = some (.v (.int k1 b))) (h : 0 ≤ b) : StepU P ⟨d, .binOp .shl t x y t', ty, ps, af, gd⟩ k [] H T (.v (.int .i64 (shlI a b.toNat))) [] := by
  obtain ⟨n, rfl⟩ : ∃ n : Nat, b = (n : Int) := ⟨b.toNat, by omega⟩
  rw [Int.toNat_natCast]; exact s_shlI hx hy
theorem s_shrZ {a b : Int} {k1 : IntKind} (hx : ev T x = some (.v (.int .i64 a))) (hy : ev T y = some (.v (.int k1 b))) (h : 0 ≤ b) : StepU P ⟨d, .binOp .shr t x y t', ty, ps, af, gd⟩ k [] H T (.v (.int .i64 (shrI a b.toNat))) [] := by
  obtain ⟨n, rfl⟩ : ∃ n : Nat, b = (n : Int) := ⟨b.toNat, by omega⟩
  rw [Int.toNat_natCast]; exact s_shrI hx hy
end
def keN (n : UInt64) : Value := .agg (nameC n)
def veI (i : Nat) : Value := .int .i64 (i : Int)
instance : KI Tryz.prog 23 keN := ⟨fun b x w => by kernel_rfl, fun x y w => ⟨x == y, by simp, eqA Tryz.underlying23 (by kernel_rfl) Tryz.underlying5 (by kernel_rfl) x y w⟩, ⟨_, Tryz.underlying23, fun x y => rfl⟩, fun x => by simp [Instr.sameBits, keN, nameC]⟩
instance : MI Tryz.prog 90 23 3 (.int .i64 0) := ⟨Tryz.underlying90, fun w => by kernel_rfl⟩
structure Ky where
  k : Int
  p : UInt64
  v : UInt64
deriving DecidableEq
def kyC (x : Ky) : Array Value := #[.int .i64 x.k,
  .int .u8 ((nb x.p 7).toNat : Int), .int .u8 ((nb x.p 6).toNat : Int), .int .u8 ((nb x.p 5).toNat : Int), .int .u8 ((nb x.p 4).toNat : Int), .int .u8 ((nb x.p 3).toNat : Int), .int .u8 ((nb x.p 2).toNat : Int), .int .u8 ((nb x.p 1).toNat : Int), .int .u8 ((nb x.p 0).toNat : Int),
  .int .u8 ((nb x.v 7).toNat : Int), .int .u8 ((nb x.v 6).toNat : Int), .int .u8 ((nb x.v 5).toNat : Int), .int .u8 ((nb x.v 4).toNat : Int), .int .u8 ((nb x.v 3).toNat : Int), .int .u8 ((nb x.v 2).toNat : Int), .int .u8 ((nb x.v 1).toNat : Int), .int .u8 ((nb x.v 0).toNat : Int)]
def keK (x : Ky) : Value := .agg (kyC x)
def veM (m : Int) : Value := .int .i64 m
theorem ky_eq (x y : Ky) (w : World) : (Op.equal 111 (keK x) (keK y)).run Tryz.prog w = .ok (decide (x = y)) w := by
  have hI := Tryz.underlying3
  have hN := Tryz.underlying23
  have key : EqFs Tryz.prog w 9999 (kyC x) (kyC y) (Tryz.prog.fieldsOf 111).toList [x.k == y.k, x.p == y.p, x.v == y.v] := by
    simp only [Program.fieldsOf, Tryz.underlying111]
    refine .cons (by decide) (part_int hI rfl) (part_int hI rfl) (run_equalIn_int w _ _ _ _ _ _ hI) ?_
    refine .cons (by decide) (part_name (v := x.p) hN (by kernel_rfl) rfl) (part_name (v := y.p) hN (by kernel_rfl) rfl) (run_eq_name w 9997 hN (by kernel_rfl) Tryz.underlying5 (by kernel_rfl) _ _) ?_
    refine .cons (by decide) (part_name (v := x.v) hN (by kernel_rfl) rfl) (part_name (v := y.v) hN (by kernel_rfl) rfl) (run_eq_name w 9997 hN (by kernel_rfl) Tryz.underlying5 (by kernel_rfl) _ _) ?_
    exact .nil
  have h := run_equalIn_struct (P := Tryz.prog) w 9999 111 (kyC x) (kyC y) (by kernel_rfl) (by kernel_rfl)
  rw [key.run] at h
  refine h.trans (congrArg (fun b => Result.ok b w) ?_)
  rw [Bool.eq_iff_iff]
  obtain ⟨a, b, c⟩ := x
  obtain ⟨a', b', c'⟩ := y
  simp [Bool.and_eq_true]
instance : KI Tryz.prog 111 keK := ⟨fun b x w => by kernel_rfl, fun x y w => ⟨decide (x = y), by simp, ky_eq x y w⟩, ⟨_, Tryz.underlying111, fun x y => rfl⟩, fun x => by simp [Instr.sameBits, keK, kyC]⟩
instance : MI Tryz.prog 93 111 26 (.int .i64 0) := ⟨Tryz.underlying93, fun w => by kernel_rfl⟩
structure Stu where
  c : Int
  s : Int
  a : Int
  g : Bool
def stuC (x : Stu) : Array Value := #[.int .i64 x.c, .int .i64 x.s, .int .i64 x.a, .bool x.g]
def veS (x : Stu) : Value := .agg (stuC x)
instance : MI Tryz.prog 94 23 128 (.agg #[.int .i64 0, .int .i64 0, .int .i64 0, .bool false]) := ⟨Tryz.underlying94, fun w => by kernel_rfl⟩
theorem isV_ky {k : Int} {p v : UInt64} {cs : List AV} (h : cs = (kyC ⟨k, p, v⟩).toList.map .v) : IsV (.ag cs) (keK ⟨k, p, v⟩) := isV_ag h
end Go.Proofs.YtneeclacmhhblaaGreat


namespace Go.Proofs.YtneeclacmhhblaaGreat
open Go.RowKit
open Nat (reduceAdd reduceMul reduceSub)

section
variable {P : Program} {t t' ty : TypeId} {k : Nat} {H : AH} {T : AT} {d : Option Tmp} {ps : String} {af : Array Edge} {gd : Option (Nat × Bool)} {x y : Operand}
def add6 (x y : UInt64) : UInt64 := x + y
theorem s_addU {a b : UInt64} (hx : ev T x = some (.v (.int .u64 (a.toNat : Int)))) (hy : ev T y = some (.v (.int .u64 (b.toNat : Int)))) : StepU P ⟨d, .binOp .add t x y t', ty, ps, af, gd⟩ k [] H T (.v (.int .u64 ((add6 a b).toNat : Int))) [] :=
  s_bin hx hy fun w => by
    have ha := a.toNat_lt
    have hb := b.toNat_lt
    have e : ((add6 a b).toNat : Int) = ((a.toNat : Int) + (b.toNat : Int)) % 18446744073709551616 := by
      rw [add6, UInt64.toNat_add]; omega
    rw [e]
    simp only [guard_int, binOp, Op.intArith, Sem.run_bind, Result.andThen_ok, ne_eq, not_true_eq_false, if_false, Sem.run_pure]
    show Result.ok (Value.int IntKind.u64 (IntKind.u64.wrap ((a.toNat : Int) + (b.toNat : Int)))) w = _
    rw [IntKind.wrap_u64]
theorem s_andUc {a : UInt64} {n : Nat} (hx : ev T x = some (.v (.int .u64 (a.toNat : Int)))) (hy : ev T y = some (.v (.int .u64 (n : Int)))) (hn : n < 18446744073709551616) : StepU P ⟨d, .binOp .and t x y t', ty, ps, af, gd⟩ k [] H T (.v (.int .u64 ((and6 a (UInt64.ofNat n)).toNat : Int))) [] :=
  s_andU hx (by rw [hy, UInt64.toNat_ofNat_of_lt' hn])
end
def oc1 (x : UInt64) : UInt64 := add6 (and6 (shr6 x 1) (UInt64.ofNat 6148914691236517205)) (and6 x (UInt64.ofNat 6148914691236517205))
def oc2 (x : UInt64) : UInt64 := add6 (and6 (shr6 x 2) (UInt64.ofNat 3689348814741910323)) (and6 x (UInt64.ofNat 3689348814741910323))
def oc3 (x : UInt64) : UInt64 := and6 (add6 (shr6 x 4) x) (UInt64.ofNat 1085102592571150095)
def ocS (x : UInt64) (s : Nat) : UInt64 := add6 x (shr6 x s)
def ocN (x : UInt64) : UInt64 := ocS (ocS (ocS (oc3 (oc2 (oc1 x))) 8) 16) 32
def popN (x : UInt64) : Int := andI ((ocN x).toNat : Int) 127
def ocOk (n : Nat) : Bool := Nat.ble (ocN (UInt64.ofNat n)).toNat 100000 && (decide (popN (UInt64.ofNat n) = 0) == Nat.beq n 0) && decide (0 ≤ popN (UInt64.ofNat n))
theorem oc_all : (List.range 1024).all ocOk = true := by decide +kernel
theorem oc_at (x : UInt64) (h : x.toNat ≤ 1023) : (ocN x).toNat ≤ 100000 ∧ (popN x = 0 ↔ x.toNat = 0) ∧ 0 ≤ popN x := by
  have := List.all_eq_true.1 oc_all x.toNat (by simp; omega)
  simp only [ocOk, Bool.and_eq_true, UInt64.ofNat_toNat, beq_iff_eq, decide_eq_true_eq] at this
  obtain ⟨⟨h1, h2⟩, h3⟩ := this
  refine ⟨Nat.le_of_ble_eq_true h1, ?_, h3⟩
  have e : (popN x = 0) = (Nat.beq x.toNat 0 = true) := by rw [← h2]; simp
  rw [e]
  constructor
  · exact Nat.eq_of_beq_eq_true
  · intro h; rw [h]; rfl
set_option maxHeartbeats 1600000 in
theorem ones64_ok (x : UInt64) (h : x.toNat ≤ 1023) : Fresh Tryz.prog 150 [.v (.int .u64 (x.toNat : Int))] (fun _ => .v (.int .i64 (popN x))) [] := by
  have hb := (oc_at x h).1
  unfold popN
  unfold ocN ocS oc3 oc2 oc1 at hb ⊢
  refine Fresh.of (fn := Tryz.f150) Tryz.func150 rfl (lb rfl) fun w => ?_
  (
 apply Gol.sr; apply t0; exact sA rfl; dsimp only [reduceAdd, reduceMul]; exact dn; exact rfl; apply Gol.sr; apply t0; exact sM rfl; apply t0
 exact s_shrU rfl rfl (by decide); apply t0; exact s_andUc rfl rfl (by decide); apply t0; exact sM rfl; apply t0; exact s_andUc rfl rfl (by decide)
 apply t0; exact s_addU rfl rfl; apply t0; exact sA rfl; dsimp only [reduceAdd, reduceMul]; exact dn; exact rfl; apply Gol.sr; apply t0; exact sM rfl
 apply t0; exact s_shrU rfl rfl (by decide); apply t0; exact s_andUc rfl rfl (by decide); apply t0; exact sM rfl; apply t0; exact s_andUc rfl rfl (by decide)
 apply t0; exact s_addU rfl rfl; apply t0; exact sA rfl; dsimp only [reduceAdd, reduceMul]; exact dn; exact rfl; apply Gol.sr; apply t0; exact sM rfl
 apply t0; exact s_shrU rfl rfl (by decide); apply t0; exact sM rfl; apply t0; exact s_addU rfl rfl; apply t0; exact s_andUc rfl rfl (by decide); apply t0
 exact sA rfl; dsimp only [reduceAdd, reduceMul]; exact dn; exact rfl; apply Gol.sr; apply t0; exact sM rfl; apply t0; exact sM rfl
 apply t0; exact s_shrU rfl rfl (by decide); apply t0; exact s_addU rfl rfl; apply t0; exact sA rfl; dsimp only [reduceAdd, reduceMul]; exact dn
 exact rfl; apply Gol.sr; apply t0; exact sM rfl; apply t0; exact sM rfl; apply t0; exact s_shrU rfl rfl (by decide); apply t0; exact s_addU rfl rfl
 apply t0; exact sA rfl; dsimp only [reduceAdd, reduceMul]; exact dn; exact rfl; apply Gol.sr; apply t0; exact sM rfl; apply t0; exact sM rfl
 apply t0; exact s_shrU rfl rfl (by decide); apply t0; exact s_addU rfl rfl; apply t0; exact sA rfl; dsimp only [reduceAdd, reduceMul]; exact dn
 exact rfl; apply Gol.sr; apply t0; exact sM rfl; apply t0; exact s_ci64 rfl (by omega); apply t0; exact s_andI rfl rfl; apply t0; exact sA rfl
 dsimp only [reduceAdd, reduceMul]; exact dn; exact rfl; refine Gol.ret ?_)
  (apply RetQ.mk (by first | exact .inr rfl | exact .inl rfl); apply res_1 rfl; exact res_tmp rfl; exact out_val)
theorem ones_ok (x : UInt64) (h : x.toNat ≤ 1023) : Fresh Tryz.prog 130 [.v (.int .u64 (x.toNat : Int))] (fun _ => .v (.int .i64 (popN x))) [] := by
  refine Fresh.of (fn := Tryz.f130) Tryz.func130 rfl (lb rfl) fun w => ?_
  (apply Gol.sr; apply t0; exact sA rfl; dsimp only [reduceAdd, reduceMul]; exact dn; exact rfl; refine Gol.seq ?_)
  refine Gol.cond_f rfl rfl ?_
  (
 refine Gol.skip ?_; refine thn_n ?_; apply Gol.sr; apply t0; exact sM rfl; apply tq; exact s_call (f := 150) rfl (eC rfl eN) (aC aL aN) (ones64_ok x h) (lb rfl)
 dsimp only [reduceAdd, reduceMul, reduceSub, na, ca, nbk, mc, ml]; apply t0; exact sA rfl
 dsimp only [reduceAdd, reduceMul]; exact dn; exact rfl; refine Gol.ret ?_)
  (apply RetQ.mk (by first | exact .inr rfl | exact .inl rfl); apply res_1 rfl; exact res_tmp rfl; exact out_val)
def bv (a : Int) : BitVec 64 := BitVec.ofInt 64 a
theorem wrap_bv (x : BitVec 64) : IntKind.i64.wrap (x.toNat : Int) = x.toInt := by
  have := x.isLt
  rw [IntKind.wrap_i64, BitVec.toInt_eq_toNat_cond]
  split <;> omega
theorem andI_bv (a b : Int) : andI a b = (bv a &&& bv b).toInt := wrap_bv _
theorem orI_bv (a b : Int) : orI a b = (bv a ||| bv b).toInt := wrap_bv _
theorem andNotI_bv (a b : Int) : andNotI a b = (bv a &&& ~~~bv b).toInt := wrap_bv _
theorem bv_int (x : BitVec 64) : bv x.toInt = x := BitVec.ofInt_toInt
theorem and_1023 (a : Int) : 0 ≤ andI a 1023 ∧ andI a 1023 ≤ 1023 := by
  have h1 : (bv a &&& bv 1023).toNat ≤ 1023 := by
    rw [BitVec.toNat_and]
    exact Nat.and_le_right
  have h2 : andI a 1023 = ((bv a &&& bv 1023).toNat : Int) := by
    unfold andI
    rw [IntKind.wrap_i64]
    show (((bv a &&& bv 1023).toNat : Int) + _) % _ - _ = _
    omega
  rw [h2]; omega
def sizN (m : Int) : Int := popN (toU64 (andI m 1023))
theorem toU64_le {n : Int} (h0 : 0 ≤ n) (h : n ≤ 1023) : ((toU64 n).toNat : Int) = n := by
  unfold toU64
  rw [UInt64.toNat_ofNat']
  omega
theorem size_zero (m : Int) : (sizN m = 0 ↔ andI m 1023 = 0) ∧ 0 ≤ sizN m := by
  obtain ⟨h1, h2⟩ := and_1023 m
  have e := toU64_le h1 h2
  obtain ⟨_, h3, h4⟩ := oc_at (toU64 (andI m 1023)) (by omega)
  refine ⟨?_, h4⟩
  unfold sizN
  rw [h3]
  omega
theorem size_ok (m : Int) : Fresh Tryz.prog 94 [.v (.int .i64 m)] (fun _ => .v (.int .i64 (sizN m))) [] := by
  obtain ⟨h1, h2⟩ := and_1023 m
  have e := toU64_le h1 h2
  refine Fresh.of (fn := Tryz.f94) Tryz.func94 rfl (lb rfl) fun w => ?_
  (
 apply Gol.sr; apply t0; exact sA rfl; dsimp only [reduceAdd, reduceMul]; exact dn; exact rfl; apply Gol.sr; apply t0; exact sM rfl; apply t0
 exact s_andI rfl rfl; apply t0; exact s_cu64 rfl; apply tq; exact s_call (f := 130) rfl (eC rfl eN) (aC aL aN) (ones_ok (toU64 (andI m 1023)) (by omega)) (lb rfl)
 dsimp only [reduceAdd, reduceMul, reduceSub, na, ca, nbk, mc, ml]; apply t0; exact sA rfl
 dsimp only [reduceAdd, reduceMul]; exact dn; exact rfl; refine Gol.ret ?_)
  (apply RetQ.mk (by first | exact .inr rfl | exact .inl rfl); apply res_1 rfl; exact res_tmp rfl; exact out_val)
def hasB (m i : Int) : Bool := decide (0 ≤ i ∧ i < 10) && decide (andI (shrI m i.toNat) 1 = 1)
section
variable {P : Program} {t t' ty : TypeId} {k : Nat} {H : AH} {T : AT} {d : Option Tmp} {ps : String} {af : Array Edge} {gd : Option (Nat × Bool)} {x y : Operand}
theorem s_shrZu {a b : Int} {k1 : IntKind} (hx : ev T x = some (.v (.int .i64 a))) (hy : ev T y = some (.v (.int k1 ((toU64 b).toNat : Int)))) (h : 0 ≤ b ∧ b ≤ 1023) : StepU P ⟨d, .binOp .shr t x y t', ty, ps, af, gd⟩ k [] H T (.v (.int .i64 (shrI a b.toNat))) [] :=
  s_shrZ hx (by rw [hy, toU64_le h.1 h.2]) h.1
theorem s_shlZu {a b : Int} {k1 : IntKind} (hx : ev T x = some (.v (.int .i64 a))) (hy : ev T y = some (.v (.int k1 ((toU64 b).toNat : Int)))) (h : 0 ≤ b ∧ b ≤ 1023) : StepU P ⟨d, .binOp .shl t x y t', ty, ps, af, gd⟩ k [] H T (.v (.int .i64 (shlI a b.toNat))) [] :=
  s_shlZ hx (by rw [hy, toU64_le h.1 h.2]) h.1
end
theorem refHas_ok (m i : Int) : Fresh Tryz.prog 113 [.v (.int .i64 m), .v (.int .i64 i)] (fun _ => .v (.bool (hasB m i))) [] := by
  unfold hasB
  by_cases h0 : 0 ≤ i
  · by_cases h1 : i < 10
    · have d0 : decide (0 ≤ i) = true := decide_eq_true h0
      have d1 : decide (i < 10) = true := decide_eq_true h1
      rw [show decide (0 ≤ i ∧ i < 10) = true from decide_eq_true ⟨h0, h1⟩, Bool.true_and]
      refine Fresh.of (fn := Tryz.f113) Tryz.func113 rfl (lb rfl) fun w => ?_
      (
 apply Gol.sr; apply t0; exact sA rfl; dsimp only [reduceAdd, reduceMul]; exact dn; exact rfl; apply Gol.sr; apply t0; exact sM rfl; apply t0
 exact s_ge rfl rfl; apply t0; exact sM rfl; apply g0; exact wnt_g rfl rfl rfl (by simp only [*]; rfl); exact sM rfl; apply g0; exact wnt_g rfl rfl rfl (by simp only [*]; rfl)
 exact s_lt rfl rfl; apply t0; exact s_pick_t rfl (by assumption) rfl; apply t0; exact sM rfl; apply g0; exact wnt_g rfl rfl rfl (by simp only [*]; rfl)
 exact sM rfl; apply g0; exact wnt_g rfl rfl rfl (by simp only [*]; rfl); exact sM rfl; apply g0; exact wnt_g rfl rfl rfl (by simp only [*]; rfl)
 exact s_cu64 rfl; dsimp only [reduceAdd, reduceMul, reduceSub, na, ca, nbk, mc, ml]; apply Trc.step rfl rfl
 apply wnt_g; exact rfl; exact rfl; exact rfl; (focus (simp only [*]; rfl)); apply s_shrZu; exact rfl; exact rfl; omega; dsimp only [reduceAdd, reduceMul, reduceSub, na, ca, nbk, mc, ml]
 apply g0; exact wnt_g rfl rfl rfl (by simp only [*]; rfl); exact s_andI rfl rfl; apply g0; exact wnt_g rfl rfl rfl (by simp only [*]; rfl)
 exact s_eq rfl rfl; apply t0; exact s_pick_t rfl (by assumption) rfl; apply t0; exact sA rfl; dsimp only [reduceAdd, reduceMul]; exact dn
 exact rfl; refine Gol.ret ?_)
      (apply RetQ.mk (by first | exact .inr rfl | exact .inl rfl); apply res_1 rfl; exact res_tmp rfl; exact out_val)
    · have d0 : decide (0 ≤ i) = true := decide_eq_true h0
      have d1 : decide (i < 10) = false := decide_eq_false h1
      rw [show decide (0 ≤ i ∧ i < 10) = false from decide_eq_false (fun h => h1 h.2), Bool.false_and]
      refine Fresh.of (fn := Tryz.f113) Tryz.func113 rfl (lb rfl) fun w => ?_
      (
 apply Gol.sr; apply t0; exact sA rfl; dsimp only [reduceAdd, reduceMul]; exact dn; exact rfl; apply Gol.sr; apply t0; exact sM rfl; apply t0
 exact s_ge rfl rfl; apply t0; exact sM rfl; apply g0; exact wnt_g rfl rfl rfl (by simp only [*]; rfl); exact sM rfl; apply g0; exact wnt_g rfl rfl rfl (by simp only [*]; rfl)
 exact s_lt rfl rfl; apply t0; exact s_pick_t rfl (by assumption) rfl; apply t0; exact sM rfl; apply sk; exact wnt_g rfl rfl rfl (by simp only [*]; rfl)
 apply sk; exact wnt_g rfl rfl rfl (by simp only [*]; rfl); apply sk; exact wnt_g rfl rfl rfl (by simp only [*]; rfl); apply sk; exact wnt_g rfl rfl rfl (by simp only [*]; rfl)
 apply sk; exact wnt_g rfl rfl rfl (by simp only [*]; rfl); apply sk; exact wnt_g rfl rfl rfl (by simp only [*]; rfl); apply t0; exact s_pick_f rfl (by assumption) rfl
 apply t0; exact sA rfl; dsimp only [reduceAdd, reduceMul]; exact dn; exact rfl; refine Gol.ret ?_)
      rw [← d1]
      (apply RetQ.mk (by first | exact .inr rfl | exact .inl rfl); apply res_1 rfl; exact res_tmp rfl; exact out_val)
  · have d0 : decide (0 ≤ i) = false := decide_eq_false h0
    rw [show decide (0 ≤ i ∧ i < 10) = false from decide_eq_false (fun h => h0 h.1), Bool.false_and]
    refine Fresh.of (fn := Tryz.f113) Tryz.func113 rfl (lb rfl) fun w => ?_
    (
 apply Gol.sr; apply t0; exact sA rfl; dsimp only [reduceAdd, reduceMul]; exact dn; exact rfl; apply Gol.sr; apply t0; exact sM rfl; apply t0
 exact s_ge rfl rfl; apply t0; exact sM rfl; apply sk; exact wnt_g rfl rfl rfl (by simp only [*]; rfl); apply sk; exact wnt_g rfl rfl rfl (by simp only [*]; rfl)
 apply t0; exact s_pick_f rfl (by assumption) rfl; apply t0; exact sM rfl; apply sk; exact wnt_g rfl rfl rfl rfl; apply sk; exact wnt_g rfl rfl rfl rfl
 apply sk; exact wnt_g rfl rfl rfl rfl; apply sk; exact wnt_g rfl rfl rfl rfl; apply sk; exact wnt_g rfl rfl rfl rfl; apply sk; exact wnt_g rfl rfl rfl rfl
 apply t0; exact s_pick_f rfl rfl rfl; apply t0; exact sA rfl; dsimp only [reduceAdd, reduceMul]; exact dn; exact rfl; refine Gol.ret ?_)
    rw [← d0]
    (apply RetQ.mk (by first | exact .inr rfl | exact .inl rfl); apply res_1 rfl; exact res_tmp rfl; exact out_val)
def bitN (i : Int) : Int := if 0 ≤ i ∧ i < 10 then shlI 1 i.toNat else 0
theorem refBit_ok (i : Int) : Fresh Tryz.prog 114 [.v (.int .i64 i)] (fun _ => .v (.int .i64 (bitN i))) [] := by
  unfold bitN
  by_cases h0 : i < 0
  · have d0 : decide (i < 0) = true := decide_eq_true h0
    rw [if_neg (by omega)]
    refine Fresh.of (fn := Tryz.f114) Tryz.func114 rfl (lb rfl) fun w => ?_
    (
 apply Gol.sr; apply t0; exact sA rfl; dsimp only [reduceAdd, reduceMul]; exact dn; exact rfl; refine Gol.seq ?_; apply Gol.sr
 apply t0; exact sM rfl; apply t0; exact s_lt rfl rfl; apply t0; exact sM rfl; apply sk; exact wnt_g rfl rfl rfl (by simp only [*]; rfl)
 apply sk; exact wnt_g rfl rfl rfl (by simp only [*]; rfl); apply t0; exact s_pick_t rfl (by assumption) rfl; dsimp only [reduceAdd, reduceMul]
 exact dn; exact rfl)
    refine Gol.cond_t rfl rfl ?_
    (apply Gol.sr; apply t0; exact sA rfl; dsimp only [reduceAdd, reduceMul]; exact dn; exact rfl; refine Gol.ret ?_; refine thn_r ?_)
    (apply RetQ.mk (by first | exact .inr rfl | exact .inl rfl); apply res_1 rfl; exact res_tmp rfl; exact out_val)
  · have d0 : decide (i < 0) = false := decide_eq_false h0
    by_cases h1 : 10 ≤ i
    · have d1 : decide (10 ≤ i) = true := decide_eq_true h1
      rw [if_neg (by omega)]
      refine Fresh.of (fn := Tryz.f114) Tryz.func114 rfl (lb rfl) fun w => ?_
      (
 apply Gol.sr; apply t0; exact sA rfl; dsimp only [reduceAdd, reduceMul]; exact dn; exact rfl; refine Gol.seq ?_; apply Gol.sr
 apply t0; exact sM rfl; apply t0; exact s_lt rfl rfl; apply t0; exact sM rfl; apply g0; exact wnt_g rfl rfl rfl (by simp only [*]; rfl)
 exact sM rfl; apply g0; exact wnt_g rfl rfl rfl (by simp only [*]; rfl); exact s_ge rfl rfl; apply t0; exact s_pick_f rfl (by assumption) rfl
 dsimp only [reduceAdd, reduceMul]; exact dn; exact rfl)
      refine Gol.cond_t rfl d1 ?_
      (apply Gol.sr; apply t0; exact sA rfl; dsimp only [reduceAdd, reduceMul]; exact dn; exact rfl; refine Gol.ret ?_; refine thn_r ?_)
      (apply RetQ.mk (by first | exact .inr rfl | exact .inl rfl); apply res_1 rfl; exact res_tmp rfl; exact out_val)
    · have d1 : decide (10 ≤ i) = false := decide_eq_false h1
      rw [if_pos (by omega)]
      refine Fresh.of (fn := Tryz.f114) Tryz.func114 rfl (lb rfl) fun w => ?_
      (
 apply Gol.sr; apply t0; exact sA rfl; dsimp only [reduceAdd, reduceMul]; exact dn; exact rfl; refine Gol.seq ?_; apply Gol.sr
 apply t0; exact sM rfl; apply t0; exact s_lt rfl rfl; apply t0; exact sM rfl; apply g0; exact wnt_g rfl rfl rfl (by simp only [*]; rfl)
 exact sM rfl; apply g0; exact wnt_g rfl rfl rfl (by simp only [*]; rfl); exact s_ge rfl rfl; apply t0; exact s_pick_f rfl (by assumption) rfl
 dsimp only [reduceAdd, reduceMul]; exact dn; exact rfl)
      refine Gol.cond_f rfl d1 ?_
      (
 refine Gol.skip ?_; refine thn_n ?_; apply Gol.sr; apply t0; exact sM rfl; apply t0; exact s_cu64 rfl; dsimp only [reduceAdd, reduceMul, reduceSub, na, ca, nbk, mc, ml]
 apply tq; apply s_shlZu; exact rfl; exact rfl; omega; dsimp only [reduceAdd, reduceMul, reduceSub, na, ca, nbk, mc, ml]
 apply t0; exact sA rfl; dsimp only [reduceAdd, reduceMul]; exact dn; exact rfl; refine Gol.ret ?_)
      (apply RetQ.mk (by first | exact .inr rfl | exact .inl rfl); apply res_1 rfl; exact res_tmp rfl; exact out_val)
end Go.Proofs.YtneeclacmhhblaaGreat


namespace Go.Proofs.YtneeclacmhhblaaGreat
open Go.RowKit
open Nat (reduceAdd reduceMul reduceSub)

end Go.Proofs.YtneeclacmhhblaaGreat


namespace Go.Proofs.YtneeclacmhhblaaGreat
open Go.RowKit
open Nat (reduceAdd reduceMul reduceSub)

def idsF (m : Int) : Nat → List Int
  | 0 => []
  | i + 1 => if hasB m (i : Int) = true then idsF m i ++ [(i : Int)] else idsF m i
theorem idsF_len (m : Int) : ∀ i, (idsF m i).length ≤ i
  | 0 => Nat.le_refl _
  | i + 1 => by
    have := idsF_len m i
    unfold idsF
    split
    · simp; omega
    · omega
theorem inA_next (l : List Int) (a : Int) : inA l ++ (cu (.v (.int .i64 a)) ++ []) = inA (l ++ [a]) := by
  simp [inA, cu, Value.cells]
theorem refIDs_ok (m : Int) : Fresh Tryz.prog 145 [.v (.int .i64 m)] (fun k => .sl k (idsF m 10).length) [⟨inA (idsF m 10), 3, 1⟩] := by
  refine Fresh.of (fn := Tryz.f145) Tryz.func145 rfl (lb rfl) fun w => ?_
  (
 apply Gol.sr; apply t0; exact sA rfl; dsimp only [reduceAdd, reduceMul]; exact dn; exact rfl; apply Gol.sr; apply t0; exact sA rfl
 dsimp only [reduceAdd, reduceMul]; exact dn; exact rfl; refine Gol.seq ?_; apply Gol.sr; apply t0; exact sA rfl; dsimp only [reduceAdd, reduceMul]
 exact dn; exact rfl; refine Gol.block ?_)
  refine Gol.le (Le.nilOwn (i := 3) 3 1 rfl) ?_
  refine Gol.loop (ι := Nat) (fun i => i ≤ 10) (fun i => 10 - i) 40 (fun i => [(24, some ⟨inA (idsF m i), 3, 1⟩)]) (fun i => [(0, .v (.int .i64 m)), (3, .sl 24 (idsF m i).length), (4, .v (.int .i64 (i : Int)))]) 0 (Nat.zero_le _) ?_ ?_
  · (
 apply Le.mk' []; apply RnT.c; exact rfl; exact Rn.v rfl; apply RnT.c; exact rfl; exact Rn.sl rfl rfl; apply RnT.c; exact rfl; exact Rn.v rfl; exact RnT.n
 apply RnH.c; exact rfl; exact rfl; rfl; exact rfl; exact rfl; exact RnH.n; exact rfl; exact rfl)
  intro i hi
  have hlen := idsF_len m i
  (
 refine Gol.seq ?_; apply Gol.sr; apply t0; exact sM rfl; apply t0; exact s_ltn rfl rfl; dsimp only [reduceAdd, reduceMul]
 exact dn; exact rfl)
  refine Gol.cond rfl (fun h => ?_) (fun h => ?_)
  · have hlt : i < 10 := of_decide_eq_true h
    cases hb : hasB m (i : Int) with
    | true =>
      have e : idsF m (i + 1) = idsF m i ++ [(i : Int)] := by simp [idsF, hb]
      (
 refine Gol.skip ?_; refine thn_n ?_; refine Gol.seq ?_; refine Gol.block ?_; apply Gol.sr
 apply t0; exact sM rfl; apply t0; exact sM rfl; dsimp only [reduceAdd, reduceMul, reduceSub, na, ca, nbk, mc, ml]
 apply tq; apply s_call (f := 113) rfl; apply eC rfl; apply eC rfl; exact eN
 apply aC; exact aL; apply aC; exact aL; exact aN; have hh := refHas_ok m (i : Int); rw [hb] at hh; exact hh; exact lb rfl
 dsimp only [reduceAdd, reduceMul, reduceSub, na, ca, nbk, mc, ml]; exact dn; exact rfl)
      refine Gol.cond_t rfl rfl ?_
      (
 apply Gol.region; apply t0; exact sM rfl; apply t0; exact sM rfl; apply tq; exact s_bytesP (PV.cons rfl rfl rfl PV.nil) rfl (by omega)
 dsimp only [reduceAdd, reduceMul, reduceSub, na, ca, nbk, mc, ml]; apply tq; exact s_app rfl rfl rfl (rd_sl rfl rfl) (by simp only [byA_length, List.length_append, List.length_cons, List.length_nil, List.length_take, List.length_drop, List.length_replicate, List.length_map, Nat.mul_one, nameB_length, flat_length, List.length_set, inA_length, dsA_length, lsA_length, dA_length, lA_length, itsA_length, vtsA_length, rcsA_length] <;> omega) rfl rfl OneL.one (by omega)
 dsimp only [reduceAdd, reduceMul, reduceSub, na, ca, nbk, mc, ml]; apply t0; exact sA rfl
 dsimp only [reduceAdd, reduceMul]; exact dn; exact rfl; refine inBlk_n ?_; refine thn_n ?_; apply Gol.region
 apply t0; exact sM rfl; apply t0; exact s_addn rfl rfl (by simp <;> omega); apply t0; exact sA rfl; dsimp only [reduceAdd, reduceMul]
 exact dn; exact rfl)
      refine rnd_n (i + 1) hlt (by omega) ?_
      rw [e]
      rw [List.length_append]
      (
 apply Le.mk' [(24, 104)]; apply RnT.c; exact rfl; exact Rn.v rfl; apply RnT.c; exact rfl; exact Rn.sl rfl rfl; apply RnT.c; exact rfl; exact Rn.v rfl
 exact RnT.n; apply RnH.c; exact rfl; exact rfl; exact inA_next (idsF m i) (i : Int); exact rfl; exact rfl; exact RnH.n; exact rfl; exact rfl)
    | false =>
      have e : idsF m (i + 1) = idsF m i := by simp [idsF, hb]
      (
 refine Gol.skip ?_; refine thn_n ?_; refine Gol.seq ?_; refine Gol.block ?_; apply Gol.sr
 apply t0; exact sM rfl; apply t0; exact sM rfl; dsimp only [reduceAdd, reduceMul, reduceSub, na, ca, nbk, mc, ml]
 apply tq; apply s_call (f := 113) rfl; apply eC rfl; apply eC rfl; exact eN
 apply aC; exact aL; apply aC; exact aL; exact aN; have hh := refHas_ok m (i : Int); rw [hb] at hh; exact hh; exact lb rfl
 dsimp only [reduceAdd, reduceMul, reduceSub, na, ca, nbk, mc, ml]; exact dn; exact rfl)
      refine Gol.cond_f rfl rfl ?_
      (
 refine Gol.skip ?_; refine inBlk_n ?_; refine thn_n ?_; apply Gol.region; apply t0
 exact sM rfl; apply t0; exact s_addn rfl rfl (by simp <;> omega); apply t0; exact sA rfl; dsimp only [reduceAdd, reduceMul]; exact dn
 exact rfl)
      refine rnd_n (i + 1) hlt (by omega) ?_
      rw [e]
      (
 apply Le.mk' []; apply RnT.c; exact rfl; exact Rn.v rfl; apply RnT.c; exact rfl; exact Rn.sl rfl rfl; apply RnT.c; exact rfl; exact Rn.v rfl; exact RnT.n
 apply RnH.c; exact rfl; exact rfl; rfl; exact rfl; exact rfl; exact RnH.n; exact rfl; exact rfl)
  · have hge : ¬ i < 10 := of_decide_eq_false h
    obtain rfl : i = 10 := by omega
    (
 refine Gol.exit ?_; refine thn_x ?_; refine rnd_x ?_; refine inBlk_hit ?_; refine thn_n ?_
 apply Gol.sr; apply t0; exact sM rfl; apply t0; exact sA rfl; dsimp only [reduceAdd, reduceMul]; exact dn; exact rfl; refine Gol.ret ?_)
    (apply RetQ.mk (by first | exact .inr rfl | exact .inl rfl); apply res_1 rfl; exact res_tmp rfl; exact out_sl rfl)
theorem refSize_ok (m : Int) : Fresh Tryz.prog 127 [.v (.int .i64 m)] (fun _ => .v (.int .i64 ((idsF m 10).length : Int))) [] := by
  refine Fresh.of (fn := Tryz.f127) Tryz.func127 rfl (lb rfl) fun w => ?_
  (
 apply Gol.sr; apply t0; exact sA rfl; dsimp only [reduceAdd, reduceMul]; exact dn; exact rfl; apply Gol.sr; apply t0; exact sM rfl; apply tq
 exact s_call (f := 145) rfl (eC rfl eN) (aC aL aN) (refIDs_ok m) (lb rfl)
 dsimp only [reduceAdd, reduceMul, reduceSub, na, ca, nbk, mc, ml]; apply t0; exact s_len rfl ln_sl
 apply t0; exact sA rfl; dsimp only [reduceAdd, reduceMul]; exact dn; exact rfl; refine Gol.ret ?_)
  (apply RetQ.mk (by first | exact .inr rfl | exact .inl rfl); apply res_1 rfl; exact res_tmp rfl; exact out_val)
def selF (size g : Int) : Nat → Int
  | 0 => 0
  | i + 1 => if hasB g (i : Int) = false ∧ ((idsF (selF size g i) 10).length : Int) < size then orI (selF size g i) (bitN (i : Int)) else selF size g i
theorem refSelect_ok (n : Nat) (size g : Int) (hn : n ≤ 10) : Fresh Tryz.prog 90 [.v (.int .i64 (n : Int)), .v (.int .i64 size), .v (.int .i64 g)] (fun _ => .v (.int .i64 (selF size g n))) [] := by
  refine Fresh.of (fn := Tryz.f90) Tryz.func90 rfl (lb rfl) fun w => ?_
  (
 apply Gol.sr; apply t0; exact sA rfl; dsimp only [reduceAdd, reduceMul]; exact dn; exact rfl; apply Gol.sr; apply t0; exact sA rfl
 dsimp only [reduceAdd, reduceMul]; exact dn; exact rfl; refine Gol.seq ?_; apply Gol.sr; apply t0; exact sA rfl; dsimp only [reduceAdd, reduceMul]
 exact dn; exact rfl; refine Gol.block ?_)
  refine Gol.loop (ι := Nat) (fun i => i ≤ n) (fun i => n - i) 40 (fun i => []) (fun i => [(0, .v (.int .i64 (n : Int))), (1, .v (.int .i64 size)), (2, .v (.int .i64 g)), (7, .v (.int .i64 (selF size g i))), (8, .v (.int .i64 (i : Int)))]) 0 (Nat.zero_le _) ?_ ?_
  · (
 apply Le.mk' []; apply RnT.c; exact rfl; exact Rn.v rfl; apply RnT.c; exact rfl; exact Rn.v rfl; apply RnT.c; exact rfl; exact Rn.v rfl; apply RnT.c; exact rfl
 exact Rn.v rfl; apply RnT.c; exact rfl; exact Rn.v rfl; exact RnT.n; exact RnH.n; exact rfl; exact rfl)
  intro i hi
  by_cases hlt : i < n
  · have d1 : decide (i < n) = true := decide_eq_true hlt
    have d2 : decide (i < 10) = true := decide_eq_true (by omega)
    (
 refine Gol.seq ?_; apply Gol.sr; apply t0; exact sM rfl; apply t0; exact sM rfl; apply t0; exact s_ltn rfl rfl; apply t0; exact sM rfl
 apply g0; exact wnt_g rfl rfl rfl (by simp only [*]; rfl); exact sM rfl; apply g0; exact wnt_g rfl rfl rfl (by simp only [*]; rfl)
 exact s_ltn rfl rfl; apply t0; exact s_pick_t rfl (by assumption) rfl; dsimp only [reduceAdd, reduceMul]; exact dn; exact rfl)
    refine Gol.cond_t rfl d2 ?_
    cases hb : hasB g (i : Int) with
    | true =>
      have e : selF size g (i + 1) = selF size g i := by simp [selF, hb]
      (
 refine Gol.skip ?_; refine thn_n ?_; refine Gol.seq ?_; refine Gol.block ?_; apply Gol.sr
 apply t0; exact sM rfl; apply t0; exact sM rfl; dsimp only [reduceAdd, reduceMul, reduceSub, na, ca, nbk, mc, ml]
 apply tq; apply s_call (f := 113) rfl; apply eC rfl; apply eC rfl; exact eN
 apply aC; exact aL; apply aC; exact aL; exact aN; have hh := refHas_ok g (i : Int); rw [hb] at hh; exact hh; exact lb rfl
 dsimp only [reduceAdd, reduceMul, reduceSub, na, ca, nbk, mc, ml]; apply t0; exact s_not rfl
 apply t0; exact sM rfl; apply sk; exact wnt_g rfl rfl rfl rfl; apply sk; exact wnt_g rfl rfl rfl rfl; apply sk; exact wnt_g rfl rfl rfl rfl; apply sk
 exact wnt_g rfl rfl rfl rfl; apply t0; exact s_pick_f rfl rfl rfl; dsimp only [reduceAdd, reduceMul]; exact dn; exact rfl)
      refine Gol.cond_f rfl rfl ?_
      (
 refine Gol.skip ?_; refine inBlk_n ?_; refine thn_n ?_; apply Gol.region; apply t0
 exact sM rfl; apply t0; exact s_addn rfl rfl (by simp <;> omega); apply t0; exact sA rfl; dsimp only [reduceAdd, reduceMul]; exact dn
 exact rfl)
      refine rnd_n (i + 1) hlt (by omega) ?_
      rw [e]
      (
 apply Le.mk' []; apply RnT.c; exact rfl; exact Rn.v rfl; apply RnT.c; exact rfl; exact Rn.v rfl; apply RnT.c; exact rfl; exact Rn.v rfl; apply RnT.c; exact rfl
 exact Rn.v rfl; apply RnT.c; exact rfl; exact Rn.v rfl; exact RnT.n; exact RnH.n; exact rfl; exact rfl)
    | false =>
      by_cases hc : ((idsF (selF size g i) 10).length : Int) < size
      · have dc : decide (((idsF (selF size g i) 10).length : Int) < size) = true := decide_eq_true hc
        have e : selF size g (i + 1) = orI (selF size g i) (bitN (i : Int)) := by simp only [selF, hb, hc, and_self, if_true]
        (
 refine Gol.skip ?_; refine thn_n ?_; refine Gol.seq ?_; refine Gol.block ?_; apply Gol.sr
 apply t0; exact sM rfl; apply t0; exact sM rfl; dsimp only [reduceAdd, reduceMul, reduceSub, na, ca, nbk, mc, ml]
 apply tq; apply s_call (f := 113) rfl; apply eC rfl; apply eC rfl; exact eN
 apply aC; exact aL; apply aC; exact aL; exact aN; have hh := refHas_ok g (i : Int); rw [hb] at hh; exact hh; exact lb rfl
 dsimp only [reduceAdd, reduceMul, reduceSub, na, ca, nbk, mc, ml]; apply t0; exact s_not rfl
 apply t0; exact sM rfl; apply g0; exact wnt_g rfl rfl rfl rfl; exact sM rfl; apply gq; exact wnt_g rfl rfl rfl rfl; exact s_call (f := 127) rfl (eC rfl eN) (aC aL aN) (refSize_ok _) (lb rfl)
 dsimp only [reduceAdd, reduceMul, reduceSub, na, ca, nbk, mc, ml]; apply g0; exact wnt_g rfl rfl rfl rfl
 exact sM rfl; apply g0; exact wnt_g rfl rfl rfl rfl; exact s_lt rfl rfl; apply t0; exact s_pick_t rfl rfl rfl; dsimp only [reduceAdd, reduceMul]
 exact dn; exact rfl)
        refine Gol.cond_t rfl dc ?_
        (
 apply Gol.region; apply t0; exact sM rfl; apply t0; exact sM rfl; apply tq; exact s_call (f := 114) rfl (eC rfl eN) (aC aL aN) (refBit_ok _) (lb rfl)
 dsimp only [reduceAdd, reduceMul, reduceSub, na, ca, nbk, mc, ml]; apply t0; exact s_orI rfl rfl
 apply t0; exact sA rfl; dsimp only [reduceAdd, reduceMul]; exact dn; exact rfl; refine inBlk_n ?_; refine thn_n ?_
 apply Gol.region; apply t0; exact sM rfl; apply t0; exact s_addn rfl rfl (by simp <;> omega); apply t0; exact sA rfl; dsimp only [reduceAdd, reduceMul]
 exact dn; exact rfl)
        refine rnd_n (i + 1) hlt (by omega) ?_
        rw [e]
        (
 apply Le.mk' []; apply RnT.c; exact rfl; exact Rn.v rfl; apply RnT.c; exact rfl; exact Rn.v rfl; apply RnT.c; exact rfl; exact Rn.v rfl; apply RnT.c; exact rfl
 exact Rn.v rfl; apply RnT.c; exact rfl; exact Rn.v rfl; exact RnT.n; exact RnH.n; exact rfl; exact rfl)
      · have dc : decide (((idsF (selF size g i) 10).length : Int) < size) = false := decide_eq_false hc
        have e : selF size g (i + 1) = selF size g i := by simp only [selF, hc, and_false, if_false]
        (
 refine Gol.skip ?_; refine thn_n ?_; refine Gol.seq ?_; refine Gol.block ?_; apply Gol.sr
 apply t0; exact sM rfl; apply t0; exact sM rfl; dsimp only [reduceAdd, reduceMul, reduceSub, na, ca, nbk, mc, ml]
 apply tq; apply s_call (f := 113) rfl; apply eC rfl; apply eC rfl; exact eN
 apply aC; exact aL; apply aC; exact aL; exact aN; have hh := refHas_ok g (i : Int); rw [hb] at hh; exact hh; exact lb rfl
 dsimp only [reduceAdd, reduceMul, reduceSub, na, ca, nbk, mc, ml]; apply t0; exact s_not rfl
 apply t0; exact sM rfl; apply g0; exact wnt_g rfl rfl rfl rfl; exact sM rfl; apply gq; exact wnt_g rfl rfl rfl rfl; exact s_call (f := 127) rfl (eC rfl eN) (aC aL aN) (refSize_ok _) (lb rfl)
 dsimp only [reduceAdd, reduceMul, reduceSub, na, ca, nbk, mc, ml]; apply g0; exact wnt_g rfl rfl rfl rfl
 exact sM rfl; apply g0; exact wnt_g rfl rfl rfl rfl; exact s_lt rfl rfl; apply t0; exact s_pick_t rfl rfl rfl; dsimp only [reduceAdd, reduceMul]
 exact dn; exact rfl)
        refine Gol.cond_f rfl dc ?_
        (
 refine Gol.skip ?_; refine inBlk_n ?_; refine thn_n ?_; apply Gol.region; apply t0
 exact sM rfl; apply t0; exact s_addn rfl rfl (by simp <;> omega); apply t0; exact sA rfl; dsimp only [reduceAdd, reduceMul]; exact dn
 exact rfl)
        refine rnd_n (i + 1) hlt (by omega) ?_
        rw [e]
        (
 apply Le.mk' []; apply RnT.c; exact rfl; exact Rn.v rfl; apply RnT.c; exact rfl; exact Rn.v rfl; apply RnT.c; exact rfl; exact Rn.v rfl; apply RnT.c; exact rfl
 exact Rn.v rfl; apply RnT.c; exact rfl; exact Rn.v rfl; exact RnT.n; exact RnH.n; exact rfl; exact rfl)
  · have d1 : decide (i < n) = false := decide_eq_false hlt
    obtain rfl : i = n := by omega
    (
 refine Gol.seq ?_; apply Gol.sr; apply t0; exact sM rfl; apply t0; exact sM rfl; apply t0; exact s_ltn rfl rfl; apply t0; exact sM rfl
 apply sk; exact wnt_g rfl rfl rfl (by simp only [*]; rfl); apply sk; exact wnt_g rfl rfl rfl (by simp only [*]; rfl); apply t0; exact s_pick_f rfl (by assumption) rfl
 dsimp only [reduceAdd, reduceMul]; exact dn; exact rfl)
    refine Gol.cond_f rfl rfl ?_
    (
 refine Gol.exit ?_; refine thn_x ?_; refine rnd_x ?_; refine inBlk_hit ?_; refine thn_n ?_
 apply Gol.sr; apply t0; exact sM rfl; apply t0; exact sA rfl; dsimp only [reduceAdd, reduceMul]; exact dn; exact rfl; refine Gol.ret ?_)
    (apply RetQ.mk (by first | exact .inr rfl | exact .inl rfl); apply res_1 rfl; exact res_tmp rfl; exact out_val)
theorem Fresh.agw {P : Program} {f : FuncId} {cs : List AV} {X : Array Value} {us : List AV} (h : Fresh P f cs (fun _ => .ag us) []) (e : us = X.toList.map .v) : Fresh P f cs (fun _ => .v (.agg X)) [] := fun E0 xs hS hD hx => (h E0 xs hS hD hx).mono (by
  rintro en w' ⟨x, ls, rfl, h1, h2, h3, h4⟩
  refine ⟨x, ls, rfl, h1, h2, h3, fun k E' hw hS' hD' => ⟨(h4 k E' hw hS' hD').1, ?_⟩⟩
  have hr := (h4 k E' hw hS' hD').2
  subst e
  rw [agu_v_inv hr]
  exact .v _)
def accS (i : Nat) : UInt64 := nameOf fun j => [2, toU8 ((i + 1 : Nat) : Int), 0, 0, 0, 0, 0, 0].getD j 0
theorem accSeed_ok (i : Nat) (h : i ≤ 1000) : Fresh Tryz.prog 59 [.v (.int .i64 (i : Int))] (fun _ => .v (.agg (nameC (accS i)))) [] := by
  refine Fresh.agw (us := [.v (.int .u8 2), .v (.int .u8 ((toU8 ((i + 1 : Nat) : Int)).toNat : Int)), .v (.int .u8 0), .v (.int .u8 0), .v (.int .u8 0), .v (.int .u8 0), .v (.int .u8 0), .v (.int .u8 0)]) ?_ (by unfold accS; rw [nameC_nameOf]; rfl)
  refine Fresh.of (fn := Tryz.f59) Tryz.func59 rfl (lb rfl) fun w => ?_
  (
 apply Gol.sr; apply t1; exact s_alloc; dsimp only [reduceAdd, reduceMul]; exact dn; exact rfl; apply Gol.sr; apply t0; exact sM rfl; apply t0
 exact s_addn rfl rfl (by simp <;> omega); apply t0; exact s_cu8 rfl; dsimp only [reduceAdd, reduceMul, reduceSub, na, ca, nbk, mc, ml]
 apply tq; apply s_bld; exact rfl; (focus (dsimp only [splB, cuB, spl, cu, Value.cells, nameC, List.map, List.take, List.drop, List.append, List.length, List.cons_append, List.nil_append, Nat.reduceAdd, List.take_succ_cons, List.take_zero, List.drop_succ_cons, List.drop_zero, List.take_nil, List.drop_nil, List.append_nil, List.length_cons, List.length_nil]; done))
 dsimp only [reduceAdd, reduceMul, reduceSub, na, ca, nbk, mc, ml]; apply n1; exact s_storeW rfl rfl rfl rfl rfl rfl
 dsimp only [reduceAdd, reduceMul]; exact dn; exact rfl; refine Gol.ret ?_)
  (apply RetQ.mk (by first | exact .inr rfl | exact .inl rfl); apply res_1 rfl; exact res_cell rfl rfl rfl (agu_cua _); exact out_val)
def tapeB (L : List Int) (fl : Bool) (i : Int) : ABlk := ⟨[.ex L.length fl (inA L), .v (.int .i64 i)], 83, 2⟩
theorem next_ok (L : List Int) (fl : Bool) (i : Nat) (n a : Int) (h : L[i]? = some a) (hn : 0 < n) (hl : L.length ≤ 1000000000) (hz : okZ n) (ha : okZ a) : Acts Tryz.prog 56 [tapeB L fl (i : Int)] [.pt 0 0, .v (.int .i64 n)] (.v (.int .i64 (a % n))) [some (tapeB L fl ((i + 1 : Nat) : Int))] := by
  have hi := (List.getElem?_eq_some_iff.1 h).1
  have d : decide (L.length ≤ i) = false := decide_eq_false (by omega)
  have hne : inA L ≠ [] := fun e => by have := inA_length L; rw [e] at this; simp at this; omega
  have hg : L.getD (i + 1 - 1) 0 = a := by rw [Nat.add_sub_cancel, List.getD_eq_getElem?_getD, h]; rfl
  have h1 := Int.tmod_eq_emod (a := a) (b := n)
  have h2 := Int.emod_nonneg a (show n ≠ 0 by omega)
  have h3 := Int.emod_lt_of_pos a hn
  unfold okZ at hz ha
  refine Acts.of (fn := Tryz.f56) Tryz.func56 rfl (lb rfl) (lb rfl) fun w bl hid loc => ?_
  (
 apply Gol.sr; apply t0; exact sA rfl; dsimp only [reduceAdd, reduceMul]; exact dn; exact rfl; refine Gol.seq ?_; refine Gol.seq ?_
 apply Gol.any; kernel_rfl; apply t0; exact sM rfl; apply t0; exact s_nilCheck rfl rfl; apply t0; exact sF rfl; apply t0
 exact s_load rfl rfl rfl; apply t0; exact sM rfl; apply t0; exact s_nilCheck rfl rfl; apply t0; exact sF rfl; apply t0; exact s_load rfl rfl rfl
 apply t0; exact s_len rfl ln_ex; apply t0; exact s_gen rfl rfl; dsimp only [reduceAdd, reduceMul]; exact dn; kernel_rfl; exact rfl; refine thn_n ?_)
  refine Gol.cond_f rfl d ?_
  (
 refine Gol.skip ?_; refine thn_n ?_; apply Gol.sr; apply t0; exact sM rfl; apply t0; exact s_nilCheck rfl rfl; apply t0
 exact sF rfl; apply t0; exact s_load rfl rfl rfl; apply t0; exact s_addn rfl rfl (by simp <;> omega); apply t0; exact s_nilCheck rfl rfl; apply t0
 exact sF rfl; apply n1; exact s_store rfl rfl rfl rfl rfl (lb rfl); dsimp only [reduceAdd, reduceMul]; exact dn; exact rfl
 refine Gol.seq ?_; apply Gol.any; kernel_rfl; apply t0; exact sM rfl; apply t0; exact s_nilCheck rfl rfl; apply t0
 exact sF rfl; apply t0; exact s_load rfl rfl rfl; apply t0; exact sM rfl; apply t0; exact s_nilCheck rfl rfl; apply t0; exact sF rfl
 apply t0; exact s_load rfl rfl rfl; apply t0; exact s_subn rfl rfl (by simp <;> omega) (by omega); apply t0; exact s_ixe rfl rfl (by first | omega | exact lb rfl | decide | (simp <;> omega) | (dsimp <;> omega)) (by assumption)
 apply t0; exact s_loadE rfl (in_get0 (by assumption)); apply t0; exact sM rfl; apply t0; exact s_rem rfl rfl (by omega); apply t0; exact sA rfl
 dsimp only [reduceAdd, reduceMul]; exact dn; kernel_rfl; exact rfl; refine thn_n ?_; refine Gol.seq ?_; apply Gol.sr
 apply t0; exact sM rfl; apply t0; exact s_lt rfl rfl; dsimp only [reduceAdd, reduceMul]; exact dn; exact rfl)
  rw [hg]
  refine Gol.cond rfl (fun h0 => ?_) (fun h0 => ?_)
  · have h0 : a.tmod n < 0 := of_decide_eq_true h0
    have e : a.tmod n + n = a % n := by
      by_cases hc : 0 ≤ a ∨ n ∣ a
      · rw [if_pos hc] at h1; omega
      · rw [if_neg hc] at h1; omega
    have hb : -9223372036854775808 ≤ a.tmod n + n ∧ a.tmod n + n ≤ 9223372036854775807 := by omega
    (
 apply Gol.region; apply t0; exact sM rfl; apply t0; exact sM rfl; apply t0; exact s_add rfl rfl (by omega); apply t0; exact sA rfl
 dsimp only [reduceAdd, reduceMul]; exact dn; exact rfl; refine thn_n ?_; apply Gol.sr; apply t0; exact sM rfl; apply t0; exact sA rfl
 dsimp only [reduceAdd, reduceMul]; exact dn; exact rfl; refine Gol.ret ?_)
    rw [e]
    (
 apply RetA.mk [0] (by first | exact .inr rfl | exact .inl rfl); apply res_1 rfl; exact res_tmp rfl; exact rfl; exact rfl; exact rfl; apply OAs.kept; exact rfl
 exact rfl; exact rfl; apply rK; apply rK; exact RenL.nil; exact OAs.nil; exact rZ)
  · have h0 : ¬ a.tmod n < 0 := of_decide_eq_false h0
    have e : a.tmod n = a % n := by
      by_cases hc : 0 ≤ a ∨ n ∣ a
      · rw [if_pos hc] at h1; omega
      · rw [if_neg hc] at h1; omega
    (
 refine Gol.skip ?_; refine thn_n ?_; apply Gol.sr; apply t0; exact sM rfl; apply t0; exact sA rfl; dsimp only [reduceAdd, reduceMul]
 exact dn; exact rfl; refine Gol.ret ?_)
    rw [e]
    (
 apply RetA.mk [0] (by first | exact .inr rfl | exact .inl rfl); apply res_1 rfl; exact res_tmp rfl; exact rfl; exact rfl; exact rfl; apply OAs.kept; exact rfl
 exact rfl; exact rfl; apply rK; apply rK; exact RenL.nil; exact OAs.nil; exact rZ)
end Go.Proofs.YtneeclacmhhblaaGreat


namespace Go.Proofs.YtneeclacmhhblaaGreat
open Go.RowKit
theorem Sta.cell {w0 : World} {M : Mod} {H : AH} {E : Env} (hs : Sta w0 M H E) {B j : Nat} {blkB : ABlk} {u v : AV} (hB : hk H B = some blkB) (hj : blkB.cells[j]? = some u) (hsz : Nat.blt 0 blkB.sz = true) (huv : ∀ x, RV E u x → RV E v x) : Sta w0 M ((B, some { blkB with cells := blkB.cells.set j v }) :: H) E := by
  obtain ⟨o1, o2, o3⟩ := hs.own B blkB hB
  have key : BOK E (E.L B) { blkB with cells := blkB.cells.set j v } := by
    cases eg : (E.L B).g with
    | none => have hz := o3.none eg; rw [hz.1] at hj; simp at hj
    | some g =>
      by_cases hmB : (E.L B).c ≤ maxLen
      case' neg => exact absurd hsz (by rw [o3.szM eg hmB]; simp)
      obtain ⟨cc, c1, c2, c3, c4, c5⟩ := o3.at eg hmB
      obtain ⟨x, hx, hr⟩ := c5.at hj
      refine .mk eg ⟨cc, c1, c2, c3, by simpa using c4, ?_⟩
      show RVs E (blkB.cells.set j _) (cc.toList.take (blkB.cells.set j _).length)
      rw [List.length_set]
      refine ⟨by rw [List.length_set]; exact c5.1, fun i cv y hcv hy => ?_⟩
      rw [List.getElem?_set] at hcv
      split at hcv
      · rename_i hij; subst hij
        split at hcv
        · injection hcv with hcv; subst hcv; rw [hx] at hy; injection hy with hy; subst hy; exact huv _ hr
        · cases hcv
      · exact c5.2 i cv y hcv hy
  have hex : ∀ bb kk, hk ((B, some { blkB with cells := blkB.cells.set j v }) :: H) bb = some kk → ∃ k2, hk H bb = some k2 := fun bb kk hh => by
    rw [hk_cons] at hh
    split at hh
    · rename_i hbb; subst hbb; exact ⟨blkB, hB⟩
    · exact ⟨kk, hh⟩
  refine ⟨hs.os, hs.tape, hs.output, hs.size, hs.frame, fun g' => ?_, fun b' blk' hb' => ?_, fun b1 b2 k1 k2 g' h1 h2 x1 x2 => ?_, hs.hid, hs.pin⟩
  · rw [hs.seq g']
    constructor
    · rintro (⟨b', blk', h1, h2⟩ | hh)
      case' inr => exact .inr hh
      by_cases hbb : B = b'
      · subst hbb; exact .inl ⟨B, _, by rw [hk_cons, if_pos rfl], h2⟩
      · exact .inl ⟨b', blk', by rw [hk_cons, if_neg hbb]; exact h1, h2⟩
    · rintro (⟨b', blk', h1, h2⟩ | hh)
      case' inr => exact .inr hh
      obtain ⟨k2, h3⟩ := hex b' blk' h1
      exact .inl ⟨b', k2, h3, h2⟩
  · rw [hk_cons] at hb'
    split at hb'
    · rename_i hbb; subst hbb; injection hb' with hb'; subst hb'; exact ⟨o1, o2, key⟩
    · exact hs.own b' blk' hb'
  · obtain ⟨k1', h1'⟩ := hex b1 k1 h1
    obtain ⟨k2', h2'⟩ := hex b2 k2 h2
    exact hs.inj b1 b2 k1' k2' g' h1' h2' x1 x2
theorem Le.giveSC {M : Mod} {k : Nat} {H : AH} {T : AT} {B b n : Nat} {blkB blk : ABlk} (j : Nat) {cs : List AV} (hB : hk H B = some blkB) (hj : blkB.cells[j]? = some (.sl b n)) (hb : hk H b = some blk) (hne : Nat.beq b B = false) (hsz : Nat.blt 0 blkB.sz = true) (hc : blk.cells = cs) :
    Le M k H T k ((B, some { blkB with cells := blkB.cells.set j (.ex n false cs) }) :: (b, none) :: H) T := by
  subst hc
  rintro m w0 a w ⟨E, e1, e2, e3, e4, e5, e6⟩
  have hbB : b ≠ B := fun e => by subst e; simp at hne
  obtain ⟨E', w1, w2, w3, hle, hs, hg⟩ := e2.giveUp b
  have hB' : hk ((b, none) :: H) B = some blkB := by rw [hk_cons, if_neg hbB]; exact hB
  refine ⟨E', w1.trans e1, hs.cell hB' hj hsz (fun x hr => ?_), fun b' hb' => e3 b' (by rw [← w3]; exact hb'), fun t u hu => ?_, e5, e6⟩
  · cases hr with
    | sl b n hD hn hm =>
      rw [w2] at hn hm ⊢
      cases eg : (E.L b).g with
      | none => rw [((e2.own b blk hb).2.2.none eg).1]; exact .ex0 _ _ _ _ hn (fun h => by cases h)
      | some g =>
        obtain ⟨xs, h1, h2⟩ := own_read e2 hb eg hm
        have h3 := h1.mono hle
        exact .ex _ _ _ g 0 _ xs hn (fun h => by cases h) (by rw [w1]; exact e2.lt hb eg) (hg blk g hb eg) h3.1 (fun j y hy => by rw [w1, Nat.zero_add]; exact h2 j y hy) h3.2
  · obtain ⟨x, hx, hr⟩ := e4 t u hu; exact ⟨x, hx, hr.mono hle⟩
theorem Le.nilC {M : Mod} {k : Nat} {H : AH} {T : AT} {B : Nat} {blkB : ABlk} (j : Nat) (e : TypeId) (sz : Nat) (hB : hk H B = some blkB) (hj : blkB.cells[j]? = some (.v (.slice none 0 0))) (hsz : Nat.blt 0 blkB.sz = true) :
    Le M k H T (k + 8) ((B, some { blkB with cells := blkB.cells.set j (.sl k 0) }) :: (k, some ⟨[], e, sz⟩) :: H) T := by
  rintro n w0 a w ⟨E, e1, e2, e3, e4, e5, e6⟩
  have hk0 : ¬ E.D k := fun h => by have := e3 k h; omega
  obtain ⟨h1, h2⟩ := e2.new hk0 E.w ⟨none, 0⟩ ⟨[], e, sz⟩ (Nat.le_refl _) (fun _ _ => rfl) rfl rfl rfl (fun g hg => by cases hg) (fun E' _ _ => .mk_none rfl ⟨rfl, rfl⟩)
  have hBk : k ≠ B := fun e => hk0 (e ▸ (e2.own B blkB hB).1)
  have hB' : hk ((k, some ⟨[], e, sz⟩) :: H) B = some blkB := by rw [hk_cons, if_neg hBk]; exact hB
  refine ⟨E.new k E.w ⟨none, 0⟩, e1, h1.cell hB' hj hsz (fun x hr => ?_), fun b hb => ?_, fun t u hu => ?_, e5, e6⟩
  · rw [hr.v_inv]
    have : RV (E.new k E.w ⟨none, 0⟩) (.sl k 0) (.slice (((E.new k E.w ⟨none, 0⟩).L k).g.map fun g => ⟨g, 0, none⟩) 0 ((E.new k E.w ⟨none, 0⟩).L k).c) := .sl _ _ (.inr rfl) (Nat.zero_le _) (by simp [Env.new])
    simpa [Env.new] using this
  · rcases hb with hb | hb
    · have := e3 b hb; omega
    · omega
  · obtain ⟨x, hx, hr⟩ := e4 t u hu; exact ⟨x, hx, hr.mono h2⟩
end Go.Proofs.YtneeclacmhhblaaGreat


namespace Go.Proofs.YtneeclacmhhblaaGreat
open Go.RowKit
def Wk (u v : AV) : Prop := ∀ (E : Env) (x : Value), RV E u x → RV E v x
theorem Wk.refl {u : AV} : Wk u u := fun _ _ h => h
theorem Wk.nil {f : Bool} : Wk (.v (.slice none 0 0)) (.ex 0 f []) := fun E x h => by rw [h.v_inv]; exact .ex0 _ _ _ _ (Nat.le_refl _) (fun _ => rfl)
inductive WkL : List AV → List AV → Prop
  | nil : WkL [] []
  | cons {u v : AV} {us vs : List AV} (h : Wk u v) (t : WkL us vs) : WkL (u :: us) (v :: vs)
  | same {us : List AV} : WkL us us
theorem WkL.rvs {us vs : List AV} (h : WkL us vs) {E : Env} {xs : List Value} (hx : RVs E us xs) : RVs E vs xs := by
  induction h generalizing xs with
  | nil => exact hx
  | same => exact hx
  | cons h t ih =>
    obtain ⟨x, ys, rfl, h1, h2⟩ := hx.cons_inv
    exact RVs.cons (h E x h1) (ih h2)
theorem WkL.len {us vs : List AV} (h : WkL us vs) : vs.length = us.length := by
  induction h with
  | nil => rfl
  | same => rfl
  | cons h t ih => simp [ih]
theorem Wk.ag {us vs : List AV} (h : WkL us vs) : Wk (.ag us) (.ag vs) := fun E x hx => by
  cases hx with
  | ag us xs hl hx =>
    have hR : RVs E us xs.toList := ⟨by simpa using hl, fun j c x hc hx' => hx j c x hc (by simpa using hx')⟩
    have h2 := h.rvs hR
    exact .ag _ _ (by simpa using h2.1) (fun j c x hc hx' => h2.2 j c x hc (by simpa using hx'))
theorem Wk.vag {X : Array Value} {vs : List AV} (h : WkL (X.toList.map .v) vs) : Wk (.v (.agg X)) (.ag vs) := fun E x hx => by
  rw [hx.v_inv]
  have h2 := h.rvs (RVs.vals (E := E) X.toList)
  exact .ag _ _ (by simpa using h2.1) (fun j c x hc hx' => h2.2 j c x hc (by simpa using hx'))
theorem Sta.cells {w0 : World} {M : Mod} {H : AH} {E : Env} (hs : Sta w0 M H E) {B : Nat} {blkB : ABlk} {cs : List AV} (hB : hk H B = some blkB) (hsz : Nat.blt 0 blkB.sz = true) (hw : WkL blkB.cells cs) : Sta w0 M ((B, some { blkB with cells := cs }) :: H) E := by
  obtain ⟨o1, o2, o3⟩ := hs.own B blkB hB
  have key : BOK E (E.L B) { blkB with cells := cs } := by
    cases eg : (E.L B).g with
    | none =>
      have hz := o3.none eg
      refine .mk_none eg ⟨List.eq_nil_of_length_eq_zero ?_, hz.2⟩
      rw [hw.len, hz.1]; rfl
    | some g =>
      by_cases hmB : (E.L B).c ≤ maxLen
      case' neg => exact absurd hsz (by rw [o3.szM eg hmB]; simp)
      obtain ⟨cc, c1, c2, c3, c4, c5⟩ := o3.at eg hmB
      refine .mk eg ⟨cc, c1, c2, c3, by rw [show ({ blkB with cells := cs } : ABlk).cells = cs from rfl, hw.len]; exact c4, ?_⟩
      show RVs E cs (cc.toList.take cs.length)
      rw [hw.len]
      exact hw.rvs c5
  have hex : ∀ bb kk, hk ((B, some { blkB with cells := cs }) :: H) bb = some kk → ∃ k2, hk H bb = some k2 := fun bb kk hh => by
    rw [hk_cons] at hh
    split at hh
    · rename_i hbb; subst hbb; exact ⟨blkB, hB⟩
    · exact ⟨kk, hh⟩
  refine ⟨hs.os, hs.tape, hs.output, hs.size, hs.frame, fun g' => ?_, fun b' blk' hb' => ?_, fun b1 b2 k1 k2 g' h1 h2 x1 x2 => ?_, hs.hid, hs.pin⟩
  · rw [hs.seq g']
    constructor
    · rintro (⟨b', blk', h1, h2⟩ | hh)
      case' inr => exact .inr hh
      by_cases hbb : B = b'
      · subst hbb; exact .inl ⟨B, _, by rw [hk_cons, if_pos rfl], h2⟩
      · exact .inl ⟨b', blk', by rw [hk_cons, if_neg hbb]; exact h1, h2⟩
    · rintro (⟨b', blk', h1, h2⟩ | hh)
      case' inr => exact .inr hh
      obtain ⟨k2, h3⟩ := hex b' blk' h1
      exact .inl ⟨b', k2, h3, h2⟩
  · rw [hk_cons] at hb'
    split at hb'
    · rename_i hbb; subst hbb; injection hb' with hb'; subst hb'; exact ⟨o1, o2, key⟩
    · exact hs.own b' blk' hb'
  · obtain ⟨k1', h1'⟩ := hex b1 k1 h1
    obtain ⟨k2', h2'⟩ := hex b2 k2 h2
    exact hs.inj b1 b2 k1' k2' g' h1' h2' x1 x2
theorem Le.cells {M : Mod} {k : Nat} {H : AH} {T : AT} {B : Nat} {blkB : ABlk} (cs : List AV) (hB : hk H B = some blkB) (hsz : Nat.blt 0 blkB.sz = true) (hw : WkL blkB.cells cs) : Le M k H T k ((B, some { blkB with cells := cs }) :: H) T := by
  rintro m w0 a w ⟨E, e1, e2, e3, e4, e5, e6⟩
  exact ⟨E, e1, e2.cells hB hsz hw, e3, e4, e5, e6⟩
theorem Le.slot {M : Mod} {k : Nat} {H : AH} {T : AT} {i : Nat} {u v : AV} (hi : lk T i = some u) (hw : Wk u v) : Le M k H T k H ((i, v) :: T) := by
  rintro m w0 a w ⟨E, e1, e2, e3, e4, e5, e6⟩
  refine ⟨E, e1, e2, e3, fun t u' hu => ?_, e5, e6⟩
  rw [lk_cons] at hu
  split at hu
  · rename_i ei; subst ei; injection hu with hu; subst hu
    obtain ⟨x, hx, hr⟩ := e4 i _ hi
    exact ⟨x, hx, hw E x hr⟩
  · exact e4 t u' hu
end Go.Proofs.YtneeclacmhhblaaGreat


namespace Go.Proofs.YtneeclacmhhblaaGreat
open Go.RowKit
inductive Gv (bs : List ABlk) : AV → AV → Prop
  | clo {u : AV} (h : Clo u) : Gv bs u u
  | nil {f : Bool} : Gv bs (.v (.slice none 0 0)) (.ex 0 f [])
  | vag {X : Array Value} {cs : List AV} (h : cs = X.toList.map .v) : Gv bs (.v (.agg X)) (.ag cs)
  | agv {X : Array Value} {cs : List AV} (h : cs = X.toList.map .v) : Gv bs (.ag cs) (.v (.agg X))
  | sl {j n : Nat} {blk : ABlk} {cs : List AV} (hb : bs[j]? = some blk) (he : blk.cells = cs) (hc : CloL cs) : Gv bs (.sl j n) (.ex n false cs)
  | ag {us vs : List AV} (hl : us.length = vs.length) (h : ∀ (j : Nat) u v, us[j]? = some u → vs[j]? = some v → Gv bs u v) : Gv bs (.ag us) (.ag vs)
  | tp {us vs : List AV} (hl : us.length = vs.length) (h : ∀ (j : Nat) u v, us[j]? = some u → vs[j]? = some v → Gv bs u v) : Gv bs (.tp us) (.tp vs)
def GvL (bs : List ABlk) (us vs : List AV) : Prop := us.length = vs.length ∧ ∀ (j : Nat) u v, us[j]? = some u → vs[j]? = some v → Gv bs u v
theorem GvL.nil {bs : List ABlk} : GvL bs [] [] := ⟨rfl, fun j u v h => by simp at h⟩
theorem GvL.cons {bs : List ABlk} {u v : AV} {us vs : List AV} (h : Gv bs u v) (t : GvL bs us vs) : GvL bs (u :: us) (v :: vs) := ⟨by simp [t.1], fun j a b ha hb => by
  cases j with
  | zero => simp at ha hb; subst ha hb; exact h
  | succ j => exact t.2 j a b (by simpa using ha) (by simpa using hb)⟩
theorem GvL.clo {bs : List ABlk} {us : List AV} [h : CloL us] : GvL bs us us := ⟨rfl, fun j a b ha hb => by rw [ha] at hb; injection hb with hb; subst hb; exact .clo (h.cl a (List.mem_of_getElem? ha))⟩
theorem Gv.agL {bs : List ABlk} {us vs : List AV} (h : GvL bs us vs) : Gv bs (.ag us) (.ag vs) := .ag h.1 h.2
theorem Gv.tpL {bs : List ABlk} {us vs : List AV} (h : GvL bs us vs) : Gv bs (.tp us) (.tp vs) := .tp h.1 h.2
theorem Gv.rv {bs : List ABlk} {E E' : Env} (hs : E.sees E') (hS : ∀ j g, j < bs.length → (E.L j).g = some g → ¬ E'.S g) (hw : E'.w = E.w) (hB : ∀ j blk, bs[j]? = some blk → BOK E (E.L j) blk) {u v : AV} (h : Gv bs u v) : ∀ {x : Value}, RV E u x → RV E' v x := by
  induction h with
  | clo h => exact fun hx => h.cl E E' _ hs hx
  | nil => intro x hx; rw [hx.v_inv]; exact .ex0 _ _ _ _ (Nat.le_refl _) (fun _ => rfl)
  | @vag X cs h =>
    intro x hx
    subst h
    rw [hx.v_inv]
    have := RVs.vals (E := E') X.toList
    exact .ag _ _ (by simp) (fun j c x hc hx => this.2 j c x hc (by simpa using hx))
  | @agv X cs h =>
    intro x hx
    subst h
    cases hx with
    | ag cs xs hl hx =>
      have hR : RVs E (X.toList.map .v) xs.toList := ⟨by simpa using hl, fun j c x hc hx' => hx j c x hc (by simpa using hx')⟩
      have := hR.vals_inv
      have e : xs = X := by rw [← Array.toArray_toList (xs := xs), this]
      rw [e]; exact .v _
  | @sl j n blk cs hb he hc =>
    intro x hx
    subst he
    have hjl : j < bs.length := (List.getElem?_eq_some_iff.1 hb).1
    have hok := hB j blk hb
    cases hx with
    | sl b n hD hn hm =>
      cases eg : (E.L j).g with
      | none => rw [(hok.none eg).1]; exact .ex0 _ _ _ _ hn (fun h => by cases h)
      | some g =>
        obtain ⟨cc, c1, c2, c3, c4, c5⟩ := hok.at eg hm
        have h3 := CloL.rvs (h := hc) hs c5
        refine .ex _ _ _ g 0 _ _ hn (fun h => by cases h) (by rw [hw]; exact hok.lt eg) (hS j g hjl eg) h3.1 (fun i y hy => ?_) h3.2
        rw [List.getElem?_take] at hy
        split at hy
        · rename_i hlt
          rw [hw, Nat.zero_add]
          have hy' : cc[i]? = some y := by simpa using hy
          unfold World.cell?
          simp [c1, hy']
        · cases hy
  | @ag us vs hl h ih =>
    intro x hx
    cases hx with
    | ag us xs hl' hx => exact .ag _ _ (hl'.trans hl) (fun j c x hc hx' => by
        have hlt : j < us.length := by rw [hl]; exact (List.getElem?_eq_some_iff.1 hc).1
        exact ih j _ c (List.getElem?_eq_getElem hlt) hc (hx j _ x (List.getElem?_eq_getElem hlt) hx'))
  | @tp us vs hl h ih =>
    intro x hx
    cases hx with
    | tp us xs hl' hx => exact .tp _ _ (hl'.trans hl) (fun j c x hc hx' => by
        have hlt : j < us.length := by rw [hl]; exact (List.getElem?_eq_some_iff.1 hc).1
        exact ih j _ c (List.getElem?_eq_getElem hlt) hc (hx j _ x (List.getElem?_eq_getElem hlt) hx'))
theorem Fresh.giv {P : Program} {f : FuncId} {cs : List AV} {v : Nat → AV} {v' : AV} {bs : List ABlk} (h : Fresh P f cs v bs) (hv : Gv bs (v 0) v') : Fresh P f cs (fun _ => v') [] := fun E0 xs hS hD hx => (h E0 xs hS hD hx).mono (by
  rintro en w' ⟨x, ls, rfl, h1, h2, h3, h4⟩
  refine ⟨x, ls, rfl, h1, fun j g hj => by simp at hj, fun i j g hi => by simp at hi, fun k E' hw hS' hD' => ⟨fun j blk hj => by simp at hj, ?_⟩⟩
  have hlt : ∀ g, E'.S g → g < E0.w.heap.size := fun g hg => (hS' g hg).elim id (fun ⟨j, hj, _⟩ => by simp at hj)
  let E2 : Env := { w := w', S := fun g => E'.S g ∨ ∃ j, j < bs.length ∧ (ls j).g = some g, L := ls, D := fun b => b < bs.length }
  obtain ⟨b1, b2⟩ := h4 0 E2 rfl (fun g hg => hg.imp (hlt g) id) (fun j hj => by rw [Nat.zero_add]; exact ⟨hj, rfl⟩)
  exact hv.rv (E := E2) ⟨by rw [hw]; exact Nat.le_refl _, fun g _ _ => by rw [hw], fun g _ hg => .inl hg⟩ (fun j g hj e hg => by have := h2 j g hj e; have := hlt g hg; omega) hw b1 b2)
end Go.Proofs.YtneeclacmhhblaaGreat


namespace Go.Proofs.YtneeclacmhhblaaGreat
open Go.RowKit
open Nat (reduceAdd reduceMul reduceSub)

structure Gen where
  n : Int
  s : Int
  vs : List UInt64
  ac : List UInt64
  bl : List Int
def genCs (g : Gen) : List AV := [.v (.int .i64 g.n), .v (.int .i64 g.s), .ex g.vs.length false (byA (flat g.vs)), .ex g.ac.length false (byA (flat g.ac)), .ex g.bl.length false (inA g.bl)]
structure GenOk (g : Gen) : Prop where
  n1 : 1 ≤ g.n
  n7 : g.n ≤ 7
  v1 : g.n ≤ (g.vs.length : Int)
  v10 : g.vs.length ≤ 10
  a1 : 1 ≤ g.ac.length
  a16 : g.ac.length ≤ 16
  b : g.bl.length = g.ac.length
  s0 : 0 ≤ g.s
  s1 : g.s ≤ 1099511627776
  bz : ∀ i, i < g.bl.length → 0 ≤ g.bl.getD i 0 ∧ g.bl.getD i 0 ≤ 1099511627776
theorem balance_ok (i : Int) : Fresh Tryz.prog 125 [.v (.int .i64 i)] (fun _ => .v (.agg (cellC 1 i 0))) [] := by
  refine Fresh.agw (us := [.v (.int .i64 1), .v (.int .i64 i), .v (.int .u8 0), .v (.int .u8 0), .v (.int .u8 0), .v (.int .u8 0), .v (.int .u8 0), .v (.int .u8 0), .v (.int .u8 0), .v (.int .u8 0)]) ?_ rfl
  refine Fresh.of (fn := Tryz.f125) Tryz.func125 rfl (lb rfl) fun w => ?_
  (
 apply Gol.sr; apply t1; exact s_alloc; dsimp only [reduceAdd, reduceMul]; exact dn; exact rfl; apply Gol.sr; apply t0; exact sM rfl; dsimp only [reduceAdd, reduceMul, reduceSub, na, ca, nbk, mc, ml]
 apply tq; apply s_bld; exact rfl; (focus (dsimp only [splB, cuB, spl, cu, Value.cells, nameC, List.map, List.take, List.drop, List.append, List.length, List.cons_append, List.nil_append, Nat.reduceAdd, List.take_succ_cons, List.take_zero, List.drop_succ_cons, List.drop_zero, List.take_nil, List.drop_nil, List.append_nil, List.length_cons, List.length_nil]; done))
 dsimp only [reduceAdd, reduceMul, reduceSub, na, ca, nbk, mc, ml]; apply n1; exact s_storeW rfl rfl rfl rfl rfl rfl
 dsimp only [reduceAdd, reduceMul]; exact dn; exact rfl; refine Gol.ret ?_)
  (apply RetQ.mk (by first | exact .inr rfl | exact .inl rfl); apply res_1 rfl; exact res_cell rfl rfl rfl (agu_cua _); exact out_val)
theorem stake_ok (i : Int) : Fresh Tryz.prog 126 [.v (.int .i64 i)] (fun _ => .v (.agg (cellC 3 i 0))) [] := by
  refine Fresh.agw (us := [.v (.int .i64 3), .v (.int .i64 i), .v (.int .u8 0), .v (.int .u8 0), .v (.int .u8 0), .v (.int .u8 0), .v (.int .u8 0), .v (.int .u8 0), .v (.int .u8 0), .v (.int .u8 0)]) ?_ rfl
  refine Fresh.of (fn := Tryz.f126) Tryz.func126 rfl (lb rfl) fun w => ?_
  (
 apply Gol.sr; apply t1; exact s_alloc; dsimp only [reduceAdd, reduceMul]; exact dn; exact rfl; apply Gol.sr; apply t0; exact sM rfl; dsimp only [reduceAdd, reduceMul, reduceSub, na, ca, nbk, mc, ml]
 apply tq; apply s_bld; exact rfl; (focus (dsimp only [splB, cuB, spl, cu, Value.cells, nameC, List.map, List.take, List.drop, List.append, List.length, List.cons_append, List.nil_append, Nat.reduceAdd, List.take_succ_cons, List.take_zero, List.drop_succ_cons, List.drop_zero, List.take_nil, List.drop_nil, List.append_nil, List.length_cons, List.length_nil]; done))
 dsimp only [reduceAdd, reduceMul, reduceSub, na, ca, nbk, mc, ml]; apply n1; exact s_storeW rfl rfl rfl rfl rfl rfl
 dsimp only [reduceAdd, reduceMul]; exact dn; exact rfl; refine Gol.ret ?_)
  (apply RetQ.mk (by first | exact .inr rfl | exact .inl rfl); apply res_1 rfl; exact res_cell rfl rfl rfl (agu_cua _); exact out_val)
theorem wi_yes {v lo hi : Int} (h : lo ≤ v ∧ v ≤ hi) : Fresh Tryz.prog 141 [.v (.int .i64 v), .v (.int .i64 lo), .v (.int .i64 hi)] (fun _ => .v (.bool true)) [] := by
  have d1 : decide (lo ≤ v) = true := decide_eq_true h.1
  have d2 : decide (v ≤ hi) = true := decide_eq_true h.2
  apply Fresh.bool
  · refine Fresh.of (fn := Tryz.f141) Tryz.func141 rfl (lb rfl) fun w => ?_
    (
 apply Gol.sr; apply t0; exact sA rfl; dsimp only [reduceAdd, reduceMul]; exact dn; exact rfl; apply Gol.sr; apply t0; exact sM rfl; apply t0
 exact sM rfl; apply t0; exact s_ge rfl rfl; apply t0; exact sM rfl; apply g0; exact wnt_g rfl rfl rfl (by simp only [*]; rfl); exact sM rfl
 apply g0; exact wnt_g rfl rfl rfl (by simp only [*]; rfl); exact sM rfl; apply g0; exact wnt_g rfl rfl rfl (by simp only [*]; rfl)
 exact s_le rfl rfl; apply t0; exact s_pick_t rfl (by assumption) rfl; apply t0; exact sA rfl; dsimp only [reduceAdd, reduceMul]; exact dn
 exact rfl; refine Gol.ret ?_)
    (apply RetQ.mk (by first | exact .inr rfl | exact .inl rfl); apply res_1 rfl; exact res_tmp rfl; exact out_val)
  · exact d2
theorem validGen_ok (g : Gen) (hg : GenOk g) : Fresh Tryz.prog 123 [.ag (genCs g)] (fun _ => .v (.bool true)) [] := by
  obtain ⟨h1, h2, h3, h4, h5, h6, h7, h8, h9, h10⟩ := hg
  have c1 := wi_yes (v := g.n) (lo := 1) (hi := 7) ⟨h1, h2⟩
  have c2 := wi_yes (v := (g.vs.length : Int)) (lo := 1) (hi := 10) ⟨by omega, by omega⟩
  have c3 := wi_yes (v := (g.ac.length : Int)) (lo := 1) (hi := 16) ⟨by omega, by omega⟩
  have c4 := wi_yes (v := g.s) (lo := 0) (hi := 1099511627776) ⟨h8, h9⟩
  have d1 : decide ((g.vs.length : Int) < g.n) = false := decide_eq_false (by omega)
  have d2 : decide (g.bl.length ≠ g.ac.length) = false := decide_eq_false (by omega)
  have d3 : (!decide (g.bl.length = g.ac.length)) = false := by simp [h7]
  unfold genCs
  refine Fresh.of (fn := Tryz.f123) Tryz.func123 rfl (lb rfl) fun w => ?_
  (
 apply Gol.sr; apply t1; exact s_box rfl rfl; apply t0; exact sA rfl; dsimp only [reduceAdd, reduceMul]; exact dn; exact rfl; refine Gol.seq ?_
 apply Gol.sr; apply t0; exact sF rfl; apply t0; exact s_load rfl rfl rfl; apply tq; exact s_call (f := 141) rfl (eC rfl (eC rfl (eC rfl eN))) (aC aL (aC aL (aC aL aN))) c1 (lb rfl)
 dsimp only [reduceAdd, reduceMul, reduceSub, na, ca, nbk, mc, ml]; apply t0; exact s_not rfl
 apply t0; exact sM rfl; apply g0; exact wnt_g rfl rfl rfl rfl; exact sF rfl; apply g0; exact wnt_g rfl rfl rfl rfl; exact s_load rfl rfl rfl
 apply g0; exact wnt_g rfl rfl rfl rfl; exact s_len rfl ln_ex; apply gq; exact wnt_g rfl rfl rfl rfl; exact s_call (f := 141) rfl (eC rfl (eC rfl (eC rfl eN))) (aC aL (aC aL (aC aL aN))) c2 (lb rfl)
 dsimp only [reduceAdd, reduceMul, reduceSub, na, ca, nbk, mc, ml]; apply g0; exact wnt_g rfl rfl rfl rfl
 exact s_not rfl; apply t0; exact s_pick_f rfl rfl rfl; apply t0; exact sM rfl; apply g0; exact wnt_g rfl rfl rfl rfl; exact sF rfl; apply g0
 exact wnt_g rfl rfl rfl rfl; exact s_load rfl rfl rfl; apply g0; exact wnt_g rfl rfl rfl rfl; exact s_len rfl ln_ex; apply g0; exact wnt_g rfl rfl rfl rfl
 exact sF rfl; apply g0; exact wnt_g rfl rfl rfl rfl; exact s_load rfl rfl rfl; apply g0; exact wnt_g rfl rfl rfl rfl; exact s_lt rfl rfl; apply t0
 exact s_pick_f rfl rfl rfl; dsimp only [reduceAdd, reduceMul]; exact dn; exact rfl)
  refine Gol.cond_f rfl d1 ?_
  (
 refine Gol.skip ?_; refine thn_n ?_; refine Gol.seq ?_; apply Gol.sr; apply t0; exact sF rfl
 apply t0; exact s_load rfl rfl rfl; apply t0; exact s_len rfl ln_ex; apply tq; exact s_call (f := 141) rfl (eC rfl (eC rfl (eC rfl eN))) (aC aL (aC aL (aC aL aN))) c3 (lb rfl)
 dsimp only [reduceAdd, reduceMul, reduceSub, na, ca, nbk, mc, ml]; apply t0; exact s_not rfl
 apply t0; exact sM rfl; apply g0; exact wnt_g rfl rfl rfl rfl; exact sF rfl; apply g0; exact wnt_g rfl rfl rfl rfl; exact s_load rfl rfl rfl
 apply g0; exact wnt_g rfl rfl rfl rfl; exact s_len rfl ln_ex; apply g0; exact wnt_g rfl rfl rfl rfl; exact sF rfl; apply g0; exact wnt_g rfl rfl rfl rfl
 exact s_load rfl rfl rfl; apply g0; exact wnt_g rfl rfl rfl rfl; exact s_len rfl ln_ex; apply g0; exact wnt_g rfl rfl rfl rfl; exact s_nen rfl rfl; apply t0
 exact s_pick_f rfl rfl rfl; apply t0; exact sM rfl; apply g0; exact wnt_g rfl rfl rfl (by simp only [*]; rfl); exact sF rfl; apply g0
 exact wnt_g rfl rfl rfl (by simp only [*]; rfl); exact s_load rfl rfl rfl; apply gq; exact wnt_g rfl rfl rfl (by simp only [*]; rfl); exact s_call (f := 141) rfl (eC rfl (eC rfl (eC rfl eN))) (aC aL (aC aL (aC aL aN))) c4 (lb rfl)
 dsimp only [reduceAdd, reduceMul, reduceSub, na, ca, nbk, mc, ml]; apply g0; exact wnt_g rfl rfl rfl (by simp only [*]; rfl)
 exact s_not rfl; apply t0; exact s_pick_f rfl (by assumption) rfl; dsimp only [reduceAdd, reduceMul]; exact dn; exact rfl)
  refine Gol.cond_f rfl rfl ?_
  (
 refine Gol.skip ?_; refine thn_n ?_; refine Gol.seq ?_; apply Gol.sr; apply t0; exact sA rfl
 dsimp only [reduceAdd, reduceMul]; exact dn; exact rfl; refine Gol.block ?_)
  refine Gol.loop (ι := Nat) (fun i => i ≤ g.bl.length) (fun i => g.bl.length - i) 400 (fun i => [(0, some ⟨genCs g, 51, 5⟩)]) (fun i => [(1, .pt 0 0), (3, .v (.int .i64 (i : Int)))]) 0 (Nat.zero_le _) ?_ ?_
  · unfold genCs
    (
 apply Le.mk3' []; apply RnT3.c; exact rfl; apply Rn3.r; exact Rn.pt rfl rfl; apply RnT3.c; exact rfl; apply Rn3.r; exact Rn.v rfl; exact RnT3.n; apply RnH3.c
 exact rfl; exact rfl; apply RnC.cl; rfl; exact inferInstance; exact rfl; exact rfl; exact RnH3.n; exact rfl; exact rfl)
  intro i hi
  unfold genCs
  (
 refine Gol.seq ?_; apply Gol.sr; apply t0; exact sM rfl; apply t0; exact sF rfl; apply t0; exact s_load rfl rfl rfl; apply t0
 exact s_len rfl ln_ex; apply t0; exact s_ltn rfl rfl; dsimp only [reduceAdd, reduceMul]; exact dn; exact rfl)
  refine Gol.cond rfl (fun h => ?_) (fun h => ?_)
  · have hlt : i < g.bl.length := of_decide_eq_true h
    have hne : inA g.bl ≠ [] := fun e => by have := inA_length g.bl; rw [e] at this; simp at this; omega
    have c5 := wi_yes (v := g.bl.getD i 0) (lo := 0) (hi := 1099511627776) (h10 i hlt)
    (
 refine Gol.skip ?_; refine thn_n ?_; refine Gol.seq ?_; refine Gol.block ?_; apply Gol.sr
 apply t0; exact sF rfl; apply t0; exact s_load rfl rfl rfl; apply t0; exact sM rfl; apply t0; exact s_ixe rfl rfl (by omega) (by assumption)
 apply t0; exact s_loadE rfl (in_get0 (by assumption)); apply tq; exact s_call (f := 141) rfl (eC rfl (eC rfl (eC rfl eN))) (aC aL (aC aL (aC aL aN))) c5 (lb rfl)
 dsimp only [reduceAdd, reduceMul, reduceSub, na, ca, nbk, mc, ml]; apply t0; exact s_not rfl
 dsimp only [reduceAdd, reduceMul]; exact dn; exact rfl)
    refine Gol.cond_f rfl rfl ?_
    (
 refine Gol.skip ?_; refine inBlk_n ?_; refine thn_n ?_; apply Gol.region; apply t0
 exact sM rfl; apply t0; exact s_addn rfl rfl (by simp <;> omega); apply t0; exact sA rfl; dsimp only [reduceAdd, reduceMul]; exact dn
 exact rfl)
    exact rnd_n (i + 1) hlt (by omega) (by (apply Le.mk3' []; apply RnT3.c; exact rfl; apply Rn3.r; exact Rn.pt rfl rfl; apply RnT3.c; exact rfl; apply Rn3.r; exact Rn.v rfl; exact RnT3.n; apply RnH3.c
                                            exact rfl; exact rfl; apply RnC.cl; rfl; exact inferInstance; exact rfl; exact rfl; exact RnH3.n; exact rfl; exact rfl))
  · (
 refine Gol.exit ?_; refine thn_x ?_; refine rnd_x ?_; refine inBlk_hit ?_; refine thn_n ?_
 apply Gol.sr; apply t0; exact sA rfl; dsimp only [reduceAdd, reduceMul]; exact dn; exact rfl; refine Gol.ret ?_)
    (apply RetQ.mk (by first | exact .inr rfl | exact .inl rfl); apply res_1 rfl; exact res_tmp rfl; exact out_val)
def balL (bl : List Int) : Nat → List Dl
  | 0 => []
  | i + 1 => putL (balL bl i) ⟨1, (i : Int), 0, bl.getD i 0⟩
def stkL (l0 : List Dl) (s : Int) : Nat → List Dl
  | 0 => l0
  | i + 1 => putL (stkL l0 s i) ⟨3, (i : Int), 0, s⟩
theorem balL_len (bl : List Int) : ∀ i, (balL bl i).length ≤ i
  | 0 => Nat.le_refl _
  | i + 1 => by have := balL_len bl i; have := putL_len (balL bl i) ⟨1, (i : Int), 0, bl.getD i 0⟩; rw [balL]; omega
theorem stkL_len (l0 : List Dl) (s : Int) : ∀ i, (stkL l0 s i).length ≤ l0.length + i
  | 0 => Nat.le_refl _
  | i + 1 => by have := stkL_len l0 s i; have := putL_len (stkL l0 s i) ⟨3, (i : Int), 0, s⟩; rw [stkL]; omega
def genSt (g : Gen) : Stt := ⟨stkL (balL g.bl g.bl.length) g.s g.vs.length, List.replicate g.ac.length 0, [], [], 0⟩
theorem genState_ok (g : Gen) (hg : GenOk g) : Fresh Tryz.prog 89 [.ag (genCs g)] (stO (genSt g)) (stB (genSt g)) := by
  obtain ⟨h1, h2, h3, h4, h5, h6, h7, h8, h9, h10⟩ := hg
  unfold genCs
  have hb0 : g.bl.length ≤ 16 := by omega
  refine Fresh.of (fn := Tryz.f89) Tryz.func89 rfl (lb rfl) fun w => ?_
  (
 apply Gol.sr; apply t1; exact s_box rfl rfl; apply t1; exact s_alloc; dsimp only [reduceAdd, reduceMul]; exact dn; exact rfl; apply Gol.sr; apply t0
 exact sF rfl; apply t0; exact s_load rfl rfl rfl; apply t0; exact s_len rfl ln_ex; apply t1; exact s_make rfl rfl rfl (by omega) (by omega); dsimp only [reduceAdd, reduceMul, reduceSub, na, ca, nbk, mc, ml]
 apply tq; apply s_bld; exact rfl; (focus (dsimp only [splB, cuB, spl, cu, Value.cells, nameC, List.map, List.take, List.drop, List.append, List.length, List.cons_append, List.nil_append, Nat.reduceAdd, List.take_succ_cons, List.take_zero, List.drop_succ_cons, List.drop_zero, List.take_nil, List.drop_nil, List.append_nil, List.length_cons, List.length_nil]; done))
 dsimp only [reduceAdd, reduceMul, reduceSub, na, ca, nbk, mc, ml]; apply t1; exact s_alloc
 apply n1; exact s_storeW rfl rfl rfl rfl rfl rfl; dsimp only [reduceAdd, reduceMul]; exact dn; exact rfl; refine Gol.seq ?_; apply Gol.sr
 apply t0; exact sA rfl; dsimp only [reduceAdd, reduceMul]; exact dn; exact rfl; refine Gol.block ?_)
  refine Gol.le (Le.nilC (B := 56) 0 138 11 rfl rfl rfl) ?_
  refine Gol.le (Le.nilC (B := 56) 2 141 19 rfl rfl rfl) ?_
  refine Gol.le (Le.nilC (B := 56) 3 23 8 rfl rfl rfl) ?_
  refine Gol.loop (ι := Nat) (fun i => i ≤ g.bl.length) (fun i => g.bl.length - i) 400 (fun i => [(0, some ⟨genCs g, 51, 5⟩), (56, some ⟨[.sl 300 (balL g.bl i).length, .sl 301 g.ac.length, .sl 302 0, .sl 303 0, .v (.int .i64 0)], 31, 5⟩), (300, some ⟨dsA (balL g.bl i), 138, 11⟩), (301, some ⟨inA (List.replicate g.ac.length 0), 3, 1⟩), (302, some ⟨lsA [], 141, 19⟩), (303, some ⟨byA (flat []), 23, 8⟩), (8, some ⟨[.v (.slice none 0 0), .v (.slice none 0 0), .v (.slice none 0 0), .v (.slice none 0 0), .v (.int .i64 0)], 31, 5⟩)])
    (fun i => [(1, .pt 0 0), (2, .pt 8 0), (3, .pt 56 0), (4, .v (.int .i64 (i : Int)))]) 0 (Nat.zero_le _) ?_ ?_
  · unfold genCs
    (
 apply Le.mk3' [(300, 80), (301, 40), (302, 88), (303, 96)]; apply RnT3.c; exact rfl; apply Rn3.r; exact Rn.pt rfl rfl; apply RnT3.c; exact rfl; apply Rn3.r
 exact Rn.pt rfl rfl; apply RnT3.c; exact rfl; apply Rn3.r; exact Rn.pt rfl rfl; apply RnT3.c; exact rfl; apply Rn3.r; exact Rn.v rfl; exact RnT3.n; apply RnH3.c
 exact rfl; exact rfl; apply RnC.cl; rfl; exact inferInstance; exact rfl; exact rfl; apply RnH3.c; exact rfl; exact rfl; apply RnC.l; apply Rn3L.cons; apply Rn3.r
 exact Rn.sl rfl rfl; apply Rn3L.cons; apply Rn3.r; exact Rn.sl rfl rfl; apply Rn3L.cons; apply Rn3.r; exact Rn.sl rfl rfl; apply Rn3L.cons; apply Rn3.r
 exact Rn.sl rfl rfl; apply Rn3L.cons; apply Rn3.r; exact Rn.v rfl; exact Rn3L.nil; exact rfl; exact rfl; apply RnH3.c; exact rfl; exact rfl; apply RnC.cl
 rfl; exact inferInstance; exact rfl; exact rfl; apply RnH3.c; exact rfl; exact rfl; apply RnC.cl; exact (by simp [inA]); exact inferInstance; exact rfl
 exact rfl; apply RnH3.c; exact rfl; exact rfl; apply RnC.cl; rfl; exact inferInstance; exact rfl; exact rfl; apply RnH3.c; exact rfl; exact rfl; apply RnC.cl
 rfl; exact inferInstance; exact rfl; exact rfl; apply RnH3.c; exact rfl; exact rfl; apply RnC.cl; rfl; exact inferInstance; exact rfl; exact rfl; exact RnH3.n
 exact rfl; exact rfl)
  intro i hi
  have hL := balL_len g.bl i
  unfold genCs
  (
 refine Gol.seq ?_; apply Gol.sr; apply t0; exact sM rfl; apply t0; exact sF rfl; apply t0; exact s_load rfl rfl rfl; apply t0
 exact s_len rfl ln_ex; apply t0; exact s_ltn rfl rfl; dsimp only [reduceAdd, reduceMul]; exact dn; exact rfl)
  refine Gol.cond rfl (fun h => ?_) (fun h => ?_)
  · have hlt : i < g.bl.length := of_decide_eq_true h
    have hne : inA g.bl ≠ [] := fun e => by have := inA_length g.bl; rw [e] at this; simp at this; omega
    have hp := refPut_ok ⟨balL g.bl i, List.replicate g.ac.length 0, [], [], 0⟩ 1 (i : Int) 0 (g.bl.getD i 0) ⟨by dsimp only; omega, by dsimp only; simp; omega, by simp, by simp⟩ (by have := h10 i hlt; unfold okZ; omega)
    have hN : balL g.bl (i + 1) = putL (balL g.bl i) ⟨1, (i : Int), 0, g.bl.getD i 0⟩ := rfl
    unfold stA stO stB stW at hp
    dsimp only at hp
    simp only [← hN, List.length_replicate, List.length_nil] at hp
    (
 refine Gol.skip ?_; refine thn_n ?_; refine Gol.seq ?_; refine Gol.block ?_; apply Gol.any
 kernel_rfl; apply t0; exact s_loadW rfl rfl rfl (agu_cua _); apply t0; exact sM rfl; apply tq; exact s_call (f := 125) rfl (eC rfl eN) (aC aL aN) (balance_ok (i : Int)) (lb rfl)
 dsimp only [reduceAdd, reduceMul, reduceSub, na, ca, nbk, mc, ml]; apply t0; exact sF rfl
 apply t0; exact s_load rfl rfl rfl; apply t0; exact sM rfl; apply t0; exact s_ixe rfl rfl (by omega) (by assumption); apply t0; exact s_loadE rfl (in_get0 (by assumption))
 apply tq; exact s_call (f := 124) rfl (eC rfl (eC rfl (eC rfl eN))) (aC (arg_ag (aC (arg_sl rfl) (aC (arg_sl rfl) (aC (arg_sl rfl) (aC (arg_sl rfl) (aC aL aN)))))) (aC aL (aC aL aN))) hp (lb rfl)
 dsimp only [reduceAdd, reduceMul, reduceSub, na, ca, nbk, mc, ml]; apply n1; exact s_storeW rfl rfl rfl rfl rfl rfl
 dsimp only [reduceAdd, reduceMul]; exact dn; kernel_rfl; exact rfl; refine inBlk_n ?_; refine thn_n ?_; apply Gol.region
 apply t0; exact sM rfl; apply t0; exact s_addn rfl rfl (by simp <;> omega); apply t0; exact sA rfl; dsimp only [reduceAdd, reduceMul]
 exact dn; exact rfl)
    exact rnd_n (i + 1) hlt (by omega) (by (apply Le.mk3' [(300, 504), (301, 505), (302, 506), (303, 507)]; apply RnT3.c; exact rfl; apply Rn3.r; exact Rn.pt rfl rfl; apply RnT3.c; exact rfl; apply Rn3.r
                                            exact Rn.pt rfl rfl; apply RnT3.c; exact rfl; apply Rn3.r; exact Rn.pt rfl rfl; apply RnT3.c; exact rfl; apply Rn3.r; exact Rn.v rfl; exact RnT3.n; apply RnH3.c
                                            exact rfl; exact rfl; apply RnC.cl; rfl; exact inferInstance; exact rfl; exact rfl; apply RnH3.c; exact rfl; exact rfl; apply RnC.l; apply Rn3L.cons; apply Rn3.r
                                            exact Rn.sl rfl rfl; apply Rn3L.cons; apply Rn3.r; exact Rn.sl rfl rfl; apply Rn3L.cons; apply Rn3.r; exact Rn.sl rfl rfl; apply Rn3L.cons; apply Rn3.r
                                            exact Rn.sl rfl rfl; apply Rn3L.cons; apply Rn3.r; exact Rn.v rfl; exact Rn3L.nil; exact rfl; exact rfl; apply RnH3.c; exact rfl; exact rfl; apply RnC.cl
                                            rfl; exact inferInstance; exact rfl; exact rfl; apply RnH3.c; exact rfl; exact rfl; apply RnC.cl; rfl; exact inferInstance; exact rfl; exact rfl; apply RnH3.c
                                            exact rfl; exact rfl; apply RnC.cl; rfl; exact inferInstance; exact rfl; exact rfl; apply RnH3.c; exact rfl; exact rfl; apply RnC.cl; rfl; exact inferInstance
                                            exact rfl; exact rfl; apply RnH3.c; exact rfl; exact rfl; apply RnC.cl; rfl; exact inferInstance; exact rfl; exact rfl; exact RnH3.n; exact rfl; exact rfl))
  have hge : ¬ i < g.bl.length := of_decide_eq_false h
  obtain rfl : i = g.bl.length := by omega
  generalize hB : balL g.bl g.bl.length = B at hL ⊢
  (
 refine Gol.exit ?_; refine thn_x ?_; refine rnd_x ?_; refine inBlk_hit ?_; refine thn_n ?_
 refine Gol.seq ?_; apply Gol.sr; apply t0; exact sA rfl; dsimp only [reduceAdd, reduceMul]; exact dn; exact rfl; refine Gol.block ?_)
  refine Gol.loop (ι := Nat) (fun i => i ≤ g.vs.length) (fun i => g.vs.length - i) 600 (fun i => [(0, some ⟨genCs g, 51, 5⟩), (56, some ⟨[.sl 300 (stkL B g.s i).length, .sl 301 g.ac.length, .sl 302 0, .sl 303 0, .v (.int .i64 0)], 31, 5⟩), (300, some ⟨dsA (stkL B g.s i), 138, 11⟩), (301, some ⟨inA (List.replicate g.ac.length 0), 3, 1⟩), (302, some ⟨lsA [], 141, 19⟩), (303, some ⟨byA (flat []), 23, 8⟩), (8, some ⟨[.v (.slice none 0 0), .v (.slice none 0 0), .v (.slice none 0 0), .v (.slice none 0 0), .v (.int .i64 0)], 31, 5⟩)])
    (fun i => [(1, .pt 0 0), (2, .pt 8 0), (3, .pt 56 0), (5, .v (.int .i64 (i : Int)))]) 0 (Nat.zero_le _) ?_ ?_
  · unfold genCs
    (
 apply Le.mk3' []; apply RnT3.c; exact rfl; apply Rn3.r; exact Rn.pt rfl rfl; apply RnT3.c; exact rfl; apply Rn3.r; exact Rn.pt rfl rfl; apply RnT3.c; exact rfl
 apply Rn3.r; exact Rn.pt rfl rfl; apply RnT3.c; exact rfl; apply Rn3.r; exact Rn.v rfl; exact RnT3.n; apply RnH3.c; exact rfl; exact rfl; apply RnC.cl
 rfl; exact inferInstance; exact rfl; exact rfl; apply RnH3.c; exact rfl; exact rfl; apply RnC.l; apply Rn3L.cons; apply Rn3.r; exact Rn.sl rfl rfl; apply Rn3L.cons
 apply Rn3.r; exact Rn.sl rfl rfl; apply Rn3L.cons; apply Rn3.r; exact Rn.sl rfl rfl; apply Rn3L.cons; apply Rn3.r; exact Rn.sl rfl rfl; apply Rn3L.cons
 apply Rn3.r; exact Rn.v rfl; exact Rn3L.nil; exact rfl; exact rfl; apply RnH3.c; exact rfl; exact rfl; apply RnC.cl; rfl; exact inferInstance; exact rfl
 exact rfl; apply RnH3.c; exact rfl; exact rfl; apply RnC.cl; rfl; exact inferInstance; exact rfl; exact rfl; apply RnH3.c; exact rfl; exact rfl; apply RnC.cl
 rfl; exact inferInstance; exact rfl; exact rfl; apply RnH3.c; exact rfl; exact rfl; apply RnC.cl; rfl; exact inferInstance; exact rfl; exact rfl; apply RnH3.c
 exact rfl; exact rfl; apply RnC.cl; rfl; exact inferInstance; exact rfl; exact rfl; exact RnH3.n; exact rfl; exact rfl)
  intro i hi
  have hL2 := stkL_len B g.s i
  unfold genCs
  (
 refine Gol.seq ?_; apply Gol.sr; apply t0; exact sM rfl; apply t0; exact sF rfl; apply t0; exact s_load rfl rfl rfl; apply t0
 exact s_len rfl ln_ex; apply t0; exact s_ltn rfl rfl; dsimp only [reduceAdd, reduceMul]; exact dn; exact rfl)
  refine Gol.cond rfl (fun h => ?_) (fun h => ?_)
  · have hlt : i < g.vs.length := of_decide_eq_true h
    have hp := refPut_ok ⟨stkL B g.s i, List.replicate g.ac.length 0, [], [], 0⟩ 3 (i : Int) 0 g.s ⟨by dsimp only; omega, by dsimp only; simp; omega, by simp, by simp⟩ (by unfold okZ; omega)
    have hN : stkL B g.s (i + 1) = putL (stkL B g.s i) ⟨3, (i : Int), 0, g.s⟩ := rfl
    unfold stA stO stB stW at hp
    dsimp only at hp
    simp only [← hN, List.length_replicate, List.length_nil] at hp
    (
 refine Gol.skip ?_; refine thn_n ?_; refine Gol.seq ?_; refine Gol.block ?_; apply Gol.any
 kernel_rfl; apply t0; exact s_loadW rfl rfl rfl (agu_cua _); apply t0; exact sM rfl; apply tq; exact s_call (f := 126) rfl (eC rfl eN) (aC aL aN) (stake_ok (i : Int)) (lb rfl)
 dsimp only [reduceAdd, reduceMul, reduceSub, na, ca, nbk, mc, ml]; apply t0; exact sF rfl
 apply t0; exact s_load rfl rfl rfl; apply tq; exact s_call (f := 124) rfl (eC rfl (eC rfl (eC rfl eN))) (aC (arg_ag (aC (arg_sl rfl) (aC (arg_sl rfl) (aC (arg_sl rfl) (aC (arg_sl rfl) (aC aL aN)))))) (aC aL (aC aL aN))) hp (lb rfl)
 dsimp only [reduceAdd, reduceMul, reduceSub, na, ca, nbk, mc, ml]; apply n1; exact s_storeW rfl rfl rfl rfl rfl rfl
 dsimp only [reduceAdd, reduceMul]; exact dn; kernel_rfl; exact rfl; refine inBlk_n ?_; refine thn_n ?_; apply Gol.region
 apply t0; exact sM rfl; apply t0; exact s_addn rfl rfl (by simp <;> omega); apply t0; exact sA rfl; dsimp only [reduceAdd, reduceMul]
 exact dn; exact rfl)
    exact rnd_n (i + 1) hlt (by omega) (by (apply Le.mk3' [(300, 680), (301, 681), (302, 682), (303, 683)]; apply RnT3.c; exact rfl; apply Rn3.r; exact Rn.pt rfl rfl; apply RnT3.c; exact rfl; apply Rn3.r
                                            exact Rn.pt rfl rfl; apply RnT3.c; exact rfl; apply Rn3.r; exact Rn.pt rfl rfl; apply RnT3.c; exact rfl; apply Rn3.r; exact Rn.v rfl; exact RnT3.n; apply RnH3.c
                                            exact rfl; exact rfl; apply RnC.cl; rfl; exact inferInstance; exact rfl; exact rfl; apply RnH3.c; exact rfl; exact rfl; apply RnC.l; apply Rn3L.cons; apply Rn3.r
                                            exact Rn.sl rfl rfl; apply Rn3L.cons; apply Rn3.r; exact Rn.sl rfl rfl; apply Rn3L.cons; apply Rn3.r; exact Rn.sl rfl rfl; apply Rn3L.cons; apply Rn3.r
                                            exact Rn.sl rfl rfl; apply Rn3L.cons; apply Rn3.r; exact Rn.v rfl; exact Rn3L.nil; exact rfl; exact rfl; apply RnH3.c; exact rfl; exact rfl; apply RnC.cl
                                            rfl; exact inferInstance; exact rfl; exact rfl; apply RnH3.c; exact rfl; exact rfl; apply RnC.cl; rfl; exact inferInstance; exact rfl; exact rfl; apply RnH3.c
                                            exact rfl; exact rfl; apply RnC.cl; rfl; exact inferInstance; exact rfl; exact rfl; apply RnH3.c; exact rfl; exact rfl; apply RnC.cl; rfl; exact inferInstance
                                            exact rfl; exact rfl; apply RnH3.c; exact rfl; exact rfl; apply RnC.cl; rfl; exact inferInstance; exact rfl; exact rfl; exact RnH3.n; exact rfl; exact rfl))
  · have hge : ¬ i < g.vs.length := of_decide_eq_false h
    obtain rfl : i = g.vs.length := by omega
    unfold stO stB genSt
    rw [hB]
    dsimp only
    simp only [List.length_replicate, List.length_nil]
    (
 refine Gol.exit ?_; refine thn_x ?_; refine rnd_x ?_; refine inBlk_hit ?_; refine thn_n ?_
 apply Gol.sr; apply t0; exact s_loadW rfl rfl rfl (agu_cua _); apply n1; exact s_storeW rfl rfl rfl rfl rfl rfl; dsimp only [reduceAdd, reduceMul]
 exact dn; exact rfl; refine Gol.ret ?_)
    (
 apply RetQ.mkM (by first | exact .inr rfl | exact .inl rfl); apply res_1 rfl; exact res_cell rfl rfl rfl (agu_cua _); apply out_ids [300, 301, 302, 303] rfl
 apply OBs.cons; exact rfl; exact inferInstance; apply OBs.cons; exact rfl; exact inferInstance; apply OBs.cons; exact rfl; exact inferInstance; apply OBs.cons
 exact rfl; exact inferInstance; exact OBs.nil; intro k; apply Ot.agL; apply OtL.cons; exact Ot.sl (j := 0) rfl; apply OtL.cons; exact Ot.sl (j := 1) rfl
 apply OtL.cons; exact Ot.sl (j := 2) rfl; apply OtL.cons; exact Ot.sl (j := 3) rfl; apply OtL.cons; exact Ot.v inferInstance; exact OtL.nil)
def accB (ac : List UInt64) (bl : List Int) : Nat → List UInt8
  | 0 => []
  | i + 1 => accB ac bl i ++ (nameB (ac.getD i 0) ++ beB (toU64 (bl.getD i 0)) 6)
theorem accB_len (ac : List UInt64) (bl : List Int) : ∀ i, (accB ac bl i).length = i * 14
  | 0 => rfl
  | i + 1 => by rw [accB, List.length_append, accB_len, List.length_append, nameB_length, beB_length]; omega
def genB (g : Gen) : List UInt8 := [1] ++ beB (toU64 g.n) 1 ++ beB (toU64 g.s) 6 ++ beB (toU64 (g.vs.length : Int)) 1 ++ flat g.vs ++ beB (toU64 (g.ac.length : Int)) 1 ++ accB g.ac g.bl g.ac.length
theorem encGen_ok (g : Gen) (hg : GenOk g) : Fresh Tryz.prog 87 [.ag (genCs g)] (fun k => .tp [.sl k (genB g).length, .v (.int .i64 0)]) [⟨byA (genB g), 5, 1⟩] := by
  have hv := validGen_ok g hg
  obtain ⟨h1, h2, h3, h4, h5, h6, h7, h8, h9, h10⟩ := hg
  unfold genCs at hv ⊢
  refine Fresh.of (fn := Tryz.f87) Tryz.func87 rfl (lb rfl) fun w => ?_
  (
 apply Gol.sr; apply t1; exact s_box rfl rfl; apply t0; exact sA rfl; apply t0; exact sA rfl; dsimp only [reduceAdd, reduceMul]; exact dn
 exact rfl; refine Gol.seq ?_; apply Gol.sr; apply t0; exact s_loadW rfl rfl rfl (agu_cua _); apply tq; exact s_call (f := 123) rfl (eC rfl eN) (aC aL aN) hv (lb rfl)
 dsimp only [reduceAdd, reduceMul, reduceSub, na, ca, nbk, mc, ml]; apply t0; exact s_not rfl
 dsimp only [reduceAdd, reduceMul]; exact dn; exact rfl)
  refine Gol.cond_f rfl rfl ?_
  (
 refine Gol.skip ?_; refine thn_n ?_; refine Gol.seq ?_; apply Gol.any; kernel_rfl
 apply tq; exact s_bytesP (PV.cons rfl rfl rfl PV.nil) rfl (by omega); dsimp only [reduceAdd, reduceMul, reduceSub, na, ca, nbk, mc, ml]
 apply t0; exact sF rfl; apply t0; exact s_load rfl rfl rfl; apply tq; exact s_call (f := 109) rfl (eC rfl (eC rfl (eC rfl eN))) (aC (arg_sl rfl) (aC aL (aC aL aN))) (refNum_ok [1] g.n 1 1 _ (by decide) rfl (by decide)) (lb rfl)
 dsimp only [reduceAdd, reduceMul, reduceSub, na, ca, nbk, mc, ml]; apply t0; exact sF rfl
 apply t0; exact s_load rfl rfl rfl; apply tq; exact s_call (f := 109) rfl (eC rfl (eC rfl (eC rfl eN))) (aC (arg_sl rfl) (aC aL (aC aL aN))) (refNum_ok ([1] ++ beB (toU64 g.n) 1) g.s 6 2 _ (by decide) (by simp [beB_length]) (by decide)) (lb rfl)
 dsimp only [reduceAdd, reduceMul, reduceSub, na, ca, nbk, mc, ml]; apply t0; exact sF rfl
 apply t0; exact s_load rfl rfl rfl; apply t0; exact s_len rfl ln_ex; apply tq; exact s_call (f := 109) rfl (eC rfl (eC rfl (eC rfl eN))) (aC (arg_sl rfl) (aC aL (aC aL aN))) (refNum_ok ([1] ++ beB (toU64 g.n) 1 ++ beB (toU64 g.s) 6) (g.vs.length : Int) 1 8 _ (by decide) (by simp [beB_length]) (by decide)) (lb rfl)
 dsimp only [reduceAdd, reduceMul, reduceSub, na, ca, nbk, mc, ml]; apply t0; exact sA rfl
 dsimp only [reduceAdd, reduceMul]; exact dn; kernel_rfl; exact rfl; refine thn_n ?_; refine Gol.seq ?_; apply Gol.sr
 apply t0; exact sA rfl; dsimp only [reduceAdd, reduceMul]; exact dn; exact rfl; refine Gol.block ?_)
  generalize hA : 1 :: (beB (toU64 g.n) 1 ++ beB (toU64 g.s) 6 ++ beB (toU64 ↑g.vs.length) 1) = A
  have hAl : A.length = 9 := by rw [← hA]; simp [beB_length]
  refine Gol.loop (ι := Nat) (fun i => i ≤ g.vs.length) (fun i => g.vs.length - i) 400 (fun i => [(0, some ⟨genCs g, 51, 5⟩), (300, some ⟨byA (A ++ flat (g.vs.take i)), 5, 1⟩)]) (fun i => [(1, .pt 0 0), (4, .sl 300 (9 + i * 8)), (5, .v (.int .i64 (i : Int)))]) 0 (Nat.zero_le _) ?_ ?_
  · unfold genCs
    (
 apply Le.mk3' [(300, 128)]; apply RnT3.c; exact rfl; apply Rn3.r; exact Rn.pt rfl rfl; apply RnT3.c; exact rfl; apply Rn3.r; exact Rn.sl rfl rfl; apply RnT3.c
 exact rfl; apply Rn3.r; exact Rn.v rfl; exact RnT3.n; apply RnH3.c; exact rfl; exact rfl; apply RnC.cl; rfl; exact inferInstance; exact rfl; exact rfl
 apply RnH3.c; exact rfl; exact rfl; apply RnC.cl; exact (by simp [flat_nil]); exact inferInstance; exact rfl; exact rfl; exact RnH3.n; exact rfl; exact rfl)
  intro i hi
  unfold genCs
  (
 refine Gol.seq ?_; apply Gol.sr; apply t0; exact sM rfl; apply t0; exact sF rfl; apply t0; exact s_load rfl rfl rfl; apply t0
 exact s_len rfl ln_ex; apply t0; exact s_ltn rfl rfl; dsimp only [reduceAdd, reduceMul]; exact dn; exact rfl)
  refine Gol.cond rfl (fun h => ?_) (fun h => ?_)
  · have hlt : i < g.vs.length := of_decide_eq_true h
    have hlen : (A ++ flat (g.vs.take i)).length = 9 + i * 8 := by rw [List.length_append, flat_length, List.length_take, hAl]; omega
    have hx : g.vs[i]? = some (g.vs.getD i 0) := by rw [List.getD_eq_getElem?_getD, List.getElem?_eq_getElem hlt]; rfl
    have hn := refName_ok (A ++ flat (g.vs.take i)) (g.vs.getD i 0) (9 + i * 8) false hlen (by omega)
    have hN : A ++ flat (g.vs.take i) ++ nameB (g.vs.getD i 0) = A ++ flat (g.vs.take (i + 1)) := by
      rw [List.append_assoc, ← flat_one, ← flat_append]
      congr 2
      rw [List.take_add_one, hx]; rfl
    rw [hN, show 9 + i * 8 + 8 = 9 + (i + 1) * 8 by omega] at hn
    (
 refine Gol.skip ?_; refine thn_n ?_; refine Gol.seq ?_; refine Gol.block ?_; apply Gol.region
 apply t0; exact sM rfl; apply t0; exact sF rfl; apply t0; exact s_load rfl rfl rfl; apply t0; exact sM rfl; apply t0; exact s_ixe rfl rfl (by omega) (flat_ne (by omega))
 apply t0; exact s_loadEN rfl (by simp only [byA_length, List.length_append, List.length_cons, List.length_nil, List.length_take, List.length_drop, List.length_replicate, List.length_map, Nat.mul_one, nameB_length, flat_length, List.length_set, inA_length, dsA_length, lsA_length, dA_length, lA_length, itsA_length, vtsA_length, rcsA_length] <;> omega) (agu_nm (by omega))
 apply tq; exact s_call (f := 110) rfl (eC rfl (eC rfl eN)) (aC (arg_sl rfl) (aC aL aN)) hn (lb rfl)
 dsimp only [reduceAdd, reduceMul, reduceSub, na, ca, nbk, mc, ml]; apply t0; exact sA rfl
 dsimp only [reduceAdd, reduceMul]; exact dn; exact rfl; refine inBlk_n ?_; refine thn_n ?_; apply Gol.region
 apply t0; exact sM rfl; apply t0; exact s_addn rfl rfl (by simp <;> omega); apply t0; exact sA rfl; dsimp only [reduceAdd, reduceMul]
 exact dn; exact rfl)
    exact rnd_n (i + 1) hlt (by omega) (by (apply Le.mk3' [(300, 488)]; apply RnT3.c; exact rfl; apply Rn3.r; exact Rn.pt rfl rfl; apply RnT3.c; exact rfl; apply Rn3.r; exact Rn.sl rfl rfl; apply RnT3.c
                                            exact rfl; apply Rn3.r; exact Rn.v rfl; exact RnT3.n; apply RnH3.c; exact rfl; exact rfl; apply RnC.cl; rfl; exact inferInstance; exact rfl; exact rfl
                                            apply RnH3.c; exact rfl; exact rfl; apply RnC.cl; rfl; exact inferInstance; exact rfl; exact rfl; exact RnH3.n; exact rfl; exact rfl))
  have hge : ¬ i < g.vs.length := of_decide_eq_false h
  obtain rfl : i = g.vs.length := by omega
  rw [List.take_length]
  (
 refine Gol.exit ?_; refine thn_x ?_; refine rnd_x ?_; refine inBlk_hit ?_; refine thn_n ?_
 apply Gol.sr; apply t0; exact sM rfl; apply t0; exact sF rfl; apply t0; exact s_load rfl rfl rfl; apply t0; exact s_len rfl ln_ex; apply tq
 exact s_call (f := 109) rfl (eC rfl (eC rfl (eC rfl eN))) (aC (arg_sl rfl) (aC aL (aC aL aN))) (refNum_ok (A ++ flat g.vs) (g.ac.length : Int) 1 (9 + g.vs.length * 8) _ (by decide) (by rw [List.length_append, flat_length, hAl]) (by omega)) (lb rfl)
 dsimp only [reduceAdd, reduceMul, reduceSub, na, ca, nbk, mc, ml]; apply t0; exact sA rfl
 dsimp only [reduceAdd, reduceMul]; exact dn; exact rfl; refine Gol.seq ?_; apply Gol.sr; apply t0; exact sA rfl; dsimp only [reduceAdd, reduceMul]
 exact dn; exact rfl; refine Gol.block ?_)
  have hG : genB g = (A ++ flat g.vs ++ beB (toU64 (g.ac.length : Int)) 1) ++ accB g.ac g.bl g.ac.length := by
    rw [← hA]; simp [genB]
  have hBl : (A ++ flat g.vs ++ beB (toU64 (g.ac.length : Int)) 1).length = 9 + g.vs.length * 8 + 1 := by
    rw [List.length_append, List.length_append, flat_length, hAl, beB_length]
  rw [hG, List.length_append, hBl]
  generalize A ++ flat g.vs ++ beB (toU64 (g.ac.length : Int)) 1 = B at hBl ⊢
  generalize hm : 9 + g.vs.length * 8 + 1 = m at hBl ⊢
  have hm2 : m ≤ 100 := by omega
  refine Gol.loop (ι := Nat) (fun i => i ≤ g.ac.length) (fun i => g.ac.length - i) 700 (fun i => [(0, some ⟨genCs g, 51, 5⟩), (300, some ⟨byA (B ++ accB g.ac g.bl i), 5, 1⟩)]) (fun i => [(1, .pt 0 0), (4, .sl 300 (m + i * 14)), (6, .v (.int .i64 (i : Int)))]) 0 (Nat.zero_le _) ?_ ?_
  · unfold genCs
    (
 apply Le.mk3' [(300, 472)]; apply RnT3.c; exact rfl; apply Rn3.r; exact Rn.pt rfl rfl; apply RnT3.c; exact rfl; apply Rn3.r; exact Rn.sl rfl rfl; apply RnT3.c
 exact rfl; apply Rn3.r; exact Rn.v rfl; exact RnT3.n; apply RnH3.c; exact rfl; exact rfl; apply RnC.cl; rfl; exact inferInstance; exact rfl; exact rfl
 apply RnH3.c; exact rfl; exact rfl; apply RnC.cl; exact (by simp [accB]); exact inferInstance; exact rfl; exact rfl; exact RnH3.n; exact rfl; exact rfl)
  intro i hi
  unfold genCs
  have hlen : (B ++ accB g.ac g.bl i).length = m + i * 14 := by rw [List.length_append, accB_len, hBl]
  (
 refine Gol.seq ?_; apply Gol.sr; apply t0; exact sM rfl; apply t0; exact sF rfl; apply t0; exact s_load rfl rfl rfl; apply t0
 exact s_len rfl ln_ex; apply t0; exact s_ltn rfl rfl; dsimp only [reduceAdd, reduceMul]; exact dn; exact rfl)
  refine Gol.cond rfl (fun h => ?_) (fun h => ?_)
  · have hlt : i < g.ac.length := of_decide_eq_true h
    have hb7 : i < g.bl.length := by omega
    have hne : inA g.bl ≠ [] := fun e => by have := inA_length g.bl; rw [e] at this; simp at this; omega
    have hn := refName_ok (B ++ accB g.ac g.bl i) (g.ac.getD i 0) (m + i * 14) false hlen (by omega)
    have hn2 := refNum_ok (B ++ accB g.ac g.bl i ++ nameB (g.ac.getD i 0)) (g.bl.getD i 0) 6 (m + i * 14 + 8) false (by decide) (by rw [List.length_append, hlen, nameB_length]) (by omega)
    have hN : B ++ accB g.ac g.bl i ++ nameB (g.ac.getD i 0) ++ beB (toU64 (g.bl.getD i 0)) 6 = B ++ accB g.ac g.bl (i + 1) := by
      rw [accB, List.append_assoc, List.append_assoc]
    rw [hN, show m + i * 14 + 8 + 6 = m + (i + 1) * 14 by omega] at hn2
    (
 refine Gol.skip ?_; refine thn_n ?_; refine Gol.seq ?_; refine Gol.block ?_; apply Gol.any
 kernel_rfl; apply t0; exact sM rfl; apply t0; exact sF rfl; apply t0; exact s_load rfl rfl rfl; apply t0; exact sM rfl; apply t0; exact s_ixe rfl rfl (by omega) (flat_ne (by omega))
 apply t0; exact s_loadEN rfl (by simp only [byA_length, List.length_append, List.length_cons, List.length_nil, List.length_take, List.length_drop, List.length_replicate, List.length_map, Nat.mul_one, nameB_length, flat_length, List.length_set, inA_length, dsA_length, lsA_length, dA_length, lA_length, itsA_length, vtsA_length, rcsA_length] <;> omega) (agu_nm (by omega))
 apply tq; exact s_call (f := 110) rfl (eC rfl (eC rfl eN)) (aC (arg_sl rfl) (aC aL aN)) hn (lb rfl)
 dsimp only [reduceAdd, reduceMul, reduceSub, na, ca, nbk, mc, ml]; apply t0; exact sF rfl
 apply t0; exact s_load rfl rfl rfl; apply t0; exact sM rfl; apply t0; exact s_ixe rfl rfl (by omega) (by assumption); apply t0; exact s_loadE rfl (in_get0 (by assumption))
 apply tq; exact s_call (f := 109) rfl (eC rfl (eC rfl (eC rfl eN))) (aC (arg_sl rfl) (aC aL (aC aL aN))) hn2 (lb rfl)
 dsimp only [reduceAdd, reduceMul, reduceSub, na, ca, nbk, mc, ml]; apply t0; exact sA rfl
 dsimp only [reduceAdd, reduceMul]; exact dn; kernel_rfl; exact rfl; refine inBlk_n ?_; refine thn_n ?_; apply Gol.region
 apply t0; exact sM rfl; apply t0; exact s_addn rfl rfl (by simp <;> omega); apply t0; exact sA rfl; dsimp only [reduceAdd, reduceMul]
 exact dn; exact rfl)
    exact rnd_n (i + 1) hlt (by omega) (by (apply Le.mk3' [(300, 836)]; apply RnT3.c; exact rfl; apply Rn3.r; exact Rn.pt rfl rfl; apply RnT3.c; exact rfl; apply Rn3.r; exact Rn.sl rfl rfl; apply RnT3.c
                                            exact rfl; apply Rn3.r; exact Rn.v rfl; exact RnT3.n; apply RnH3.c; exact rfl; exact rfl; apply RnC.cl; rfl; exact inferInstance; exact rfl; exact rfl
                                            apply RnH3.c; exact rfl; exact rfl; apply RnC.cl; rfl; exact inferInstance; exact rfl; exact rfl; exact RnH3.n; exact rfl; exact rfl))
  · have hge : ¬ i < g.ac.length := of_decide_eq_false h
    obtain rfl : i = g.ac.length := by omega
    rw [accB_len]
    (
 refine Gol.exit ?_; refine thn_x ?_; refine rnd_x ?_; refine inBlk_hit ?_; refine thn_n ?_
 apply Gol.sr; apply t0; exact sM rfl; apply t0; exact sA rfl; apply t0; exact sA rfl; dsimp only [reduceAdd, reduceMul]; exact dn
 exact rfl; refine Gol.ret ?_)
    (
 apply RetQ.mkM (by first | exact .inr rfl | exact .inl rfl); apply res_2 rfl; exact res_tmp rfl; exact res_tmp rfl; apply out_ids [300] rfl; apply OBs.cons
 exact rfl; exact inferInstance; exact OBs.nil; intro k; apply Ot.tpL; apply OtL.cons; exact Ot.sl (j := 0) rfl; apply OtL.cons; exact Ot.v inferInstance
 exact OtL.nil)
def genIt (S : List UInt8 → UInt64) (g : Gen) : It := ⟨S (genB g), 1, 0, 0, 0, 0, selF g.n 0 g.vs.length, genSt g, 0, []⟩
section
variable (S : List UInt8 → UInt64) (hS : HashF S)
include hS
theorem textName_ok (bs : List UInt8) (n : Nat) (f : Bool) (h : bs.length = n) (hn : n ≤ 281474976710656) : Fresh Tryz.prog 88 [.ex n f (byA bs)] (fun _ => .v (.agg (nameC (S bs)))) [] := by
  refine Fresh.of (fn := Tryz.f88) Tryz.func88 rfl (lb rfl) fun w => ?_
  (
 apply Gol.sr; apply t1; exact s_alloc; dsimp only [reduceAdd, reduceMul]; exact dn; exact rfl; apply Gol.sr; apply t0; exact sM rfl; apply tq
 exact s_call (f := 105) rfl (eC rfl eN) (aC aL aN) (hS.refSum bs n _ h hn) (lb rfl)
 dsimp only [reduceAdd, reduceMul, reduceSub, na, ca, nbk, mc, ml]; apply n1; exact s_storeW rfl rfl rfl rfl rfl rfl
 dsimp only [reduceAdd, reduceMul]; exact dn; exact rfl; refine Gol.ret ?_)
  (apply RetQ.mk (by first | exact .inr rfl | exact .inl rfl); apply res_1 rfl; exact res_cell rfl rfl rfl (agu_cuv _); exact out_val)
omit hS in
theorem genB_len (g : Gen) (hg : GenOk g) : (genB g).length ≤ 1000 := by
  obtain ⟨h1, h2, h3, h4, h5, h6, h7, h8, h9, h10⟩ := hg
  simp [genB, beB_length, flat_length, accB_len]
  omega
theorem genItem_raw (g : Gen) (hg : GenOk g) : Fresh Tryz.prog 55 [.ag (genCs g)] (fun k => .tp [.ag [
  .v (.int .u8 ((nb (S (genB g)) 7).toNat : Int)), .v (.int .u8 ((nb (S (genB g)) 6).toNat : Int)), .v (.int .u8 ((nb (S (genB g)) 5).toNat : Int)), .v (.int .u8 ((nb (S (genB g)) 4).toNat : Int)), .v (.int .u8 ((nb (S (genB g)) 3).toNat : Int)), .v (.int .u8 ((nb (S (genB g)) 2).toNat : Int)), .v (.int .u8 ((nb (S (genB g)) 1).toNat : Int)), .v (.int .u8 ((nb (S (genB g)) 0).toNat : Int)),
  .v (.int .i64 1), .v (.int .i64 0), .v (.int .u8 0), .v (.int .u8 0), .v (.int .u8 0), .v (.int .u8 0), .v (.int .u8 0), .v (.int .u8 0), .v (.int .u8 0), .v (.int .u8 0), .v (.slice none 0 0), .v (.slice none 0 0), .v (.int .i64 (selF g.n 0 g.vs.length)),
  .sl k (genSt g).cells.length, .sl (k + 1) (genSt g).seqs.length, .sl (k + 2) (genSt g).locks.length, .sl (k + 3) (genSt g).applied.length, .v (.int .i64 (genSt g).guilty), .v (.slice none 0 0), .v (.slice none 0 0)], .v (.int .i64 0)]) (stB (genSt g)) := by
  have he := encGen_ok g hg
  have hst := genState_ok g hg
  have ht := textName_ok S hS (genB g) (genB g).length false rfl (by have := genB_len g hg; omega)
  have hsel := refSelect_ok g.vs.length g.n 0 hg.v10
  unfold genCs at he hst ⊢
  unfold stO at hst
  unfold stB at hst ⊢
  refine Fresh.of (fn := Tryz.f55) Tryz.func55 rfl (lb rfl) fun w => ?_
  (
 apply Gol.sr; apply t1; exact s_box rfl rfl; apply t1; exact s_alloc; apply t0; exact sA rfl; dsimp only [reduceAdd, reduceMul]; exact dn
 exact rfl; apply Gol.sr; apply t0; exact s_loadW rfl rfl rfl (agu_cua _); apply tq; exact s_call (f := 87) rfl (eC rfl eN) (aC aL aN) he (lb rfl)
 dsimp only [reduceAdd, reduceMul, reduceSub, na, ca, nbk, mc, ml]; apply t0; exact sM rfl
 apply t0; exact s_extract rfl rfl; apply t0; exact s_extract rfl rfl; apply t0; exact sA rfl; apply t0; exact sA rfl; dsimp only [reduceAdd, reduceMul]
 exact dn; exact rfl; refine Gol.seq ?_; apply Gol.sr; apply t0; exact sM rfl; apply t0; exact s_nen rfl rfl; dsimp only [reduceAdd, reduceMul]
 exact dn; exact rfl)
  refine Gol.cond_f rfl rfl ?_
  (
 refine Gol.skip ?_; refine thn_n ?_; refine Gol.seq ?_; apply Gol.any; kernel_rfl
 apply t0; exact sM rfl; apply tq; exact s_call (f := 88) rfl (eC rfl eN) (aC (arg_sl rfl) aN) ht (lb rfl)
 dsimp only [reduceAdd, reduceMul, reduceSub, na, ca, nbk, mc, ml]; apply t0; exact s_loadW rfl rfl rfl (agu_cua _)
 apply tq; exact s_call (f := 89) rfl (eC rfl eN) (aC aL aN) hst (lb rfl)
 dsimp only [reduceAdd, reduceMul, reduceSub, na, ca, nbk, mc, ml]; apply t0; exact sF rfl
 apply t0; exact s_load rfl rfl rfl; apply t0; exact s_len rfl ln_ex; apply t0; exact sF rfl; apply t0; exact s_load rfl rfl rfl; apply tq; exact s_call (f := 90) rfl (eC rfl (eC rfl (eC rfl eN))) (aC aL (aC aL (aC aL aN))) hsel (lb rfl)
 dsimp only [reduceAdd, reduceMul, reduceSub, na, ca, nbk, mc, ml]; apply tq; apply s_bld; exact rfl; (focus (dsimp only [splB, cuB, spl, cu, Value.cells, nameC, List.map, List.take, List.drop, List.append, List.length, List.cons_append, List.nil_append, Nat.reduceAdd, List.take_succ_cons, List.take_zero, List.drop_succ_cons, List.drop_zero, List.take_nil, List.drop_nil, List.append_nil, List.length_cons, List.length_nil]; done))
 dsimp only [reduceAdd, reduceMul, reduceSub, na, ca, nbk, mc, ml]; apply n1; exact s_storeW rfl rfl rfl rfl rfl rfl
 apply t0; exact sA rfl; dsimp only [reduceAdd, reduceMul]; exact dn; kernel_rfl; exact rfl; refine thn_n ?_; refine Gol.ret ?_)
  (
 apply RetQ.mkM (by first | exact .inr rfl | exact .inl rfl); apply res_2 rfl; exact res_cell rfl rfl rfl (agu_cua _); exact res_tmp rfl; apply out_ids [120, 121, 122, 123] rfl
 apply OBs.cons; exact rfl; exact inferInstance; apply OBs.cons; exact rfl; exact inferInstance; apply OBs.cons; exact rfl; exact inferInstance; apply OBs.cons
 exact rfl; exact inferInstance; exact OBs.nil; intro k; apply Ot.tpL; apply OtL.cons; apply Ot.agL; apply OtL.cons; exact Ot.v inferInstance; apply OtL.cons
 exact Ot.v inferInstance; apply OtL.cons; exact Ot.v inferInstance; apply OtL.cons; exact Ot.v inferInstance; apply OtL.cons; exact Ot.v inferInstance
 apply OtL.cons; exact Ot.v inferInstance; apply OtL.cons; exact Ot.v inferInstance; apply OtL.cons; exact Ot.v inferInstance; apply OtL.cons; exact Ot.v inferInstance
 apply OtL.cons; exact Ot.v inferInstance; apply OtL.cons; exact Ot.v inferInstance; apply OtL.cons; exact Ot.v inferInstance; apply OtL.cons; exact Ot.v inferInstance
 apply OtL.cons; exact Ot.v inferInstance; apply OtL.cons; exact Ot.v inferInstance; apply OtL.cons; exact Ot.v inferInstance; apply OtL.cons; exact Ot.v inferInstance
 apply OtL.cons; exact Ot.v inferInstance; apply OtL.cons; exact Ot.v inferInstance; apply OtL.cons; exact Ot.v inferInstance; apply OtL.cons; exact Ot.v inferInstance
 apply OtL.cons; exact Ot.sl (j := 0) rfl; apply OtL.cons; exact Ot.sl (j := 1) rfl; apply OtL.cons; exact Ot.sl (j := 2) rfl; apply OtL.cons; exact Ot.sl (j := 3) rfl
 apply OtL.cons; exact Ot.v inferInstance; apply OtL.cons; exact Ot.v inferInstance; apply OtL.cons; exact Ot.v inferInstance; exact OtL.nil; apply OtL.cons
 exact Ot.v inferInstance; exact OtL.nil)
omit hS in
theorem nb_zero (k : Nat) : ((nb 0 k).toNat : Int) = 0 := by simp [nb]
theorem genItem_ok (g : Gen) (hg : GenOk g) : Fresh Tryz.prog 55 [.ag (genCs g)] (fun _ => .tp [.ag (itA (genIt S g)), .v (.int .i64 0)]) [] := by
  refine (genItem_raw S hS g hg).giv ?_
  unfold stB
  refine Gv.tpL (GvL.cons (Gv.agL ?_) GvL.clo)
  unfold itA genIt
  simp only [nb_zero]
  repeat' (first | exact GvL.nil | refine GvL.cons (by first | exact Gv.clo inferInstance | exact Gv.nil | exact Gv.sl rfl rfl inferInstance) ?_)
end
end Go.Proofs.YtneeclacmhhblaaGreat


namespace Go.Proofs.YtneeclacmhhblaaGreat
open Go.RowKit
attribute [local go_sem ↓] Go.wp_at_zero Go.wp_at_succ

def hi4 (c : UInt8) : Nat := c.toNat / 16
def lo4 (c : UInt8) : Nat := c.toNat % 16
theorem hi4_le (c : UInt8) : hi4 c ≤ 15 := by have := c.toNat_lt; unfold hi4; omega
theorem lo4_le (c : UInt8) : lo4 c ≤ 15 := by have := c.toNat_lt; unfold lo4; omega
theorem and15_u8 (c : UInt8) : bits .and .u8 (c.toNat : Int) 15 = (lo4 c : Int) := by
  have := c.toNat_lt
  have e : c.toNat &&& 15 = c.toNat % 16 := Nat.and_two_pow_sub_one_eq_mod c.toNat 4
  have h : bits .and .u8 ((c.toNat : Nat) : Int) ((15 : Nat) : Int) = ((c.toNat &&& 15 : Nat) : Int) := by
    show IntKind.u8.wrap ((BitVec.ofInt 8 ((c.toNat : Nat) : Int) &&& BitVec.ofInt 8 ((15 : Nat) : Int)).toNat : Int) = _
    rw [BitVec.toNat_and, BitVec.ofInt_natCast, BitVec.ofInt_natCast, BitVec.toNat_ofNat, BitVec.toNat_ofNat, IntKind.wrap_u8, Nat.mod_eq_of_lt (by omega : c.toNat < 2 ^ 8)]
    have : c.toNat &&& 15 ≤ 15 := Nat.and_le_right
    simp only [Nat.reducePow, Nat.reduceMod]
    omega
  unfold lo4
  rw [← e]
  exact h
theorem hi4_shr (c : UInt8) : ((c.toNat : Int) / 16) = (hi4 c : Int) := by unfold hi4; omega

attribute [local go_sem] hi4_shr and15_u8
theorem wrap_hi (c : UInt8) : IntKind.i64.wrap (hi4 c : Int) = (hi4 c : Int) := by have := hi4_le c; rw [IntKind.wrap_i64]; omega
theorem wrap_lo (c : UInt8) : IntKind.i64.wrap (lo4 c : Int) = (lo4 c : Int) := by have := lo4_le c; rw [IntKind.wrap_i64]; omega
attribute [local go_sem] nameC_at wrap_hi wrap_lo
end Go.Proofs.YtneeclacmhhblaaGreat


namespace Go.Proofs.YtneeclacmhhblaaGreat
open Go.RowKit
open Nat (reduceAdd reduceMul reduceSub)

section
variable (S : List UInt8 → UInt64) (hS : HashF S)
include hS
def startN (seed : UInt64) (c : Int) : UInt64 := S (0x20 :: (nameB seed ++ [toU8 c]))
theorem refStart_ok (seed : UInt64) (c : Int) : Fresh Tryz.prog 147 [.v (.agg (nameC seed)), .v (.int .i64 c)] (fun _ => .v (.agg (nameC (startN S seed c)))) [] := by
  refine Fresh.of (fn := Tryz.f147) Tryz.func147 rfl (lb rfl) fun w => ?_
  (
 apply Gol.sr; apply t1; exact s_box rfl rfl; apply t1; exact s_alloc; dsimp only [reduceAdd, reduceMul]; exact dn; exact rfl; apply Gol.sr; apply tq
 exact s_bytesP PV.nil rfl (by omega); dsimp only [reduceAdd, reduceMul, reduceSub, na, ca, nbk, mc, ml]
 apply t0; exact s_slA rfl rfl rfl rfl (by simp) (by omega) (by omega) (by omega); apply tq; exact s_app rfl rfl rfl (rd_name rfl rfl) rfl rfl rfl OneL.one (by omega)
 dsimp only [reduceAdd, reduceMul, reduceSub, na, ca, nbk, mc, ml]; apply t0; exact sM rfl
 apply t0; exact s_cu8 rfl; apply tq; exact s_bytesP (PV.cons rfl rfl rfl PV.nil) rfl (by omega); dsimp only [reduceAdd, reduceMul, reduceSub, na, ca, nbk, mc, ml]
 apply tq; exact s_app rfl rfl rfl (rd_sl rfl rfl) rfl rfl rfl OneL.one (by omega); dsimp only [reduceAdd, reduceMul, reduceSub, na, ca, nbk, mc, ml]
 apply tq; exact s_call (f := 72) rfl (eC rfl (eC rfl eN)) (aC aL (aC (arg_sl rfl) aN)) (hS.refTagged 32 (nameB seed ++ [toU8 c]) _ _ rfl (by decide)) (lb rfl)
 dsimp only [reduceAdd, reduceMul, reduceSub, na, ca, nbk, mc, ml]; apply n1; exact s_storeW rfl rfl rfl rfl rfl rfl
 dsimp only [reduceAdd, reduceMul]; exact dn; exact rfl; refine Gol.ret ?_)
  (apply RetQ.mk (by first | exact .inr rfl | exact .inl rfl); apply res_1 rfl; exact res_cell rfl rfl rfl (agu_cuv _); exact out_val)
omit hS
def chainN (v : UInt64) (c from' : Int) : Nat → UInt64
  | 0 => v
  | n + 1 => S (0x21 :: (nameB (chainN v c from' n) ++ [toU8 c, toU8 (from' + n)]))
include hS
theorem refChain_ok (v : UInt64) (c a b : Int) (h0 : 0 ≤ a) (h1 : a ≤ 15) (h2 : b ≤ 15) (h3 : 0 ≤ b) : Fresh Tryz.prog 146 [.v (.agg (nameC v)), .v (.int .i64 c), .v (.int .i64 a), .v (.int .i64 b)] (fun _ => .v (.agg (nameC (chainN S v c a (b - a).toNat)))) [] := by
  refine Fresh.of (fn := Tryz.f146) Tryz.func146 rfl (lb rfl) fun w => ?_
  (
 apply Gol.sr; apply t1; exact s_box rfl rfl; apply t1; exact s_alloc; dsimp only [reduceAdd, reduceMul]; exact dn; exact rfl; refine Gol.seq ?_
 apply Gol.sr; apply t0; exact sM rfl; apply t0; exact sA rfl; dsimp only [reduceAdd, reduceMul]; exact dn; exact rfl; refine Gol.block ?_)
  refine Gol.loop (ι := Nat) (fun k => k ≤ (b - a).toNat) (fun k => (b - a).toNat - k) 32 (fun k => [(8, some ⟨cu (.v (.agg (nameC 0))), 23, 8⟩), (0, some ⟨cu (.v (.agg (nameC (chainN S v c a k)))), 23, 8⟩)])
    (fun k => [(9, .v (.int .i64 (a + (k : Int)))), (8, .pt 8 0), (4, .pt 0 0), (1, .v (.int .i64 c)), (3, .v (.int .i64 b))]) 0 (Nat.zero_le _) ?_ ?_
  · (
 apply Le.mk' []; apply RnT.c; exact rfl; apply Rn.v; congr 1; omega; apply RnT.c; exact rfl; exact Rn.pt rfl rfl; apply RnT.c; exact rfl; exact Rn.pt rfl rfl
 apply RnT.c; exact rfl; exact Rn.v rfl; apply RnT.c; exact rfl; exact Rn.v rfl; exact RnT.n; apply RnH.c; exact rfl; exact rfl; rfl; exact rfl; exact rfl
 apply RnH.c; exact rfl; exact rfl; rfl; exact rfl; exact rfl; exact RnH.n; exact rfl; exact rfl)
  · intro k hk
    (
 refine Gol.seq ?_; apply Gol.sr; apply t0; exact sM rfl; apply t0; exact sM rfl; apply t0; exact s_lt rfl rfl; dsimp only [reduceAdd, reduceMul]
 exact dn; exact rfl)
    refine Gol.cond rfl (fun h => ?_) (fun h => ?_)
    · have hlt : a + (k : Int) < b := of_decide_eq_true h
      (
 refine Gol.skip ?_; refine thn_n ?_; refine Gol.seq ?_; refine Gol.block ?_; apply Gol.region
 apply t0; exact s_ixa rfl rfl (by decide); apply t0; exact s_load rfl rfl rfl; apply t0; exact s_ixa rfl rfl (by decide); apply t0; exact s_load rfl rfl rfl
 apply t0; exact s_ixa rfl rfl (by decide); apply t0; exact s_load rfl rfl rfl; apply t0; exact s_ixa rfl rfl (by decide); apply t0; exact s_load rfl rfl rfl
 apply t0; exact s_ixa rfl rfl (by decide); apply t0; exact s_load rfl rfl rfl; apply t0; exact s_ixa rfl rfl (by decide); apply t0; exact s_load rfl rfl rfl
 apply t0; exact s_ixa rfl rfl (by decide); apply t0; exact s_load rfl rfl rfl; apply t0; exact s_ixa rfl rfl (by decide); apply t0; exact s_load rfl rfl rfl
 apply t0; exact sM rfl; apply t0; exact s_cu8 rfl; apply t0; exact sM rfl; apply t0; exact s_cu8 rfl; apply tq; exact s_bytesP (PV.cons rfl rfl rfl (PV.cons rfl rfl rfl (PV.cons rfl rfl rfl (PV.cons rfl rfl rfl (PV.cons rfl rfl rfl (PV.cons rfl rfl rfl (PV.cons rfl rfl rfl (PV.cons rfl rfl rfl (PV.cons rfl rfl rfl (PV.cons rfl rfl rfl (PV.cons rfl rfl rfl PV.nil))))))))))) rfl (by omega)
 dsimp only [reduceAdd, reduceMul, reduceSub, na, ca, nbk, mc, ml]; apply tq; exact s_call (f := 105) rfl (eC rfl eN) (aC (arg_sl rfl) aN) (hS.refSum (33 :: (nameB (chainN S v c a k) ++ [toU8 c, toU8 (a + k)])) _ _ rfl (by decide)) (lb rfl)
 dsimp only [reduceAdd, reduceMul, reduceSub, na, ca, nbk, mc, ml]; apply n1; exact s_storeW rfl rfl rfl rfl rfl rfl
 dsimp only [reduceAdd, reduceMul]; exact dn; exact rfl; refine inBlk_n ?_; refine thn_n ?_; apply Gol.region
 apply t0; exact sM rfl; apply t0; exact s_add rfl rfl (by omega); apply t0; exact sA rfl; dsimp only [reduceAdd, reduceMul]; exact dn
 exact rfl)
      refine rnd_n (k + 1) (by omega) (by omega) ?_
      (
 apply Le.mk' []; apply RnT.c; exact rfl; apply Rn.v; congr 1; omega; apply RnT.c; exact rfl; exact Rn.pt rfl rfl; apply RnT.c; exact rfl; exact Rn.pt rfl rfl
 apply RnT.c; exact rfl; exact Rn.v rfl; apply RnT.c; exact rfl; exact Rn.v rfl; exact RnT.n; apply RnH.c; exact rfl; exact rfl; rfl; exact rfl; exact rfl
 apply RnH.c; exact rfl; exact rfl; rfl; exact rfl; exact rfl; exact RnH.n; exact rfl; exact rfl)
    · have hge : ¬ a + (k : Int) < b := of_decide_eq_false h
      obtain rfl : k = (b - a).toNat := by omega
      (
 refine Gol.exit ?_; refine thn_x ?_; refine rnd_x ?_; refine inBlk_hit ?_; refine thn_n ?_
 apply Gol.sr; apply t0; exact s_loadW rfl rfl rfl (agu_cuv _); apply n1; exact s_storeW rfl rfl rfl rfl rfl rfl; dsimp only [reduceAdd, reduceMul]
 exact dn; exact rfl; refine Gol.ret ?_)
      (apply RetQ.mk (by first | exact .inr rfl | exact .inl rfl); apply res_1 rfl; exact res_cell rfl rfl rfl (agu_cuv _); exact out_val)
omit hS
theorem flat_take (ns : List UInt64) (i : Nat) (h : i < ns.length) : byA (flat (ns.take i)) ++ byA (nameB (ns.getD i 0)) = byA (flat (ns.take (i + 1))) := by
  rw [← byA_append, List.take_succ_eq_append_getElem h, flat_append, flat_one, List.getD_eq_getElem?_getD, List.getElem?_eq_getElem h]; rfl
include hS
theorem ends_ok (ns : List UInt64) (n : Nat) (f : Bool) (hn : ns.length = n) (h : n ≤ 1000) : Fresh Tryz.prog 148 [.ex n f (byA (flat ns))] (fun _ => .v (.agg (nameC (S (0x22 :: flat ns))))) [] := by
  refine Fresh.of (fn := Tryz.f148) Tryz.func148 rfl (lb rfl) fun w => ?_
  (
 apply Gol.sr; apply t1; exact s_alloc; dsimp only [reduceAdd, reduceMul]; exact dn; exact rfl; apply Gol.sr; apply t0; exact sA rfl; dsimp only [reduceAdd, reduceMul]
 exact dn; exact rfl; refine Gol.seq ?_; apply Gol.sr; apply t0; exact sA rfl; dsimp only [reduceAdd, reduceMul]; exact dn
 exact rfl; refine Gol.block ?_)
  refine Gol.le (Le.nilOwn (i := 3) 5 1 rfl) ?_
  refine Gol.loop (ι := Nat) (fun i => i ≤ n) (fun i => n - i) 32 (fun i => [(24, some ⟨byA (flat (ns.take i)), 5, 1⟩), (0, some ⟨cu (.v (.agg (nameC 0))), 23, 8⟩)])
    (fun i => [(4, .v (.int .i64 (i : Int))), (3, .sl 24 (i * 8)), (2, .pt 0 0), (0, .ex n f (byA (flat ns)))]) 0 (Nat.zero_le _) ?_ ?_
  · (
 apply Le.mk' []; apply RnT.c; exact rfl; exact Rn.v rfl; apply RnT.c; exact rfl; exact Rn.sl rfl rfl; apply RnT.c; exact rfl; exact Rn.pt rfl rfl; apply RnT.c
 exact rfl; exact Rn.clo inferInstance rfl; exact RnT.n; apply RnH.c; exact rfl; exact rfl; rfl; exact rfl; exact rfl; apply RnH.c; exact rfl; exact rfl
 rfl; exact rfl; exact rfl; exact RnH.n; exact rfl; exact rfl)
  · intro i hi
    have hl : (ns.take i).length = i := by rw [List.length_take]; omega
    (
 refine Gol.seq ?_; apply Gol.sr; apply t0; exact sM rfl; apply t0; exact sM rfl; apply t0; exact s_len rfl ln_ex; apply t0; exact s_ltn rfl rfl
 dsimp only [reduceAdd, reduceMul]; exact dn; exact rfl)
    refine Gol.cond rfl (fun h => ?_) (fun h => ?_)
    · have hlt : i < n := of_decide_eq_true h
      have hc := flat_take ns i (by omega)
      (
 refine Gol.skip ?_; refine thn_n ?_; refine Gol.seq ?_; refine Gol.block ?_; apply Gol.region
 apply t0; exact sM rfl; apply t0; exact sM rfl; apply t0; exact sM rfl; apply t0; exact s_ixe rfl rfl (by omega) (flat_ne (by omega)); apply t0
 exact s_slAE rfl rfl rfl rfl (by simp) (by omega) (by omega) (by omega); apply tq; exact s_app rfl rfl rfl (rd_nmE rfl rfl (by omega)) (by simp only [byA_length, List.length_append, List.length_cons, List.length_nil, List.length_take, List.length_drop, List.length_replicate, List.length_map, Nat.mul_one, nameB_length, flat_length, List.length_set, inA_length] <;> omega) rfl rfl OneL.one (by omega)
 dsimp only [reduceAdd, reduceMul, reduceSub, na, ca, nbk, mc, ml]; apply t0; exact sA rfl
 dsimp only [reduceAdd, reduceMul]; exact dn; exact rfl; refine inBlk_n ?_; refine thn_n ?_; apply Gol.region
 apply t0; exact sM rfl; apply t0; exact s_addn rfl rfl (by simp <;> omega); apply t0; exact sA rfl; dsimp only [reduceAdd, reduceMul]
 exact dn; exact rfl)
      refine rnd_n (i + 1) (by omega) (by omega) ?_
      (
 apply Le.mk' [(24, 104)]; apply RnT.c; exact rfl; exact Rn.v rfl; apply RnT.c; exact rfl; apply Rn.sl; exact rfl; omega; apply RnT.c; exact rfl; exact Rn.pt rfl rfl
 apply RnT.c; exact rfl; exact Rn.clo inferInstance rfl; exact RnT.n; apply RnH.c; exact rfl; exact rfl; exact hc; exact rfl; exact rfl; apply RnH.c; exact rfl
 exact rfl; rfl; exact rfl; exact rfl; exact RnH.n; exact rfl; exact rfl)
    · have hge : ¬ i < n := of_decide_eq_false h
      obtain rfl : i = n := by omega
      have ht : ns.take i = ns := List.take_of_length_le (by omega)
      rw [ht]
      (
 refine Gol.exit ?_; refine thn_x ?_; refine rnd_x ?_; refine inBlk_hit ?_; refine thn_n ?_
 apply Gol.sr; apply t0; exact sM rfl; apply tq; exact s_call (f := 72) rfl (eC rfl (eC rfl eN)) (aC aL (aC (arg_sl rfl) aN)) (hS.refTagged 34 (flat ns) _ _ (by rw [flat_length]; omega) (by omega)) (lb rfl)
 dsimp only [reduceAdd, reduceMul, reduceSub, na, ca, nbk, mc, ml]; apply n1; exact s_storeW rfl rfl rfl rfl rfl rfl
 dsimp only [reduceAdd, reduceMul]; exact dn; exact rfl; refine Gol.ret ?_)
      (apply RetQ.mk (by first | exact .inr rfl | exact .inl rfl); apply res_1 rfl; exact res_cell rfl rfl rfl (agu_cuv _); exact out_val)
omit hS
def listF (f : Nat → UInt64) (n : Nat) : List UInt64 := (List.range n).map f
theorem listF_length (f : Nat → UInt64) (n : Nat) : (listF f n).length = n := by simp [listF]
theorem listF_next (f : Nat → UInt64) (n : Nat) : byA (flat (listF f n)) ++ (cu (.v (.agg (nameC (f n)))) ++ []) = byA (flat (listF f (n + 1))) := by
  rw [List.append_nil, cu_name, ← byA_append]
  unfold listF
  rw [List.range_succ, List.map_append, flat_append]
  rfl
def endN (seed : UInt64) (c : Nat) : UInt64 := chainN S (startN S seed c) c 0 15
include hS
theorem refPublic_ok (seed : UInt64) : Fresh Tryz.prog 128 [.v (.agg (nameC seed))] (fun _ => .v (.agg (nameC (S (0x22 :: flat (listF (endN S seed) 18)))))) [] := by
  refine Fresh.of (fn := Tryz.f128) Tryz.func128 rfl (lb rfl) fun w => ?_
  (
 apply Gol.sr; apply t1; exact s_box rfl rfl; apply t1; exact s_alloc; dsimp only [reduceAdd, reduceMul]; exact dn; exact rfl; apply Gol.sr; apply t0
 exact sA rfl; dsimp only [reduceAdd, reduceMul]; exact dn; exact rfl; refine Gol.seq ?_; apply Gol.sr; apply t0; exact sA rfl
 dsimp only [reduceAdd, reduceMul]; exact dn; exact rfl; refine Gol.block ?_)
  refine Gol.le (Le.nilOwn (i := 3) 23 8 rfl) ?_
  refine Gol.loop (ι := Nat) (fun c => c ≤ 18) (fun c => 18 - c) 40 (fun c => [(32, some ⟨byA (flat (listF (endN S seed) c)), 23, 8⟩), (8, some ⟨cu (.v (.agg (nameC 0))), 23, 8⟩), (0, some ⟨cu (.v (.agg (nameC seed))), 23, 8⟩)])
    (fun c => [(4, .v (.int .i64 (c : Int))), (3, .sl 32 c), (2, .pt 8 0), (1, .pt 0 0)]) 0 (Nat.zero_le _) ?_ ?_
  · (
 apply Le.mk' []; apply RnT.c; exact rfl; exact Rn.v rfl; apply RnT.c; exact rfl; exact Rn.sl rfl rfl; apply RnT.c; exact rfl; exact Rn.pt rfl rfl; apply RnT.c
 exact rfl; exact Rn.pt rfl rfl; exact RnT.n; apply RnH.c; exact rfl; exact rfl; rfl; exact rfl; exact rfl; apply RnH.c; exact rfl; exact rfl; rfl; exact rfl
 exact rfl; apply RnH.c; exact rfl; exact rfl; rfl; exact rfl; exact rfl; exact RnH.n; exact rfl; exact rfl)
  · intro c hc
    have hl := listF_length (endN S seed) c
    (
 refine Gol.seq ?_; apply Gol.sr; apply t0; exact sM rfl; apply t0; exact s_ltn rfl rfl; dsimp only [reduceAdd, reduceMul]
 exact dn; exact rfl)
    refine Gol.cond rfl (fun h => ?_) (fun h => ?_)
    · have hlt : c < 18 := of_decide_eq_true h
      (
 refine Gol.skip ?_; refine thn_n ?_; refine Gol.seq ?_; refine Gol.block ?_; apply Gol.region
 apply t0; exact sM rfl; apply t0; exact s_loadW rfl rfl rfl (agu_cuv _); apply t0; exact sM rfl; apply tq; exact s_call (f := 147) rfl (eC rfl (eC rfl eN)) (aC aL (aC aL aN)) (refStart_ok S hS seed c) (lb rfl)
 dsimp only [reduceAdd, reduceMul, reduceSub, na, ca, nbk, mc, ml]; apply t0; exact sM rfl
 apply tq; exact s_call (f := 146) rfl (eC rfl (eC rfl (eC rfl (eC rfl eN)))) (aC aL (aC aL (aC aL (aC aL aN)))) (refChain_ok S hS _ c 0 15 (by decide) (by decide) (by decide) (by decide)) (lb rfl)
 dsimp only [reduceAdd, reduceMul, reduceSub, na, ca, nbk, mc, ml]; apply t1; exact s_lit (PA.cons rfl rfl rfl PA.nil) rfl (by first | omega | exact lb rfl | decide | (simp <;> omega) | (dsimp <;> omega))
 apply tq; exact s_app rfl rfl rfl (rd_sl rfl rfl) (by simp only [byA_length, List.length_append, List.length_cons, List.length_nil, List.length_take, List.length_drop, List.length_replicate, List.length_map, Nat.mul_one, nameB_length, flat_length, List.length_set, inA_length] <;> omega) rfl rfl rfl (by omega)
 dsimp only [reduceAdd, reduceMul, reduceSub, na, ca, nbk, mc, ml]; apply t0; exact sA rfl
 dsimp only [reduceAdd, reduceMul]; exact dn; exact rfl; refine inBlk_n ?_; refine thn_n ?_; apply Gol.region
 apply t0; exact sM rfl; apply t0; exact s_addn rfl rfl (by simp <;> omega); apply t0; exact sA rfl; dsimp only [reduceAdd, reduceMul]
 exact dn; exact rfl)
      refine rnd_n (c + 1) (by omega) (by omega) ?_
      (
 apply Le.mk' [(32, 112)]; apply RnT.c; exact rfl; exact Rn.v rfl; apply RnT.c; exact rfl; exact Rn.sl rfl rfl; apply RnT.c; exact rfl; exact Rn.pt rfl rfl
 apply RnT.c; exact rfl; exact Rn.pt rfl rfl; exact RnT.n; apply RnH.c; exact rfl; exact rfl; exact listF_next (endN S seed) c; exact rfl; exact rfl; apply RnH.c
 exact rfl; exact rfl; rfl; exact rfl; exact rfl; apply RnH.c; exact rfl; exact rfl; rfl; exact rfl; exact rfl; exact RnH.n; exact rfl; exact rfl)
    · have hge : ¬ c < 18 := of_decide_eq_false h
      obtain rfl : c = 18 := by omega
      (
 refine Gol.exit ?_; refine thn_x ?_; refine rnd_x ?_; refine inBlk_hit ?_; refine thn_n ?_
 apply Gol.sr; apply t0; exact sM rfl; apply tq; exact s_call (f := 148) rfl (eC rfl eN) (aC (arg_sl rfl) aN) (ends_ok S hS (listF (endN S seed) 18) _ _ (listF_length _ _) (by decide)) (lb rfl)
 dsimp only [reduceAdd, reduceMul, reduceSub, na, ca, nbk, mc, ml]; apply n1; exact s_storeW rfl rfl rfl rfl rfl rfl
 dsimp only [reduceAdd, reduceMul]; exact dn; exact rfl; refine Gol.ret ?_)
      (apply RetQ.mk (by first | exact .inr rfl | exact .inl rfl); apply res_1 rfl; exact res_cell rfl rfl rfl (agu_cuv _); exact out_val)
end
end Go.Proofs.YtneeclacmhhblaaGreat


namespace Go.Proofs.YtneeclacmhhblaaGreat
open Go.RowKit
open Nat (reduceAdd reduceMul reduceSub)

section
variable (S : List UInt8 → UInt64)
def onePub (seed : UInt64) : UInt64 := S (0x22 :: flat (listF (endN S seed) 18))
def keyN (seed : UInt64) (j : Nat) : UInt64 := S (0x30 :: (nameB seed ++ [1, 0, 0, toU8 (j : Int)]))
def leafK (seed : UInt64) (j : Nat) : UInt64 := onePub S (keyN S seed j)
def treeN (seed : UInt64) (n : Nat) : List UInt64 := listF (leafK S seed) n
def pubN (seed : UInt64) : UInt64 := rootN S (treeN S seed 32)
variable (hS : HashF S)
include hS
theorem key_ok (seed : UInt64) (j : Nat) : Fresh Tryz.prog 129 [.v (.agg (nameC seed)), .v (.int .i64 1), .v (.int .i64 0), .v (.int .i64 (j : Int))] (fun _ => .v (.agg (nameC (keyN S seed j)))) [] := by
  unfold keyN
  refine Fresh.of (fn := Tryz.f129) Tryz.func129 rfl (lb rfl) fun w => ?_
  (
 apply Gol.sr; apply t1; exact s_box rfl rfl; apply t1; exact s_alloc; dsimp only [reduceAdd, reduceMul]; exact dn; exact rfl; apply Gol.sr; apply tq
 exact s_bytesP PV.nil rfl (by omega); dsimp only [reduceAdd, reduceMul, reduceSub, na, ca, nbk, mc, ml]
 apply t0; exact s_slA rfl rfl rfl rfl (by simp) (by omega) (by omega) (by omega); apply tq; exact s_app rfl rfl rfl (rd_name rfl rfl) rfl rfl rfl OneL.one (by omega)
 dsimp only [reduceAdd, reduceMul, reduceSub, na, ca, nbk, mc, ml]; apply t0; exact sM rfl
 apply t0; exact s_cu8 rfl; apply t0; exact sM rfl; apply t0; exact s_shrI rfl rfl; apply t0; exact s_cu8 rfl; apply t0; exact sM rfl; apply t0
 exact s_cu8 rfl; apply t0; exact sM rfl; apply t0; exact s_cu8 rfl; apply tq; exact s_bytesP (PV.cons rfl rfl rfl (PV.cons rfl rfl rfl (PV.cons rfl rfl rfl (PV.cons rfl rfl rfl PV.nil)))) rfl (by omega)
 dsimp only [reduceAdd, reduceMul, reduceSub, na, ca, nbk, mc, ml]; apply tq; exact s_app rfl rfl rfl (rd_sl rfl rfl) rfl rfl rfl OneL.one (by omega)
 dsimp only [reduceAdd, reduceMul, reduceSub, na, ca, nbk, mc, ml]; apply tq; exact s_call (f := 72) rfl (eC rfl (eC rfl eN)) (aC aL (aC (arg_sl rfl) aN)) (hS.refTagged 0x30 (nameB seed ++ [1, 0, 0, toU8 (j : Int)]) 12 _ rfl (by decide)) (lb rfl)
 dsimp only [reduceAdd, reduceMul, reduceSub, na, ca, nbk, mc, ml]; apply n1; exact s_storeW rfl rfl rfl rfl rfl rfl
 dsimp only [reduceAdd, reduceMul]; exact dn; exact rfl; refine Gol.ret ?_)
  (apply RetQ.mk (by first | exact .inr rfl | exact .inl rfl); apply res_1 rfl; exact res_cell rfl rfl rfl (agu_cuv _); exact out_val)
theorem leaves1_ok (seed : UInt64) : Fresh Tryz.prog 91 [.v (.agg (nameC seed)), .v (.int .i64 1), .v (.int .i64 0)] (fun k => .sl k 32) [⟨byA (flat (treeN S seed 32)), 23, 8⟩] := by
  refine Fresh.of (fn := Tryz.f91) Tryz.func91 rfl (lb rfl) fun w => ?_
  (
 apply Gol.sr; apply t1; exact s_box rfl rfl; apply t0; exact sA rfl; dsimp only [reduceAdd, reduceMul]; exact dn; exact rfl; apply Gol.sr
 apply t0; exact sA rfl; dsimp only [reduceAdd, reduceMul]; exact dn; exact rfl; refine Gol.seq ?_; apply Gol.sr; apply t0
 exact sA rfl; dsimp only [reduceAdd, reduceMul]; exact dn; exact rfl; refine Gol.block ?_)
  refine Gol.le (Le.nilOwn (i := 7) 23 8 rfl) ?_
  refine Gol.loop (ι := Nat) (fun c => c ≤ 32) (fun c => 32 - c) 40 (fun c => [(32, some ⟨byA (flat (listF (leafK S seed) c)), 23, 8⟩), (0, some ⟨cu (.v (.agg (nameC seed))), 23, 8⟩)])
    (fun c => [(8, .v (.int .i64 (c : Int))), (7, .sl 32 c), (3, .pt 0 0), (1, .v (.int .i64 1)), (2, .v (.int .i64 0))]) 0 (Nat.zero_le _) ?_ ?_
  · (
 apply Le.mk' []; apply RnT.c; exact rfl; exact Rn.v rfl; apply RnT.c; exact rfl; exact Rn.sl rfl rfl; apply RnT.c; exact rfl; exact Rn.pt rfl rfl; apply RnT.c
 exact rfl; exact Rn.v rfl; apply RnT.c; exact rfl; exact Rn.v rfl; exact RnT.n; apply RnH.c; exact rfl; exact rfl; rfl; exact rfl; exact rfl; apply RnH.c
 exact rfl; exact rfl; rfl; exact rfl; exact rfl; exact RnH.n; exact rfl; exact rfl)
  intro c hc
  have hl := listF_length (leafK S seed) c
  (
 refine Gol.seq ?_; apply Gol.sr; apply t0; exact sM rfl; apply t0; exact s_ltn rfl rfl; dsimp only [reduceAdd, reduceMul]
 exact dn; exact rfl)
  refine Gol.cond rfl (fun h => ?_) (fun h => ?_)
  · have hlt : c < 32 := of_decide_eq_true h
    (
 refine Gol.skip ?_; refine thn_n ?_; refine Gol.seq ?_; refine Gol.block ?_; apply Gol.region
 apply t0; exact sM rfl; apply t0; exact s_loadW rfl rfl rfl (agu_cuv _); apply t0; exact sM rfl; apply t0; exact sM rfl; apply t0; exact sM rfl
 apply tq; exact s_call (f := 129) rfl (eC rfl (eC rfl (eC rfl (eC rfl eN)))) (aC aL (aC aL (aC aL (aC aL aN)))) (key_ok S hS seed c) (lb rfl)
 dsimp only [reduceAdd, reduceMul, reduceSub, na, ca, nbk, mc, ml]; apply tq; exact s_call (f := 128) rfl (eC rfl eN) (aC aL aN) (refPublic_ok S hS (keyN S seed c)) (lb rfl)
 dsimp only [reduceAdd, reduceMul, reduceSub, na, ca, nbk, mc, ml]; apply t1; exact s_lit (PA.cons rfl rfl rfl PA.nil) rfl (by first | omega | exact lb rfl | decide | (simp <;> omega) | (dsimp <;> omega))
 apply tq; exact s_app rfl rfl rfl (rd_sl rfl rfl) (by simp only [byA_length, List.length_append, List.length_cons, List.length_nil, List.length_take, List.length_drop, List.length_replicate, List.length_map, Nat.mul_one, nameB_length, flat_length, List.length_set, inA_length, dsA_length, lsA_length, dA_length, lA_length, itsA_length, vtsA_length, rcsA_length] <;> omega) rfl rfl rfl (by omega)
 dsimp only [reduceAdd, reduceMul, reduceSub, na, ca, nbk, mc, ml]; apply t0; exact sA rfl
 dsimp only [reduceAdd, reduceMul]; exact dn; exact rfl; refine inBlk_n ?_; refine thn_n ?_; apply Gol.region
 apply t0; exact sM rfl; apply t0; exact s_addn rfl rfl (by simp <;> omega); apply t0; exact sA rfl; dsimp only [reduceAdd, reduceMul]
 exact dn; exact rfl)
    refine rnd_n (c + 1) (by omega) (by omega) ?_
    (
 apply Le.mk' [(32, 120)]; apply RnT.c; exact rfl; exact Rn.v rfl; apply RnT.c; exact rfl; exact Rn.sl rfl rfl; apply RnT.c; exact rfl; exact Rn.pt rfl rfl
 apply RnT.c; exact rfl; exact Rn.v rfl; apply RnT.c; exact rfl; exact Rn.v rfl; exact RnT.n; apply RnH.c; exact rfl; exact rfl; exact listF_next (leafK S seed) c
 exact rfl; exact rfl; apply RnH.c; exact rfl; exact rfl; rfl; exact rfl; exact rfl; exact RnH.n; exact rfl; exact rfl)
  · have hge : ¬ c < 32 := of_decide_eq_false h
    obtain rfl : c = 32 := by omega
    (
 refine Gol.exit ?_; refine thn_x ?_; refine rnd_x ?_; refine inBlk_hit ?_; refine thn_n ?_
 apply Gol.sr; apply t0; exact sM rfl; apply t0; exact sA rfl; dsimp only [reduceAdd, reduceMul]; exact dn; exact rfl; refine Gol.ret ?_)
    (apply RetQ.mk (by first | exact .inr rfl | exact .inl rfl); apply res_1 rfl; exact res_tmp rfl; exact out_sl rfl)
theorem pub1_ok (seed : UInt64) : Fresh Tryz.prog 57 [.v (.agg (nameC seed)), .v (.int .i64 1)] (fun _ => .v (.agg (nameC (pubN S seed)))) [] := by
  have hl : (treeN S seed 32).length = 32 := listF_length _ _
  refine Fresh.of (fn := Tryz.f57) Tryz.func57 rfl (lb rfl) fun w => ?_
  (
 apply Gol.sr; apply t1; exact s_box rfl rfl; apply t1; exact s_alloc; dsimp only [reduceAdd, reduceMul]; exact dn; exact rfl; refine Gol.seq ?_
 apply Gol.sr; apply t0; exact sM rfl; apply t0; exact s_ltn rfl rfl; apply t0; exact sM rfl; apply g0; exact wnt_g rfl rfl rfl rfl; exact sM rfl
 apply g0; exact wnt_g rfl rfl rfl rfl; exact s_gtn rfl rfl; apply t0; exact s_pick_f rfl rfl rfl; dsimp only [reduceAdd, reduceMul]; exact dn
 exact rfl)
  refine Gol.cond_f rfl rfl ?_
  have hr := refRoot_ok S hS 32 (treeN S seed 32) false hl (by decide)
  (
 refine Gol.skip ?_; refine thn_n ?_; apply Gol.sr; apply t0; exact s_loadW rfl rfl rfl (agu_cuv _); apply t0; exact sM rfl
 apply tq; exact s_call (f := 91) rfl (eC rfl (eC rfl (eC rfl eN))) (aC aL (aC aL (aC aL aN))) (leaves1_ok S hS seed) (lb rfl)
 dsimp only [reduceAdd, reduceMul, reduceSub, na, ca, nbk, mc, ml]; apply tq; exact s_call (f := 73) rfl (eC rfl eN) (aC (arg_sl rfl) aN) hr (lb rfl)
 dsimp only [reduceAdd, reduceMul, reduceSub, na, ca, nbk, mc, ml]; apply n1; exact s_storeW rfl rfl rfl rfl rfl rfl
 dsimp only [reduceAdd, reduceMul]; exact dn; exact rfl; refine Gol.ret ?_)
  (apply RetQ.mk (by first | exact .inr rfl | exact .inl rfl); apply res_1 rfl; exact res_cell rfl rfl rfl (agu_cuv _); exact out_val)
end
end Go.Proofs.YtneeclacmhhblaaGreat

