/-
  hash.Tagged, hash.Pair and the reference's Tagged: what each call returns, for byte strings of less than 2^47 bytes. Conditions: that length.
-/
import Derived.Test.YtihgmdicglnndaaSum
set_option linter.unusedSimpArgs false
set_option linter.unusedVariables false
set_option linter.unusedSectionVars false
namespace Go.Proofs.Ytihgmdicglnndaa
open Go.RowKit
attribute [local go_sem ↓] Go.wp_at_zero Go.wp_at_succ

def tagN (tag : UInt8) (bs : List UInt8) : UInt64 := sumN (tag :: bs)
theorem bytesV_cons (c : UInt8) (bs : List UInt8) : bytesV (c :: bs) = .int .u8 (c.toNat : Int) :: bytesV bs := rfl
theorem len_47 {L : Nat} (h : L ≤ 140737488355000) : 1 + L ≤ 281474976710656 := by omega
theorem len_47' {L : Nat} (h : L ≤ 140737488355000) : (1 + L) * 1 ≤ 140737488355328 := by omega

set_option maxHeartbeats 1000000 in
theorem tagged_calls (tag : UInt8) (A : Option Addr) (L c : Nat) (bs : List UInt8) (w : World) (hL : bs.length = L) (hlen : L ≤ 140737488355000) (hr : Rd w A (bytesV bs)) :
    Calls Try.prog 27 #[.int .u8 (tag.toNat : Int), .slice A L c] w fun e w' => e = .returned (.agg (nameC (tagN tag bs))) ∧ Ext w w' := by
  have hmk := run_mk bytesT .i64 .i64 0 160 (by decide) (by decide) (by decide)
  have c1 := len_47 hlen
  have c2 := len_47' hlen
  have HL := Lib.hid hL
  clear hL hlen
  have tok1 : True := trivial
  go_enter Try.func27, Try.ntmps27
  go_upto_region 1 with (fail)
  have E : Ext w (w.alloc (.cells (nameC 0) 23)) := by (repeat (first | exact Ext.refl _ | assumption | refine Ext.drew ?_ | refine Ext.drewN ?_ _ | refine Ext.alloc ?_ _ | refine Ext.trans ?_ (by assumption)))
  have R1 : rowAt (w.alloc (.cells (nameC 0) 23)) w.heap.size = some (nameC 0) := rowAt_new _ _ _ _ (by simp)
  generalize (w.alloc (.cells (nameC 0) 23)) = W at E R1 ⊢
  have L1 := rowAt_lt R1
  have HR := Lib.hid (hr.keep E)
  clear hr
  go_wp2_with (first
    | (at_builtin; have _t := tok1; refine wpList_app bytesT ((World.ownsRow_made W _ 160 (Nat.le_refl _) (by decide) (by simp [size_madeCells])).alloc _) (Rd.whole (rowAt_new _ _ _ _ (by simp))) rfl (ones_cons rfl ones_nil) (by decide) (by simp <;> omega) rfl _ _ rfl rfl rfl ?_; intro A1 c1' w1 hown1 hb1 _ _; have E1 : Ext W w1 := Ext.then (by (repeat (first | exact Ext.refl _ | assumption | refine Ext.drew ?_ | refine Ext.drewN ?_ _ | refine Ext.alloc ?_ _ | refine Ext.trans ?_ (by assumption)))) hb1; simp only [Nat.zero_add, List.nil_append] at hown1; clear tok1 _t hb1)
    | (at_builtin; refine wpList_app bytesT hown1 (HR.out.keep E1) (by rw [bytesV_length, HL.out]; simp) (ones_bytes bs) c2 E1.size rfl _ _ rfl rfl rfl ?_; intro A2 c2' w2 hown2 hb2 _ _; have E2 : Ext W w2 := E1.then hb2; clear hb2 hown1)
    | (go_at_call 25; refine (sum_calls A2 (1 + L) c2' (tag :: bs) _ (by rw [List.length_cons, HL.out]; omega) (own_cap hown2).1 c1 (Rd.of_own hown2)).mono ?_; rintro e w3 ⟨rfl, hb3⟩; have E3 := E2.trans hb3; have R3 := rowAt_keep R1 E3; clear hown2 hb3))
  refine bodyPost_ret (retName rfl _ _ (by simp [go_sem, R3])) rfl ⟨by simp [go_sem, R3]; rfl, (E.trans E3).setRow (Nat.le_refl _) _⟩
set_option maxHeartbeats 1000000 in
theorem refTagged_calls (tag : UInt8) (A : Option Addr) (L c : Nat) (bs : List UInt8) (w : World) (hL : bs.length = L) (hlen : L ≤ 140737488355000) (hr : Rd w A (bytesV bs)) :
    Calls Try.prog 29 #[.int .u8 (tag.toNat : Int), .slice A L c] w fun e w' => e = .returned (.agg (nameC (tagN tag bs))) ∧ Ext w w' := by
  have hmk := run_mk bytesT .i64 .i64 0 160 (by decide) (by decide) (by decide)
  have c1 := len_47 hlen
  have c2 := len_47' hlen
  have HL := Lib.hid hL
  clear hL hlen
  have tok1 : True := trivial
  go_enter Try.func29, Try.ntmps29
  go_upto_region 1 with (fail)
  have E : Ext w (w.alloc (.cells (nameC 0) 23)) := by (repeat (first | exact Ext.refl _ | assumption | refine Ext.drew ?_ | refine Ext.drewN ?_ _ | refine Ext.alloc ?_ _ | refine Ext.trans ?_ (by assumption)))
  have R1 : rowAt (w.alloc (.cells (nameC 0) 23)) w.heap.size = some (nameC 0) := rowAt_new _ _ _ _ (by simp)
  generalize (w.alloc (.cells (nameC 0) 23)) = W at E R1 ⊢
  have L1 := rowAt_lt R1
  have HR := Lib.hid (hr.keep E)
  clear hr
  go_wp2_with (first
    | (at_builtin; have _t := tok1; refine wpList_app bytesT ((World.ownsRow_made W _ 160 (Nat.le_refl _) (by decide) (by simp [size_madeCells])).alloc _) (Rd.whole (rowAt_new _ _ _ _ (by simp))) rfl (ones_cons rfl ones_nil) (by decide) (by simp <;> omega) rfl _ _ rfl rfl rfl ?_; intro A1 c1' w1 hown1 hb1 _ _; have E1 : Ext W w1 := Ext.then (by (repeat (first | exact Ext.refl _ | assumption | refine Ext.drew ?_ | refine Ext.drewN ?_ _ | refine Ext.alloc ?_ _ | refine Ext.trans ?_ (by assumption)))) hb1; simp only [Nat.zero_add, List.nil_append] at hown1; clear tok1 _t hb1)
    | (at_builtin; refine wpList_app bytesT hown1 (HR.out.keep E1) (by rw [bytesV_length, HL.out]; simp) (ones_bytes bs) c2 E1.size rfl _ _ rfl rfl rfl ?_; intro A2 c2' w2 hown2 hb2 _ _; have E2 : Ext W w2 := E1.then hb2; clear hb2 hown1)
    | (go_at_call 26; refine (refSum_calls A2 (1 + L) c2' (tag :: bs) _ (by rw [List.length_cons, HL.out]; omega) (own_cap hown2).1 c1 (Rd.of_own hown2)).mono ?_; rintro e w3 ⟨rfl, hb3⟩; have E3 := E2.trans hb3; have R3 := rowAt_keep R1 E3; clear hown2 hb3))
  refine bodyPost_ret (retName rfl _ _ (by simp [go_sem, R3])) rfl ⟨by simp [go_sem, R3]; rfl, (E.trans E3).setRow (Nat.le_refl _) _⟩

/-! ### Pair -/
def z16 : Array Value := Array.replicate 16 (.int .u8 0)
theorem z16_size : z16.size = 16 := by simp [z16]
theorem alloc16 (dst : Option Tmp) (ty : TypeId) (pos : String) (after : Array Edge) (gd : Option (Nat × Bool)) (ρ : Operand → Value) (w : World) :
    (execOp ρ ⟨dst, .alloc 55, ty, pos, after, gd⟩).run Try.prog w = .ok (.value (.pointer (some ⟨w.heap.size, 0, none⟩))) (w.alloc (.cells z16 55)) := by kernel_rfl
attribute [local go_sem ↓] alloc16
def pair1 (x : UInt64) : Array Value := (bytesV (nameB x) ++ List.replicate 8 (Value.int .u8 0)).toArray
def pair2 (x y : UInt64) : Array Value := (bytesV (nameB x ++ nameB y)).toArray
theorem pair1_size (x : UInt64) : (pair1 x).size = 16 := by simp [pair1, bytesV, nameB]
theorem splice1 (x : UInt64) : spliceA z16 0 ((nameC x).toList.take 16).toArray = pair1 x := by
  simp [spliceA, z16, pair1, nameC_toList, bytesV, nameB]
theorem splice2 (x y : UInt64) : spliceA (pair1 x) 8 ((nameC y).toList.take 8).toArray = pair2 x y := by
  simp [spliceA, pair1, pair2, nameC_toList, bytesV, nameB]
theorem pair2_toList (x y : UInt64) : (pair2 x y).toList = bytesV (nameB x ++ nameB y) := by simp [pair2]
theorem setRow_drew (w : World) (g : Nat) (cs : Array Value) : w.drew.setRow g cs = (w.setRow g cs).drew := rfl
set_option maxHeartbeats 1000000 in
theorem pair_calls (tag : UInt8) (x y : UInt64) (w : World) :
    Calls Try.prog 28 #[.int .u8 (tag.toNat : Int), .agg (nameC x), .agg (nameC y)] w fun e w' => e = .returned (.agg (nameC (tagN tag (nameB x ++ nameB y)))) ∧ Ext w w' := by
  go_enter Try.func28, Try.ntmps28
  go_upto_region 2 with (fail)
  have E : Ext w ((((w.alloc (.cells (nameC x) 23)).alloc (.cells (nameC y) 23)).alloc (.cells (nameC 0) 23)).alloc (.cells (z16) 55)) := by (repeat (first | exact Ext.refl _ | assumption | refine Ext.drew ?_ | refine Ext.drewN ?_ _ | refine Ext.alloc ?_ _ | refine Ext.trans ?_ (by assumption)))
  have R1 : rowAt ((((w.alloc (.cells (nameC x) 23)).alloc (.cells (nameC y) 23)).alloc (.cells (nameC 0) 23)).alloc (.cells (z16) 55)) w.heap.size = some (nameC x) := (rowAt_alloc _ _ _ (by simp <;> omega)).trans ((rowAt_alloc _ _ _ (by simp <;> omega)).trans ((rowAt_alloc _ _ _ (by simp <;> omega)).trans (rowAt_new _ _ _ _ (by simp))))
  have R2 : rowAt ((((w.alloc (.cells (nameC x) 23)).alloc (.cells (nameC y) 23)).alloc (.cells (nameC 0) 23)).alloc (.cells (z16) 55)) (w.heap.size + 1) = some (nameC y) := (rowAt_alloc _ _ _ (by simp <;> omega)).trans ((rowAt_alloc _ _ _ (by simp <;> omega)).trans (rowAt_new _ _ _ _ (by simp)))
  have R3 : rowAt ((((w.alloc (.cells (nameC x) 23)).alloc (.cells (nameC y) 23)).alloc (.cells (nameC 0) 23)).alloc (.cells (z16) 55)) (w.heap.size + 1 + 1) = some (nameC 0) := (rowAt_alloc _ _ _ (by simp <;> omega)).trans (rowAt_new _ _ _ _ (by simp))
  have R4 : rowAt ((((w.alloc (.cells (nameC x) 23)).alloc (.cells (nameC y) 23)).alloc (.cells (nameC 0) 23)).alloc (.cells (z16) 55)) (w.heap.size + 1 + 1 + 1) = some (z16) := rowAt_new _ _ _ _ (by simp)
  generalize ((((w.alloc (.cells (nameC x) 23)).alloc (.cells (nameC y) 23)).alloc (.cells (nameC 0) 23)).alloc (.cells (z16) 55)) = W at E R1 R2 R3 R4 ⊢
  have L1 := rowAt_lt R1
  have L2 := rowAt_lt R2
  have L3 := rowAt_lt R3
  have L4 := rowAt_lt R4
  have hc1 := fun ty => run_cp (P := Try.prog) (w := W.drew) (sT := 34) (ty := ty) (dl := 16) (dc := 16) (c := 8) (n := 8) Try.underlying34 (by kernel_rfl) (g := w.heap.size + 1 + 1 + 1) (o := 0) R4 (Rd.whole (w := W.drew) R1) rfl (ones_nameC x) (by simp [z16_size]) _ (splice1 x)
  go_wp2
  go_region
  have E1 : Ext w (W.drew.setRow (w.heap.size + 1 + 1 + 1) (pair1 x)) := E.drew.setRow (by omega) _
  have Q2 : rowAt (W.drew.setRow (w.heap.size + 1 + 1 + 1) (pair1 x)) (w.heap.size + 1) = some (nameC y) := (rowAt_setRow_far _ _ _ _ (by omega)).trans R2
  have Q3 : rowAt (W.drew.setRow (w.heap.size + 1 + 1 + 1) (pair1 x)) (w.heap.size + 1 + 1) = some (nameC 0) := (rowAt_setRow_far _ _ _ _ (by omega)).trans R3
  have Q4 : rowAt (W.drew.setRow (w.heap.size + 1 + 1 + 1) (pair1 x)) (w.heap.size + 1 + 1 + 1) = some (pair1 x) := rowAt_setRow _ _ _ (show (rowAt W _).isSome = true by rw [R4]; rfl)
  clear hc1 E R1 R2 R3 R4 L1 L2 L3 L4
  generalize W.drew.setRow (w.heap.size + 1 + 1 + 1) (pair1 x) = W1 at *
  have hc2 := fun ty => run_cp (P := Try.prog) (w := W1.drew) (sT := 34) (ty := ty) (dl := 8) (dc := 8) (c := 8) (n := 8) Try.underlying34 (by kernel_rfl) (g := w.heap.size + 1 + 1 + 1) (o := 8) Q4 (Rd.whole (w := W1.drew) Q2) rfl (ones_nameC y) (by simp [pair1_size]) _ (splice2 x y)
  go_wp2
  go_region
  have E2 : Ext w (W1.drew.setRow (w.heap.size + 1 + 1 + 1) (pair2 x y)) := E1.drew.setRow (by omega) _
  have P3 : rowAt (W1.drew.setRow (w.heap.size + 1 + 1 + 1) (pair2 x y)) (w.heap.size + 1 + 1) = some (nameC 0) := (rowAt_setRow_far _ _ _ _ (by omega)).trans Q3
  have P4 : rowAt (W1.drew.setRow (w.heap.size + 1 + 1 + 1) (pair2 x y)) (w.heap.size + 1 + 1 + 1) = some (pair2 x y) := rowAt_setRow _ _ _ (show (rowAt W1 _).isSome = true by rw [Q4]; rfl)
  clear hc2 E1 Q2 Q3 Q4
  generalize W1.drew.setRow (w.heap.size + 1 + 1 + 1) (pair2 x y) = W2 at *
  have hrd := Rd.whole P4
  rw [pair2_toList] at hrd
  have c1 := tagged_calls tag (some ⟨w.heap.size + 1 + 1 + 1, 0, none⟩) 16 16 (nameB x ++ nameB y) W2 (by simp [nameB_length]) (by decide) hrd
  generalize ht : tagN tag (nameB x ++ nameB y) = t at c1
  have HT := Lib.hid ht
  have C1 := Lib.hid c1
  clear c1 hrd ht
  go_wp2_with (go_at_call 27; refine C1.out.mono ?_; rintro e w3 ⟨rfl, hb3⟩; have E3 := E2.trans hb3; have R3 := rowAt_keep P3 hb3; clear hb3)
  refine bodyPost_ret (retName rfl _ _ (by simp [go_sem, R3])) rfl ⟨by rw [HT.out]; simp [go_sem, R3], E3.setRow (by omega) _⟩

/-- What the hash functions return, the hash itself a letter: so that no proof above can look into it. -/
structure HashSpec (S : List UInt8 → UInt64) : Prop where
  sum : ∀ (A : Option Addr) (L c : Nat) (bs : List UInt8) (w : World), bs.length = L → L ≤ c → L ≤ 281474976710656 → Rd w A (bytesV bs) →
    Calls Try.prog 25 #[.slice A L c] w fun e w' => e = .returned (.agg (nameC (S bs))) ∧ Ext w w'
  tagged : ∀ (tag : UInt8) (A : Option Addr) (L c : Nat) (bs : List UInt8) (w : World), bs.length = L → L ≤ 140737488355000 → Rd w A (bytesV bs) →
    Calls Try.prog 27 #[.int .u8 (tag.toNat : Int), .slice A L c] w fun e w' => e = .returned (.agg (nameC (S (tag :: bs)))) ∧ Ext w w'
  pair : ∀ (tag : UInt8) (x y : UInt64) (w : World),
    Calls Try.prog 28 #[.int .u8 (tag.toNat : Int), .agg (nameC x), .agg (nameC y)] w fun e w' => e = .returned (.agg (nameC (S (tag :: (nameB x ++ nameB y))))) ∧ Ext w w'
  refSum : ∀ (A : Option Addr) (L c : Nat) (bs : List UInt8) (w : World), bs.length = L → L ≤ c → L ≤ 281474976710656 → Rd w A (bytesV bs) →
    Calls Try.prog 26 #[.slice A L c] w fun e w' => e = .returned (.agg (nameC (S bs))) ∧ Ext w w'
  refTagged : ∀ (tag : UInt8) (A : Option Addr) (L c : Nat) (bs : List UInt8) (w : World), bs.length = L → L ≤ 140737488355000 → Rd w A (bytesV bs) →
    Calls Try.prog 29 #[.int .u8 (tag.toNat : Int), .slice A L c] w fun e w' => e = .returned (.agg (nameC (S (tag :: bs)))) ∧ Ext w w'
theorem hashSpec : HashSpec sumN := ⟨sum_calls, tagged_calls, pair_calls, refSum_calls, refTagged_calls⟩
end Go.Proofs.Ytihgmdicglnndaa
