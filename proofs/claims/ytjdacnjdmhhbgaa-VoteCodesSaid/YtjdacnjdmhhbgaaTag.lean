/-
  hash.Tagged, hash.Pair and the reference's Tagged: what each call returns, for byte strings of less than 2^47 bytes. Conditions: that length.
-/
import Derived.Test.YtjdacnjdmhhbgaaSum
set_option linter.unusedSimpArgs false
set_option linter.unusedVariables false
set_option linter.unusedSectionVars false
namespace Go.Proofs.Ytjdacnjdmhhbgaa
open Go.RowKit
attribute [local go_sem ↓] Go.wp_at_zero Go.wp_at_succ

def tagN (tag : UInt8) (bs : List UInt8) : UInt64 := sumN (tag :: bs)
theorem bytesV_cons (c : UInt8) (bs : List UInt8) : bytesV (c :: bs) = .int .u8 (c.toNat : Int) :: bytesV bs := rfl
theorem len_47 {L : Nat} (h : L ≤ 140737488355000) : 1 + L ≤ 281474976710656 := by omega
theorem len_47' {L : Nat} (h : L ≤ 140737488355000) : (1 + L) * 1 ≤ 140737488355328 := by omega

set_option maxHeartbeats 1000000 in
theorem tagged_calls (tag : UInt8) (A : Option Addr) (L c : Nat) (bs : List UInt8) (w : World) (hL : bs.length = L) (hlen : L ≤ 140737488355000) (hr : Rd w A (bytesV bs)) :
    Calls Try.prog 21 #[.int .u8 (tag.toNat : Int), .slice A L c] w fun e w' => e = .returned (.agg (nameC (tagN tag bs))) ∧ Ext w w' := by
  have hmk := run_mk bytesT .i64 .i64 0 160 (by decide) (by decide) (by decide)
  have c1 := len_47 hlen
  have c2 := len_47' hlen
  have HL := Lib.hid hL
  clear hL hlen
  have tok1 : True := trivial
  go_enter Try.func21, Try.ntmps21
  go_upto_region 1 with (fail)
  have E : Ext w (w.alloc (.cells (nameC 0) 24)) := by (repeat (first | exact Ext.refl _ | assumption | refine Ext.drew ?_ | refine Ext.drewN ?_ _ | refine Ext.alloc ?_ _ | refine Ext.trans ?_ (by assumption)))
  have R1 : rowAt (w.alloc (.cells (nameC 0) 24)) w.heap.size = some (nameC 0) := rowAt_new _ _ _ _ (by simp)
  generalize (w.alloc (.cells (nameC 0) 24)) = W at E R1 ⊢
  have L1 := rowAt_lt R1
  have HR := Lib.hid (hr.keep E)
  clear hr
  go_wp2_with (first
    | (at_builtin; have _t := tok1; refine wpList_app bytesT ((World.ownsRow_made W _ 160 (Nat.le_refl _) (by decide) (by simp [size_madeCells])).alloc _) (Rd.whole (rowAt_new _ _ _ _ (by simp))) rfl (ones_cons rfl ones_nil) (by decide) (by simp <;> omega) rfl _ _ rfl rfl rfl ?_; intro A1 c1' w1 hown1 hb1 _ _; have E1 : Ext W w1 := Ext.then (by (repeat (first | exact Ext.refl _ | assumption | refine Ext.drew ?_ | refine Ext.drewN ?_ _ | refine Ext.alloc ?_ _ | refine Ext.trans ?_ (by assumption)))) hb1; simp only [Nat.zero_add, List.nil_append] at hown1; clear tok1 _t hb1)
    | (at_builtin; refine wpList_app bytesT hown1 (HR.out.keep E1) (by rw [bytesV_length, HL.out]; simp) (ones_bytes bs) c2 E1.size rfl _ _ rfl rfl rfl ?_; intro A2 c2' w2 hown2 hb2 _ _; have E2 : Ext W w2 := E1.then hb2; clear hb2 hown1)
    | (go_at_call 31; refine (sum_calls A2 (1 + L) c2' (tag :: bs) _ (by rw [List.length_cons, HL.out]; omega) (own_cap hown2).1 c1 (Rd.of_own hown2)).mono ?_; rintro e w3 ⟨rfl, hb3⟩; have E3 := E2.trans hb3; have R3 := rowAt_keep R1 E3; clear hown2 hb3))
  refine bodyPost_ret (retName rfl _ _ (by simp [go_sem, R3])) rfl ⟨by simp [go_sem, R3]; rfl, (E.trans E3).setRow (Nat.le_refl _) _⟩
set_option maxHeartbeats 1000000 in
theorem refTagged_calls (tag : UInt8) (A : Option Addr) (L c : Nat) (bs : List UInt8) (w : World) (hL : bs.length = L) (hlen : L ≤ 140737488355000) (hr : Rd w A (bytesV bs)) :
    Calls Try.prog 32 #[.int .u8 (tag.toNat : Int), .slice A L c] w fun e w' => e = .returned (.agg (nameC (tagN tag bs))) ∧ Ext w w' := by
  have hmk := run_mk bytesT .i64 .i64 0 160 (by decide) (by decide) (by decide)
  have c1 := len_47 hlen
  have c2 := len_47' hlen
  have HL := Lib.hid hL
  clear hL hlen
  have tok1 : True := trivial
  go_enter Try.func32, Try.ntmps32
  go_upto_region 1 with (fail)
  have E : Ext w (w.alloc (.cells (nameC 0) 24)) := by (repeat (first | exact Ext.refl _ | assumption | refine Ext.drew ?_ | refine Ext.drewN ?_ _ | refine Ext.alloc ?_ _ | refine Ext.trans ?_ (by assumption)))
  have R1 : rowAt (w.alloc (.cells (nameC 0) 24)) w.heap.size = some (nameC 0) := rowAt_new _ _ _ _ (by simp)
  generalize (w.alloc (.cells (nameC 0) 24)) = W at E R1 ⊢
  have L1 := rowAt_lt R1
  have HR := Lib.hid (hr.keep E)
  clear hr
  go_wp2_with (first
    | (at_builtin; have _t := tok1; refine wpList_app bytesT ((World.ownsRow_made W _ 160 (Nat.le_refl _) (by decide) (by simp [size_madeCells])).alloc _) (Rd.whole (rowAt_new _ _ _ _ (by simp))) rfl (ones_cons rfl ones_nil) (by decide) (by simp <;> omega) rfl _ _ rfl rfl rfl ?_; intro A1 c1' w1 hown1 hb1 _ _; have E1 : Ext W w1 := Ext.then (by (repeat (first | exact Ext.refl _ | assumption | refine Ext.drew ?_ | refine Ext.drewN ?_ _ | refine Ext.alloc ?_ _ | refine Ext.trans ?_ (by assumption)))) hb1; simp only [Nat.zero_add, List.nil_append] at hown1; clear tok1 _t hb1)
    | (at_builtin; refine wpList_app bytesT hown1 (HR.out.keep E1) (by rw [bytesV_length, HL.out]; simp) (ones_bytes bs) c2 E1.size rfl _ _ rfl rfl rfl ?_; intro A2 c2' w2 hown2 hb2 _ _; have E2 : Ext W w2 := E1.then hb2; clear hb2 hown1)
    | (go_at_call 40; refine (refSum_calls A2 (1 + L) c2' (tag :: bs) _ (by rw [List.length_cons, HL.out]; omega) (own_cap hown2).1 c1 (Rd.of_own hown2)).mono ?_; rintro e w3 ⟨rfl, hb3⟩; have E3 := E2.trans hb3; have R3 := rowAt_keep R1 E3; clear hown2 hb3))
  refine bodyPost_ret (retName rfl _ _ (by simp [go_sem, R3])) rfl ⟨by simp [go_sem, R3]; rfl, (E.trans E3).setRow (Nat.le_refl _) _⟩

end Go.Proofs.Ytjdacnjdmhhbgaa
