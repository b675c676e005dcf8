/-
  The law HashTagged of layer 1 returns true for all arguments that memory can hold. Conditions: none beyond that.
-/
import Derived.Test.YtihgmdicglnndaaTag
import Derived.Test.YtihgmdicglnndaaLawA
import Derived.Test.YtihgmdicglnndaaOpen
namespace Go.Proofs.Ytihgmdicglnndaa
open Go.RowKit
attribute [local go_sem ↓] Go.wp_at_zero Go.wp_at_succ
theorem len_47a {L c : Nat} (h : L ≤ c) (hc : c ≤ 140737488351232) : L ≤ 140737488355000 := by omega
theorem tag_len (tag : UInt8) {bs : List UInt8} {L : Nat} (h : bs.length = L) : (tag :: bs).length = 1 + L := by rw [List.length_cons, h, Nat.add_comm]
theorem src_len {bs : List UInt8} {L : Nat} (h : bs.length = L) : (bytesV bs).length = L * 1 := by rw [bytesV_length, h, Nat.mul_one]
set_option maxHeartbeats 2000000 in
theorem hashTagged_walk (S : List UInt8 → UInt64) (H : HashSpec S) (tag : UInt8) (A : Option Addr) (L c : Nat) (bs : List UInt8) (x y : UInt64) (w : World) (h : BytesArg w A L c bs) :
    Calls Try.prog 10 #[.int .u8 (tag.toNat : Int), .slice A L c, .agg (nameC x), .agg (nameC y)] w fun e w' => e = .returned (.bool true) ∧ Ext w w' := by
  have HH := Lib.hid H
  clear H
  have hL := len_47a h.2.1 h.2.2.1
  have c1 := len_47 hL
  have c2 := len_47' hL
  have HL := Lib.hid h.1
  have HR := Lib.hid h.2.2.2.1
  have HC := Lib.hid hL
  clear h hL
  go_enter Try.func10, Try.ntmps10
  go_upto_region 1 with (fail)
  have E : Ext w ((w.alloc (.cells (nameC x) 23)).alloc (.cells (nameC y) 23)) := by (repeat (first | exact Ext.refl _ | assumption | refine Ext.drew ?_ | refine Ext.drewN ?_ _ | refine Ext.alloc ?_ _ | refine Ext.trans ?_ (by assumption)))
  have R1 : rowAt ((w.alloc (.cells (nameC x) 23)).alloc (.cells (nameC y) 23)) w.heap.size = some (nameC x) := (rowAt_alloc _ _ _ (by simp <;> omega)).trans (rowAt_new _ _ _ _ (by simp))
  have R2 : rowAt ((w.alloc (.cells (nameC x) 23)).alloc (.cells (nameC y) 23)) (w.heap.size + 1) = some (nameC y) := rowAt_new _ _ _ _ (by simp)
  generalize ((w.alloc (.cells (nameC x) 23)).alloc (.cells (nameC y) 23)) = W at E R1 R2 ⊢
  have L1 := rowAt_lt R1
  have L2 := rowAt_lt R2
  go_upto_region 2 with (at_builtin; refine wpList_app bytesT (World.ownsRow_lit W _ 1 (Nat.le_refl _) (by decide) rfl) ((HR.out.keep E).keep (by (repeat (first | exact Ext.refl _ | assumption | refine Ext.drew ?_ | refine Ext.drewN ?_ _ | refine Ext.alloc ?_ _ | refine Ext.trans ?_ (by assumption))))) (src_len HL.out) (ones_bytes bs) c2 (by simp) rfl _ _ rfl rfl rfl ?_; intro A1 k1 w1 hown1 hb1 _ _; have E1 : Ext W w1 := Ext.then (by (repeat (first | exact Ext.refl _ | assumption | refine Ext.drew ?_ | refine Ext.drewN ?_ _ | refine Ext.alloc ?_ _ | refine Ext.trans ?_ (by assumption)))) hb1; clear hb1)
  have tok1 : True := trivial
  have r1 := rowAt_keep R1 E1
  have r2 := rowAt_keep R2 E1
  go_region_held3 (fun w' => Ext w1 w') (repeat (first | assumption | exact Ext.refl _ | refine Ext.drew ?_ | refine Ext.alloc ?_ _))
    (first
      | (have _t := tok1; refine step_app bytesT ((World.ownsRow_lit w1 _ 1 (Nat.le_refl _) (by decide) rfl).drew) (Rd.whole (rowAt_keep r1 (by (repeat (first | exact Ext.refl _ | assumption | refine Ext.drew ?_ | refine Ext.drewN ?_ _ | refine Ext.alloc ?_ _ | refine Ext.trans ?_ (by assumption)))))) rfl (ones_nameC x) (by decide) (by simp) rfl _ _ rfl rfl rfl ?_; intro A2 k2 w2 hown2 hb2 _ _; have E2 : Ext w1 w2 := Ext.then (by (repeat (first | exact Ext.refl _ | assumption | refine Ext.drew ?_ | refine Ext.drewN ?_ _ | refine Ext.alloc ?_ _ | refine Ext.trans ?_ (by assumption)))) hb2; clear hb2 tok1 _t)
      | (refine step_app bytesT hown2 (Rd.whole (rowAt_keep r2 E2)) rfl (ones_nameC y) (by decide) E2.size rfl _ _ rfl rfl rfl ?_; intro A3 k3 w3 hown3 hb3 _ _; have E3 : Ext w1 w3 := E2.then hb3; clear hb3 hown2))
  have H := HH.out
  have hown1' := own_keep hown1 E3
  have hb0 : Ext w w3 := (E.trans E1).trans E3
  have e1 : #[Value.int IntKind.u8 (tag.toNat : Int)].toList ++ bytesV bs = bytesV (tag :: bs) := rfl
  have e2 : #[Value.int IntKind.u8 (tag.toNat : Int)].toList ++ (nameC x).toList ++ (nameC y).toList = bytesV (tag :: (nameB x ++ nameB y)) := rfl
  rw [e1] at hown1'
  rw [e2] at hown3
  have cT : ∀ v, Ext w3 v → Calls Try.prog 27 #[.int .u8 (tag.toNat : Int), .slice A L c] v fun e w' => e = .returned (.agg (nameC (S (tag :: bs)))) ∧ Ext v w' := fun v hb => H.tagged tag A L c bs v HL.out HC.out ((HR.out.keep hb0).keep hb)
  have cR : ∀ v, Ext w3 v → Calls Try.prog 29 #[.int .u8 (tag.toNat : Int), .slice A L c] v fun e w' => e = .returned (.agg (nameC (S (tag :: bs)))) ∧ Ext v w' := fun v hb => H.refTagged tag A L c bs v HL.out HC.out ((HR.out.keep hb0).keep hb)
  have cS : ∀ v, Ext w3 v → Calls Try.prog 25 #[.slice A1 (1 + L) k1] v fun e w' => e = .returned (.agg (nameC (S (tag :: bs)))) ∧ Ext v w' := fun v hb => H.sum A1 (1 + L) k1 (tag :: bs) v (tag_len tag HL.out) (own_cap hown1').1 c1 ((Rd.of_own hown1').keep hb)
  have cP : ∀ v, Calls Try.prog 28 #[.int .u8 (tag.toNat : Int), .agg (nameC x), .agg (nameC y)] v fun e w' => e = .returned (.agg (nameC (S (tag :: (nameB x ++ nameB y))))) ∧ Ext v w' := fun v => H.pair tag x y v
  have cS2 : ∀ v, Ext w3 v → Calls Try.prog 25 #[.slice A3 17 k3] v fun e w' => e = .returned (.agg (nameC (S (tag :: (nameB x ++ nameB y))))) ∧ Ext v w' := fun v hb => H.sum A3 17 k3 (tag :: (nameB x ++ nameB y)) v (by simp [nameB_length]) (own_cap hown3).1 (by decide) ((Rd.of_own hown3).keep hb)
  generalize S (tag :: bs) = s at cT cR cS
  generalize S (tag :: (nameB x ++ nameB y)) = t at cP cS2
  have CT := Lib.hid cT
  have CR := Lib.hid cR
  have CS := Lib.hid cS
  have CP := Lib.hid cP
  have CS2 := Lib.hid cS2
  have R3 := rowAt_keep r1 E3
  have R4 := rowAt_keep r2 E3
  have L3 := rowAt_lt R3
  have L4 := rowAt_lt R4
  have F := Ext.refl w3
  clear H cT cR cS cP cS2 e1 e2 hown1 hown1' hown3 R1 R2 L1 L2 r1 r2 E2 E3 E1 E
  go_wp2_with (first
    | (go_at_call 27; refine (CT.out _ F).mono ?_; rintro e v1 ⟨rfl, hb⟩; replace R3 := rowAt_keep R3 hb; replace R4 := rowAt_keep R4 hb; replace F := F.trans hb; clear hb)
    | (go_at_call 29; refine (CR.out _ F).mono ?_; rintro e v1 ⟨rfl, hb⟩; replace R3 := rowAt_keep R3 hb; replace R4 := rowAt_keep R4 hb; replace F := F.trans hb; clear hb)
    | (go_at_call 28; refine (CP.out _).mono ?_; rintro e v1 ⟨rfl, hb⟩; replace R3 := rowAt_keep R3 hb; replace R4 := rowAt_keep R4 hb; replace F := F.trans hb; clear hb)
    | (go_at_call 25; (with_reducible refine (CS.out _ F).mono ?_); rintro e v1 ⟨rfl, hb⟩; replace R3 := rowAt_keep R3 hb; replace R4 := rowAt_keep R4 hb; replace F := F.trans hb; clear hb)
    | (go_at_call 25; (with_reducible refine (CS2.out _ F).mono ?_); rintro e v1 ⟨rfl, hb⟩; replace R3 := rowAt_keep R3 hb; replace R4 := rowAt_keep R4 hb; replace F := F.trans hb; clear hb)
    | (go_at_call 22; refine (awake1_calls _).mono ?_; rintro e v1 ⟨rfl, hb⟩; replace F := F.trans hb; clear hb))
  go_ret
  exact ⟨rfl, hb0.trans F⟩
theorem hashTagged_calls (tag : UInt8) (A : Option Addr) (L c : Nat) (bs : List UInt8) (x y : UInt64) (w : World) (h : BytesArg w A L c bs) :
    Calls Try.prog 10 #[.int .u8 (tag.toNat : Int), .slice A L c, .agg (nameC x), .agg (nameC y)] w fun e w' => e = .returned (.bool true) ∧ Ext w w' :=
  hashTagged_walk sumN hashSpec tag A L c bs x y w h
end Go.Proofs.Ytihgmdicglnndaa
