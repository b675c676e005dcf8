/-
  The law HashSums of layer 1 returns true for every byte string that memory can hold. Conditions: none beyond that.
-/
import Derived.Test.YtihgmdicglnndaaSum
import Derived.Test.YtihgmdicglnndaaLawA
import Derived.Test.YtihgmdicglnndaaOpen
namespace Go.Proofs.Ytihgmdicglnndaa
open Go.RowKit
attribute [local go_sem ↓] Go.wp_at_zero Go.wp_at_succ
theorem len_ok {L c : Nat} (hlc : L ≤ c) (hc : c ≤ 140737488351232) : L ≤ 281474976710656 := by omega
set_option maxHeartbeats 1000000 in
theorem hashSums_walk (A : Option Addr) (L c : Nat) (s : UInt64) (w : World) (C1 : Hid (Calls Try.prog 25 #[.slice A L c] w fun e w' => e = .returned (.agg (nameC s)) ∧ Ext w w'))
    (C2 : Hid (∀ w1, Ext w w1 → Calls Try.prog 26 #[.slice A L c] w1 fun e w' => e = .returned (.agg (nameC s)) ∧ Ext w1 w')) :
    Calls Try.prog 8 #[.slice A L c] w fun e w' => e = .returned (.bool true) ∧ Ext w w' := by
  go_enter Try.func8, Try.ntmps8
  go_wp2_with (first
    | (go_at_call 25; refine C1.out.mono ?_; rintro e w1 ⟨rfl, hb1⟩)
    | (go_at_call 26; refine (C2.out _ hb1).mono ?_; rintro e w2 ⟨rfl, hb2⟩)
    | (go_at_call 22; refine (awake1_calls _).mono ?_; rintro e w3 ⟨rfl, hb3⟩))
  go_ret
  exact ⟨rfl, (hb1.trans hb2).trans hb3⟩
theorem hashSums_calls (A : Option Addr) (L c : Nat) (bs : List UInt8) (w : World) (h : BytesArg w A L c bs) :
    Calls Try.prog 8 #[.slice A L c] w fun e w' => e = .returned (.bool true) ∧ Ext w w' :=
  hashSums_walk A L c (sumN bs) w (Lib.hid (sum_calls A L c bs w h.1 h.2.1 (len_ok h.2.1 h.2.2.1) h.2.2.2.1))
    (Lib.hid fun w1 hb1 => refSum_calls A L c bs w1 h.1 h.2.1 (len_ok h.2.1 h.2.2.1) (h.2.2.2.1.keep hb1))
end Go.Proofs.Ytihgmdicglnndaa
