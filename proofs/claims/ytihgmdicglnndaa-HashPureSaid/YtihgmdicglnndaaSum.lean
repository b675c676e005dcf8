/-
  hash.Sum and the reference's: what each call returns, for byte strings of at most 2^48 bytes. Conditions: that length.
-/
import Derived.Test.YtihgmdicglnndaaWord
set_option linter.unusedSimpArgs false
set_option linter.unusedVariables false
set_option linter.unusedSectionVars false
namespace Go.Proofs.Ytihgmdicglnndaa
open Go.RowKit
attribute [local go_sem ↓] Go.wp_at_zero Go.wp_at_succ

def startS : UInt64 × UInt64 := (2611923443488327891, 1376283091369227076)
/-- the state behind k words -/
def sumTo (bs : List UInt8) : Nat → UInt64 × UInt64
  | 0 => startS
  | k + 1 => mixN 2 (xorU (sumTo bs k).1 (wordOf (bs.drop (8 * k))), (sumTo bs k).2)
def sumEnd (bs : List UInt8) : UInt64 × UInt64 := sumTo bs ((bs.length + 7) / 8)
def lenU (n : Nat) : UInt64 := UInt64.ofNat n
def sumFin (bs : List UInt8) : UInt64 × UInt64 := mixN 4 ((sumEnd bs).1, xorU (sumEnd bs).2 (lenU bs.length))
theorem xor_len (y : UInt64) (L : Nat) (h : L < 18446744073709551616) : bits .xor .u64 (y.toNat : Int) (L : Int) = ((xorU y (lenU L)).toNat : Int) := by
  rw [← u64_xor]
  unfold lenU
  rw [UInt64.toNat_ofNat_of_lt' h]
/-- the hash of bytes -/
def sumN (bs : List UInt8) : UInt64 := xorU (sumFin bs).1 (sumFin bs).2

theorem word_calls_n (A : Option Addr) (c n : Nat) (bs : List UInt8) (w : World) (hn : bs.length = n) (hr : Rd w A (bytesV bs)) :
    Calls Try.prog 37 #[.slice A n c] w fun e w' => e = .returned (.int .u64 ((wordOf bs).toNat : Int)) ∧ Ext w w' := by
  subst hn; exact word_calls A c bs w hr
theorem refWord_calls_n (A : Option Addr) (c n : Nat) (bs : List UInt8) (w : World) (hn : bs.length = n) (hr : Rd w A (bytesV bs)) :
    Calls Try.prog 39 #[.slice A n c] w fun e w' => e = .returned (.int .u64 ((wordOf bs).toNat : Int)) ∧ Ext w w' := by
  subst hn; exact refWord_calls A c bs w hr
theorem mix_calls_n (g : Nat) (x y : UInt64) (m : Int) (h0 : 0 ≤ m) (h4 : m ≤ 4) (w : World) (hr : rowAt w g = some #[.int .u64 (x.toNat : Int), .int .u64 (y.toNat : Int)]) :
    Calls Try.prog 38 #[.pointer (some ⟨g, 0, none⟩), .int .i64 m] w fun e w' => e = .returned (.tuple #[]) ∧ rowAt w' g = some #[.int .u64 ((mixN m.toNat (x, y)).1.toNat : Int), .int .u64 ((mixN m.toNat (x, y)).2.toNat : Int)] ∧ Only g w w' := by
  obtain ⟨n, rfl⟩ := Int.eq_ofNat_of_zero_le h0
  exact mix_calls g (x, y) n w (by omega) hr
theorem addr_add (g o j : Nat) : (⟨g, o, none⟩ : Addr).add j = ⟨g, o + j, none⟩ := by unfold Addr.add; split <;> simp_all
theorem drop_bytes (bs : List UInt8) (k : Nat) : (bytesV bs).drop k = bytesV (bs.drop k) := by simp [bytesV, List.map_drop]

set_option maxHeartbeats 2000000 in
theorem sum_calls (A : Option Addr) (L c : Nat) (bs : List UInt8) (w : World) (hL : bs.length = L) (hlc : L ≤ c) (hlen : L ≤ 281474976710656) (hr : Rd w A (bytesV bs)) :
    Calls Try.prog 25 #[.slice A L c] w fun e w' => e = .returned (.agg (nameC (sumN bs))) ∧ Ext w w' := by
  have HL := Lib.hid hL
  clear hL
  go_enter Try.func25, Try.ntmps25
  go_wp2
  have E : Ext w ((w.alloc (.cells (nameC 0) 23)).alloc (.cells #[.int .u64 2611923443488327891, .int .u64 1376283091369227076] 50)) := by (repeat (first | exact Ext.refl _ | assumption | refine Ext.drew ?_ | refine Ext.drewN ?_ _ | refine Ext.alloc ?_ _ | refine Ext.trans ?_ (by assumption)))
  have R1 : rowAt ((w.alloc (.cells (nameC 0) 23)).alloc (.cells #[.int .u64 2611923443488327891, .int .u64 1376283091369227076] 50)) w.heap.size = some (nameC 0) := (rowAt_alloc _ _ _ (by simp)).trans (rowAt_new _ _ _ _ rfl)
  have R2 : rowAt ((w.alloc (.cells (nameC 0) 23)).alloc (.cells #[.int .u64 2611923443488327891, .int .u64 1376283091369227076] 50)) (w.heap.size + 1) = some #[.int .u64 2611923443488327891, .int .u64 1376283091369227076] := rowAt_new _ _ _ _ (by simp)
  generalize (w.alloc (.cells (nameC 0) 23)).alloc (.cells #[.int .u64 2611923443488327891, .int .u64 1376283091369227076] 50) = W at E R1 R2 ⊢
  go_loopw [4] (fun i wr => ∃ k j : Nat, j = 8 * k ∧ j < L + 8 ∧ i = .int .i64 (j : Int) ∧ rowAt wr w.heap.size = some (nameC 0) ∧ rowAt wr (w.heap.size + 1) = some #[.int .u64 ((sumTo bs k).1.toNat : Int), .int .u64 ((sumTo bs k).2.toNat : Int)] ∧ Ext w wr) (fun i _ => L + 8 - (intOf i).toNat)
  case atStart => exact ⟨0, 0, rfl, by omega, rfl, R1, R2, E⟩
  case round =>
    obtain ⟨k, j, hj, hk, rfl, r1, r2, e⟩ := hrel
    clear E R1 R2
    have HJ := Lib.hid hj
    by_cases hlt : j < L
    · have hnext : sumTo bs (k + 1) = mixN 2 (xorU (sumTo bs k).1 (wordOf (bs.drop (8 * k))), (sumTo bs k).2) := rfl
      rw [← hj] at hnext
      have HN := Lib.hid hnext
      clear hnext hj
      generalize hx : (sumTo bs k).1 = x at *
      generalize hy : (sumTo bs k).2 = y at *
      clear hx hy
      obtain ⟨g, o, rfl, hc⟩ := hr.at (bytesV_ne bs (by rw [HL.out]; omega))
      have hrd := (hr.keep e).drop j c (by rw [bytesV_length, HL.out]; omega) (by rw [bytesV_length, HL.out]; omega)
      rw [drop_bytes, if_neg (by omega), Option.map_some, addr_add] at hrd
      have HR := Lib.hid hrd
      have H2 := Lib.hid (show (bs.drop j).length = L - j by rw [List.length_drop, HL.out])
      clear hr hc hrd
      have i0 : (0 : Int) ≤ (j : Int) := by omega
      have i1 : (j : Int) ≤ (L : Int) := by omega
      have i2 : (L : Int) ≤ (c : Int) := by omega
      have i3 : ¬ c = j := by omega
      go_wp2
      go_region_with (go_at_call 37; refine (word_calls_n _ _ _ (bs.drop j) _ H2.out HR.out.drew).mono ?_; rintro e1 w1 ⟨rfl, hb⟩; replace r1 := rowAt_keep (w := wr.drew) r1 hb; replace r2 := rowAt_keep (w := wr.drew) r2 hb; replace e := Ext.trans e.drew hb; clear hb)
      all_goals
        have r3 : rowAt (w1.setCell ⟨w.heap.size + 1, 0, none⟩ (.int .u64 ((xorU x (wordOf (bs.drop j))).toNat : Int))) (w.heap.size + 1) = some #[.int .u64 ((xorU x (wordOf (bs.drop j))).toNat : Int), .int .u64 (y.toNat : Int)] := by simp [go_sem, r2]
        have r4 : rowAt (w1.setCell ⟨w.heap.size + 1, 0, none⟩ (.int .u64 ((xorU x (wordOf (bs.drop j))).toNat : Int))) w.heap.size = some (nameC 0) := (rowAt_far _ _ (by simp)).trans r1
        have e3 : Ext w (w1.setCell ⟨w.heap.size + 1, 0, none⟩ (.int .u64 ((xorU x (wordOf (bs.drop j))).toNat : Int))) := e.setCell (by simp) _
        generalize w1.setCell ⟨w.heap.size + 1, 0, none⟩ (.int .u64 ((xorU x (wordOf (bs.drop j))).toNat : Int)) = W1 at *
        generalize xorU x (wordOf (bs.drop j)) = z at *
        clear r1 r2 e
        go_wp2_with (go_at_call 38; refine (mix_calls_n _ _ _ _ (by decide) (by decide) _ r3).mono ?_; rintro e1 w2 ⟨rfl, r5, ho⟩; replace r4 := ho.row r4 (by simp); replace e3 := ho.ext e3 (by simp); clear ho r3)
        go_roundw
        case rel => exact ⟨k + 1, j + 8, by rw [HJ.out]; omega, by omega, by go_num, r4, by rw [HN.out]; exact r5, e3⟩
        case measure => simp [intOf]; omega
    · have hend : sumEnd bs = sumTo bs k := by unfold sumEnd; rw [HL.out, show (L + 7) / 8 = k from by omega]
      have hfin : sumFin bs = mixN 4 ((sumTo bs k).1, xorU (sumTo bs k).2 (lenU L)) := by unfold sumFin; rw [hend, HL.out]
      have hN : sumN bs = xorU (mixN 4 ((sumTo bs k).1, xorU (sumTo bs k).2 (lenU L))).1 (mixN 4 ((sumTo bs k).1, xorU (sumTo bs k).2 (lenU L))).2 := by unfold sumN; rw [hfin]
      generalize (sumTo bs k).1 = x at *
      generalize (sumTo bs k).2 = y at *
      have HS := Lib.hid hN
      clear hN hfin hend hj HJ hr
      have hxl := xor_len y L (by omega)
      go_upto_region 8 with (fail)
      have r3 : rowAt (wr.setCell ⟨w.heap.size + 1, 1, none⟩ (.int .u64 ((xorU y (lenU L)).toNat : Int))) (w.heap.size + 1) = some #[.int .u64 (x.toNat : Int), .int .u64 ((xorU y (lenU L)).toNat : Int)] := by simp [go_sem, r2]
      have r4 : rowAt (wr.setCell ⟨w.heap.size + 1, 1, none⟩ (.int .u64 ((xorU y (lenU L)).toNat : Int))) w.heap.size = some (nameC 0) := (rowAt_far _ _ (by simp)).trans r1
      have e3 : Ext w (wr.setCell ⟨w.heap.size + 1, 1, none⟩ (.int .u64 ((xorU y (lenU L)).toNat : Int))) := e.setCell (by simp) _
      clear hxl
      generalize wr.setCell ⟨w.heap.size + 1, 1, none⟩ (.int .u64 ((xorU y (lenU L)).toNat : Int)) = W1 at *
      clear r1 r2 e
      go_upto_region 9 with (go_at_call 38; refine (mix_calls_n _ _ _ _ (by decide) (by decide) _ r3).mono ?_; rintro e1 w2 ⟨rfl, r5, ho⟩; replace r4 := ho.row r4 (by simp); replace e3 := ho.ext e3 (by simp); clear ho r3)
      simp only [Int.reduceToNat] at r5
      generalize (mixN 4 (x, xorU y (lenU L))).1 = x2 at *
      generalize (mixN 4 (x, xorU y (lenU L))).2 = y2 at *
      go_wp2_with (go_at_call 18; refine (of_calls _ _).mono ?_; rintro e1 w3 ⟨rfl, hb⟩; replace r4 := rowAt_keep r4 hb; replace e3 := Ext.trans e3 hb; clear hb r5)
      rw [HS.out]
      refine bodyPost_ret (retName rfl _ _ (by simp [go_sem, r4])) rfl ⟨by simp [go_sem, r4], e3.setRow (Nat.le_refl _) _⟩

theorem mixN_next (n : Nat) (s : UInt64 × UInt64) : mixN (n + 1) s = mixU ((mixN n s).1, (mixN n s).2) := rfl
set_option maxHeartbeats 2000000 in
theorem refSum_calls (A : Option Addr) (L c : Nat) (bs : List UInt8) (w : World) (hL : bs.length = L) (hlc : L ≤ c) (hlen : L ≤ 281474976710656) (hr : Rd w A (bytesV bs)) :
    Calls Try.prog 26 #[.slice A L c] w fun e w' => e = .returned (.agg (nameC (sumN bs))) ∧ Ext w w' := by
  have HL := Lib.hid hL
  clear hL
  go_enter Try.func26, Try.ntmps26
  go_wp2
  have E : Ext w (w.alloc (.cells (nameC 0) 23)) := by (repeat (first | exact Ext.refl _ | assumption | refine Ext.drew ?_ | refine Ext.drewN ?_ _ | refine Ext.alloc ?_ _ | refine Ext.trans ?_ (by assumption)))
  have R1 : rowAt (w.alloc (.cells (nameC 0) 23)) w.heap.size = some (nameC 0) := rowAt_new _ _ _ _ rfl
  generalize w.alloc (.cells (nameC 0) 23) = W at E R1 ⊢
  go_loopw [3, 4, 5] (fun x y i wr => ∃ k j : Nat, j = 8 * k ∧ j < L + 8 ∧ i = .int .i64 (j : Int) ∧ x = .int .u64 ((sumTo bs k).1.toNat : Int) ∧ y = .int .u64 ((sumTo bs k).2.toNat : Int) ∧ rowAt wr w.heap.size = some (nameC 0) ∧ Ext w wr) (fun _ _ i _ => L + 8 - (intOf i).toNat)
  case atStart => exact ⟨0, 0, rfl, by omega, rfl, rfl, rfl, R1, E⟩
  case round =>
    obtain ⟨k, j, hj, hk, rfl, rfl, rfl, r1, e⟩ := hrel
    clear E R1
    have HJ := Lib.hid hj
    by_cases hlt : j < L
    · have hnext : sumTo bs (k + 1) = mixN 2 (xorU (sumTo bs k).1 (wordOf (bs.drop (8 * k))), (sumTo bs k).2) := rfl
      rw [← hj, mixN_next, mixN_next] at hnext
      have HN := Lib.hid hnext
      clear hnext hj
      generalize hx : (sumTo bs k).1 = x at *
      generalize hy : (sumTo bs k).2 = y at *
      clear hx hy
      obtain ⟨g, o, rfl, hc⟩ := hr.at (bytesV_ne bs (by rw [HL.out]; omega))
      have hrd := (hr.keep e).drop j c (by rw [bytesV_length, HL.out]; omega) (by rw [bytesV_length, HL.out]; omega)
      rw [drop_bytes, if_neg (by omega), Option.map_some, addr_add] at hrd
      have HR := Lib.hid hrd
      have H2 := Lib.hid (show (bs.drop j).length = L - j by rw [List.length_drop, HL.out])
      clear hr hc hrd
      have i0 : (0 : Int) ≤ (j : Int) := by omega
      have i1 : (j : Int) ≤ (L : Int) := by omega
      have i2 : (L : Int) ≤ (c : Int) := by omega
      have i3 : ¬ c = j := by omega
      go_wp2_with (first
        | (go_at_call 39; refine (refWord_calls_n _ _ _ (bs.drop j) _ H2.out HR.out).mono ?_; rintro e1 w1 ⟨rfl, hb⟩; replace r1 := rowAt_keep r1 hb; replace e := Ext.trans e hb; clear hb)
        | (go_at_call 40; refine (refMix_calls _ _ _).mono ?_; rintro e w' ⟨rfl, rfl⟩))
      go_roundw
      case rel => exact ⟨k + 1, j + 8, by rw [HJ.out]; omega, by omega, by go_num, by rw [HN.out]; rfl, by rw [HN.out]; rfl, r1, e⟩
      case measure => simp [intOf]; omega
    · have hend : sumEnd bs = sumTo bs k := by unfold sumEnd; rw [HL.out, show (L + 7) / 8 = k from by omega]
      have hfin : sumFin bs = mixN 4 ((sumTo bs k).1, xorU (sumTo bs k).2 (lenU L)) := by unfold sumFin; rw [hend, HL.out]
      have hN : sumN bs = xorU (mixN 4 ((sumTo bs k).1, xorU (sumTo bs k).2 (lenU L))).1 (mixN 4 ((sumTo bs k).1, xorU (sumTo bs k).2 (lenU L))).2 := by unfold sumN; rw [hfin]
      generalize (sumTo bs k).1 = x at *
      generalize (sumTo bs k).2 = y at *
      have HS := Lib.hid hN
      clear hN hfin hend hj HJ hr
      have hxl := xor_len y L (by omega)
      go_wp2
      clear hxl
      generalize xorU y (lenU L) = z at *
      go_loopw [3, 4, 6] (fun a b i wr' => ∃ n : Nat, n ≤ 4 ∧ i = .int .i64 (n : Int) ∧ a = .int .u64 ((mixN n (x, z)).1.toNat : Int) ∧ b = .int .u64 ((mixN n (x, z)).2.toNat : Int) ∧ wr' = wr) (fun _ _ i _ => 4 - (intOf i).toNat)
      case atStart => exact ⟨0, by omega, rfl, rfl, rfl, rfl⟩
      case round =>
        obtain ⟨n, hn, rfl, rfl, rfl, rfl⟩ := hrel
        by_cases hlt4 : n < 4
        · have HN := Lib.hid (mixN_next n (x, z))
          generalize (mixN n (x, z)).1 = a at *
          generalize (mixN n (x, z)).2 = b at *
          go_wp2_with (go_at_call 40; refine (refMix_calls _ _ _).mono ?_; rintro e w' ⟨rfl, rfl⟩)
          go_roundw
          case rel => exact ⟨n + 1, by omega, by go_num, by rw [HN.out], by rw [HN.out], trivial⟩
          case measure => simp [intOf]; omega
        · obtain rfl : n = 4 := by omega
          generalize (mixN 4 (x, z)).1 = a at *
          generalize (mixN 4 (x, z)).2 = b at *
          clear hlt4 hn
          go_wp2_with (go_at_call 21; refine (refOf_calls _ _).mono ?_; rintro e1 w3 ⟨rfl, hb⟩; replace r1 := rowAt_keep r1 hb; replace e := Ext.trans e hb; clear hb)
          rw [HS.out]
          refine bodyPost_ret (retName rfl _ _ (by simp [go_sem, r1])) rfl ⟨by simp [go_sem, r1], e.setRow (Nat.le_refl _) _⟩
end Go.Proofs.Ytihgmdicglnndaa
