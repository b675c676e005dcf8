/-
  onetime.Digits and the reference's: what each call returns. Conditions: none.
-/
import Derived.Test.YtihgmdicglnndaaBase
namespace Go.Proofs.Ytihgmdicglnndaa
open Go.RowKit
attribute [local go_sem ↓] Go.wp_at_zero Go.wp_at_succ

/-- the two digits of a byte -/
def hi4 (c : UInt8) : Nat := c.toNat / 16
def lo4 (c : UInt8) : Nat := c.toNat % 16
/-- the digits of bytes -/
def digs : List UInt8 → List Int
  | [] => []
  | c :: l => (hi4 c : Int) :: (lo4 c : Int) :: digs l
def restOf (l : List UInt8) : Int := 240 - (digs l).sum
/-- the digits of the first k bytes of a name -/
def digK (n : UInt64) (k : Nat) : List Int := digs ((nameB n).take k)
def restK (n : UInt64) (k : Nat) : Int := restOf ((nameB n).take k)
/-- the 18 digits -/
def digits (n : UInt64) : List Int := digK n 8 ++ [restK n 8 / 16, restK n 8 % 16]

theorem digs_append (a b : List UInt8) : digs (a ++ b) = digs a ++ digs b := by
  induction a with
  | nil => rfl
  | cons c a ih => simp [digs, ih]
theorem digs_length (a : List UInt8) : (digs a).length = 2 * a.length := by
  induction a with
  | nil => rfl
  | cons c a ih => simp [digs, ih]; omega
theorem nameB_at (n : UInt64) (k : Nat) (h : k < 8) : (nameB n)[k]? = some (nb n (7 - k)) := by
  match k, h with
  | 0, _ | 1, _ | 2, _ | 3, _ | 4, _ | 5, _ | 6, _ | 7, _ => rfl
theorem take_next (n : UInt64) (k : Nat) (h : k < 8) : (nameB n).take (k + 1) = (nameB n).take k ++ [nb n (7 - k)] := by
  rw [List.take_add_one, nameB_at n k h]; rfl
theorem digK_next (n : UInt64) (k : Nat) (h : k < 8) : digK n (k + 1) = digK n k ++ [(hi4 (nb n (7 - k)) : Int), (lo4 (nb n (7 - k)) : Int)] := by
  unfold digK; rw [take_next n k h, digs_append]; rfl
theorem digK_length (n : UInt64) (k : Nat) (h : k ≤ 8) : (digK n k).length = 2 * k := by
  unfold digK; rw [digs_length, List.length_take, nameB_length]; omega
theorem restK_next (n : UInt64) (k : Nat) (h : k < 8) : restK n (k + 1) = restK n k - (hi4 (nb n (7 - k)) : Int) - (lo4 (nb n (7 - k)) : Int) := by
  unfold restK restOf
  rw [take_next n k h, digs_append, List.sum_append]
  simp [digs]
  omega
theorem hi4_le (c : UInt8) : hi4 c ≤ 15 := by have := c.toNat_lt; unfold hi4; omega
theorem lo4_le (c : UInt8) : lo4 c ≤ 15 := by have := c.toNat_lt; unfold lo4; omega
theorem restK_bd (n : UInt64) (k : Nat) (h : k ≤ 8) : 240 - 30 * (k : Int) ≤ restK n k ∧ restK n k ≤ 240 := by
  induction k with
  | zero => simp [restK, restOf, digs]
  | succ k ih =>
    have := ih (by omega)
    have h1 := hi4_le (nb n (7 - k))
    have h2 := lo4_le (nb n (7 - k))
    rw [restK_next n k (by omega)]
    omega
theorem and15_u8 (c : UInt8) : bits .and .u8 (c.toNat : Int) 15 = (lo4 c : Int) := by
  have := c.toNat_lt
  have e : c.toNat &&& 15 = c.toNat % 16 := Nat.and_two_pow_sub_one_eq_mod c.toNat 4
  have h : bits .and .u8 ((c.toNat : Nat) : Int) ((15 : Nat) : Int) = ((c.toNat &&& 15 : Nat) : Int) := by
    show IntKind.u8.wrap ((BitVec.ofInt 8 ((c.toNat : Nat) : Int) &&& BitVec.ofInt 8 ((15 : Nat) : Int)).toNat : Int) = _
    rw [BitVec.toNat_and, BitVec.ofInt_natCast, BitVec.ofInt_natCast, BitVec.toNat_ofNat, BitVec.toNat_ofNat, IntKind.wrap_u8, Nat.mod_eq_of_lt (by omega : c.toNat < 2 ^ 8)]
    have : c.toNat &&& 15 ≤ 15 := Nat.and_le_right
    simp only [Nat.reducePow, Nat.reduceMod]
    omega
  unfold lo4
  rw [← e]
  exact h
theorem and15_i64 (n : Int) (h0 : 0 ≤ n) (h1 : n < 9223372036854775808) : bits .and .i64 n 15 = n % 16 := by
  obtain ⟨m, rfl⟩ := Int.eq_ofNat_of_zero_le h0
  have e : m &&& 15 = m % 16 := Nat.and_two_pow_sub_one_eq_mod m 4
  have h : bits .and .i64 ((m : Nat) : Int) ((15 : Nat) : Int) = ((m &&& 15 : Nat) : Int) := by
    show IntKind.i64.wrap ((BitVec.ofInt 64 ((m : Nat) : Int) &&& BitVec.ofInt 64 ((15 : Nat) : Int)).toNat : Int) = _
    rw [BitVec.toNat_and, BitVec.ofInt_natCast, BitVec.ofInt_natCast, BitVec.toNat_ofNat, BitVec.toNat_ofNat, IntKind.wrap_i64, Nat.mod_eq_of_lt (by omega : m < 2 ^ 64)]
    have : m &&& 15 ≤ 15 := Nat.and_le_right
    simp only [Nat.reducePow, Nat.reduceMod]
    omega
  rw [show (15 : Int) = ((15 : Nat) : Int) from rfl, h, e]
  omega
theorem hi4_shr (c : UInt8) : ((c.toNat : Int) / 16) = (hi4 c : Int) := by unfold hi4; omega

attribute [local go_sem] hi4_shr and15_u8
set_option maxHeartbeats 1000000 in
theorem digits_calls (n : UInt64) (w : World) :
    Calls Try.prog 15 #[.agg (nameC n)] w fun e w' => ∃ A c, e = .returned (.slice A 18 c) ∧ w'.ownsRow w.heap.size 3 1 (.slice A 18 c) 18 ((digits n).map (Value.int .i64)) ∧ Ext w w' := by
  have hmk := run_mk intsT .i64 .i64 0 18 (by decide) (by decide) (by decide)
  go_enter Try.func15, Try.ntmps15
  go_upto_region 1 with (fail)
  have E : Ext w (w.alloc (.cells (nameC n) 23)) := by (repeat (first | exact Ext.refl _ | assumption | refine Ext.drew ?_ | refine Ext.drewN ?_ _ | refine Ext.alloc ?_ _ | refine Ext.trans ?_ (by assumption)))
  have R1 : rowAt (w.alloc (.cells (nameC n) 23)) w.heap.size = some (nameC n) := rowAt_new _ _ _ _ (by simp)
  generalize (w.alloc (.cells (nameC n) 23)) = W at E R1 ⊢
  have L1 := rowAt_lt R1
  go_wp2
  go_loopw [3, 4, 11] (fun v r i wr => ∃ (k : Nat) (A : Option Addr) (c : Nat), k ≤ 8 ∧ i = .int .i64 k ∧ r = .int .i64 (restK n k) ∧ v = .slice A (2 * k) c ∧ wr.ownsRow W.heap.size 3 1 (.slice A (2 * k) c) (2 * k) ((digK n k).map (Value.int .i64)) ∧ Below W.heap.size W wr) (fun _ _ i _ => 8 - (intOf i).toNat)
  case atStart =>
    refine ⟨0, _, 18, by omega, rfl, rfl, rfl, World.ownsRow_made W _ 18 (Nat.le_refl _) (by decide) (by simp [size_madeCells]), Below.alloc (Below.refl _ _) (Nat.le_refl _) _⟩
  case round =>
    obtain ⟨k, A, c, hk, rfl, rfl, rfl, hown, hbel⟩ := hrel
    by_cases hlt : k < 8
    · have hr := restK_bd n k hk
      have h1 := hi4_le (nb n (7 - k))
      have h2 := lo4_le (nb n (7 - k))
      go_wp2_with (at_builtin; refine wpList_app intsT (hown.alloc _) (Rd.whole (rowAt_new _ _ _ _ rfl)) rfl (ones_cons rfl (ones_cons rfl ones_nil)) (by omega) (by have := hbel.size; simp; omega) rfl _ _ rfl rfl rfl ?_; intro A1 c1 w1 hown1 hb1 _ _)
      go_roundw
      case rel =>
        refine ⟨k + 1, A1, c1, by omega, by go_num, by rw [restK_next n k hlt]; congr 1; omega, rfl, ?_, ?_⟩
        · rw [digK_next n k hlt, List.map_append]; exact hown1
        · exact (Below.alloc hbel hbel.size _).trans hb1
      case measure => simp [intOf]; omega
    · obtain rfl : k = 8 := by omega
      have hr := restK_bd n 8 (by omega)
      have h15 := and15_i64 (restK n 8) (by omega) (by omega)
      clear hlt hk
      go_wp2_with (at_builtin; refine wpList_app intsT (hown.alloc _) (Rd.whole (rowAt_new _ _ _ _ rfl)) rfl (ones_cons rfl (ones_cons rfl ones_nil)) (by omega) (by have := hbel.size; simp; omega) rfl _ _ rfl rfl rfl ?_; intro A1 c1 w1 hown1 hb1 _ _)
      go_ret
      refine ⟨A1, c1, rfl, ?_, ?_⟩
      · have := own_base hown1 E.size
        unfold digits
        rw [List.map_append]
        exact this
      · exact E.trans ((Below.alloc hbel hbel.size _).trans hb1)

theorem wrap_hi (c : UInt8) : IntKind.i64.wrap (hi4 c : Int) = (hi4 c : Int) := by have := hi4_le c; rw [IntKind.wrap_i64]; omega
theorem wrap_lo (c : UInt8) : IntKind.i64.wrap (lo4 c : Int) = (lo4 c : Int) := by have := lo4_le c; rw [IntKind.wrap_i64]; omega
attribute [local go_sem] nameC_at wrap_hi wrap_lo
set_option maxHeartbeats 1000000 in
theorem refDigits_calls (n : UInt64) (w : World) :
    Calls Try.prog 16 #[.agg (nameC n)] w fun e w' => ∃ A c, e = .returned (.slice A 18 c) ∧ w'.ownsRow w.heap.size 3 1 (.slice A 18 c) 18 ((digits n).map (Value.int .i64)) ∧ Ext w w' := by
  go_enter Try.func16, Try.ntmps16
  go_upto_region 1 with (fail)
  have E : Ext w (w.alloc (.cells (nameC n) 23)) := by (repeat (first | exact Ext.refl _ | assumption | refine Ext.drew ?_ | refine Ext.drewN ?_ _ | refine Ext.alloc ?_ _ | refine Ext.trans ?_ (by assumption)))
  have R1 : rowAt (w.alloc (.cells (nameC n) 23)) w.heap.size = some (nameC n) := rowAt_new _ _ _ _ (by simp)
  generalize (w.alloc (.cells (nameC n) 23)) = W at E R1 ⊢
  have L1 := rowAt_lt R1
  go_wp2
  go_loopw [3, 4, 5] (fun v r i wr => ∃ (k : Nat) (A : Option Addr) (c : Nat), k ≤ 8 ∧ i = .int .i64 k ∧ r = .int .i64 (restK n k) ∧ v = .slice A (2 * k) c ∧ wr.ownsRow W.heap.size 3 1 (.slice A (2 * k) c) (2 * k) ((digK n k).map (Value.int .i64)) ∧ Below W.heap.size W wr) (fun _ _ i _ => 8 - (intOf i).toNat)
  case atStart =>
    exact ⟨0, none, 0, by omega, rfl, rfl, rfl, own_empty _ _ _ _, Below.refl _ _⟩
  case round =>
    obtain ⟨k, A, c, hk, rfl, rfl, rfl, hown, hbel⟩ := hrel
    by_cases hlt : k < 8
    · have hr := restK_bd n k hk
      have h1 := hi4_le (nb n (7 - k))
      have h2 := lo4_le (nb n (7 - k))
      have hi0 : (0 : Int) ≤ (k : Int) := by omega
      have hi8 : (k : Int) < 8 := by omega
      go_wp2
      have hrow : rowAt wr w.heap.size = some (nameC n) := (rowAt_below hbel _ L1).trans R1
      have hL : w.heap.size < wr.heap.size := rowAt_lt hrow
      go_region_held3 (fun w' => rowAt w' w.heap.size = some (nameC n) ∧ w.heap.size < w'.heap.size)
        ((refine ⟨?_, ?_⟩ <;> (first | (simp [go_sem, hrow, hL]; done) | (exact (rowAt_below hb1 _ L1).trans (by simp [go_sem, hrow, hL])) | (exact Nat.lt_of_lt_of_le (by simp; omega) hb1.size))))
        ((refine step_app intsT ((hown.alloc _).drew) (Rd.drew (Rd.whole (rowAt_new _ _ _ _ rfl))) rfl (ones_cons rfl (ones_cons rfl ones_nil)) (by omega) (by have := hbel.size; simp; omega) rfl _ _ rfl rfl rfl ?_; intro A1 c1 w1 hown1 hb1 _ _))
      rename_i hh
      obtain ⟨hrow1, hL1⟩ := hh
      clear hrow hL
      have e1 : IntKind.i64.wrap (restK n k - (hi4 (nb n (7 - k)) : Int)) = restK n k - (hi4 (nb n (7 - k)) : Int) := by rw [IntKind.wrap_i64]; omega
      have e2 : IntKind.i64.wrap (restK n k - (hi4 (nb n (7 - k)) : Int) - (lo4 (nb n (7 - k)) : Int)) = restK n k - (hi4 (nb n (7 - k)) : Int) - (lo4 (nb n (7 - k)) : Int) := by rw [IntKind.wrap_i64]; omega
      go_wp2
      go_region_held3 (fun w' => rowAt w' w.heap.size = some (nameC n)) (first | assumption | (simp [go_sem, hrow1]; done)) (first | fail)
      clear e1 e2
      go_wp2
      go_roundw
      case rel =>
        refine ⟨k + 1, A1, c1, by omega, by go_num, by rw [restK_next n k hlt], rfl, ?_, ?_⟩
        · rw [digK_next n k hlt, List.map_append]; exact hown1
        · exact ((Below.alloc hbel hbel.size _).drew.trans hb1).drew
      case measure => simp [intOf]; omega
    · obtain rfl : k = 8 := by omega
      have hr := restK_bd n 8 (by omega)
      clear hlt hk
      go_wp2_with (at_builtin; refine wpList_app intsT (hown.alloc _) (Rd.whole (rowAt_new _ _ _ _ rfl)) rfl (ones_cons rfl (ones_cons rfl ones_nil)) (by omega) (by have := hbel.size; simp; omega) rfl _ _ rfl rfl rfl ?_; intro A1 c1 w1 hown1 hb1 _ _)
      go_ret
      refine ⟨A1, c1, rfl, ?_, ?_⟩
      · have := own_base hown1 E.size
        unfold digits
        rw [List.map_append]
        exact this
      · exact E.trans ((Below.alloc hbel hbel.size _).trans hb1)
end Go.Proofs.Ytihgmdicglnndaa
