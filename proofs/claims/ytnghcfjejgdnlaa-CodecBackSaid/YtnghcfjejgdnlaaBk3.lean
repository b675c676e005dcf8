/-
  Layer 2: what is read back out of appended values. No condition.
-/
import Derived.Test.YtnghcfjejgdnlaaBk
set_option linter.unusedSimpArgs false
set_option linter.unusedVariables false
set_option linter.unusedSectionVars false
namespace Go.Proofs.Ytnghcfjejgdnlaa
open Go.RowKit
theorem and_mask (v : UInt64) (W : Nat) (h : W < 8) : (and6 v (sub6 (shl6 1 (8 * W)) 1)).toNat = v.toNat % 256 ^ W := by
  have hp : 2 ^ (8 * W) = 256 ^ W := by rw [Nat.pow_mul]
  have hlt : 256 ^ W ≤ 256 ^ 7 := Nat.pow_le_pow_right (by decide) (by omega)
  have hpos : 0 < 256 ^ W := Nat.pow_pos (by decide)
  have e1 : (shl6 1 (8 * W)).toNat = 256 ^ W := by
    rw [shl6, UInt64.toNat_ofNat', show (1 : UInt64).toNat = 1 from rfl, Nat.one_mul, hp, Nat.mod_eq_of_lt (by omega)]
  have e2 : (sub6 (shl6 1 (8 * W)) 1).toNat = 2 ^ (8 * W) - 1 := by
    rw [sub6, UInt64.toNat_sub, e1, hp, show (1 : UInt64).toNat = 1 from rfl]; omega
  rw [and6, UInt64.toNat_and, e2, Nat.and_two_pow_sub_one_eq_mod, hp]
theorem numN_mod (x : Vl) : (numN x).toNat = x.v.toNat % 256 ^ widN x := by
  have hw := widN_bd x
  have hv := x.v.toNat_lt
  unfold numN
  split
  · rename_i h; rw [h]; omega
  · exact and_mask x.v _ (by omega)
theorem beB_succ (v : UInt64) (w : Nat) : beB v (w + 1) = byteAt v w :: beB v w := by
  unfold beB
  rw [List.range_succ_eq_map, List.map_cons, List.map_map]
  congr 1
  refine List.map_congr_left fun j hj => ?_
  simp only [Function.comp]
  congr 1
  omega
theorem rdN_cons (c : UInt8) (l : List UInt8) : rdN (c :: l) = c.toNat * 256 ^ l.length + rdN l := by
  have key : ∀ (l : List UInt8) (a : Nat), l.foldl (fun v c => v * 256 + c.toNat) a = a * 256 ^ l.length + l.foldl (fun v c => v * 256 + c.toNat) 0 := by
    intro l
    induction l with
    | nil => intro a; simp
    | cons d l ih =>
      intro a
      simp only [List.foldl_cons, List.length_cons, Nat.zero_mul, Nat.zero_add]
      rw [ih (a * 256 + d.toNat), ih d.toNat, Nat.pow_succ, Nat.add_mul, Nat.mul_assoc, Nat.mul_comm 256 (256 ^ l.length), Nat.add_assoc]
  simp only [rdN, List.foldl_cons, Nat.zero_mul, Nat.zero_add]
  exact key l c.toNat
theorem byteAt_nat (v : UInt64) (k : Nat) : (byteAt v k).toNat = v.toNat / 256 ^ k % 256 := by
  rw [byteAt_nb, nb, UInt8.toNat_ofNat']
theorem rdN_beB (v : UInt64) : ∀ w, rdN (beB v w) = v.toNat % 256 ^ w
  | 0 => by simp [beB, rdN, Nat.mod_one]
  | w + 1 => by
    rw [beB_succ, rdN_cons, beB_length, rdN_beB v w, byteAt_nat, Nat.pow_succ, Nat.mod_mul, Nat.mul_comm, Nat.add_comm]
theorem rdU_beB (v : UInt64) (w : Nat) (h : w ≤ 8) : (rdU (beB v w)).toNat = v.toNat % 256 ^ w := by
  rw [rdU_toNat _ (by rw [beB_length]; exact h), rdN_beB]
theorem toU64_nat (n : Nat) (h : n < 18446744073709551616) : (toU64 (n : Int)).toNat = n := by
  rw [toU64, UInt64.toNat_ofNat']; omega
theorem rd_num (x : Vl) : rdU (beB x.v (widN x)) = numN x := UInt64.toNat_inj.1 (by rw [rdU_beB _ _ (widN_bd x).2, numN_mod])
theorem rd_len (n w : Nat) (h1 : w ≤ 8) (h : n < 256 ^ w) (h2 : n < 18446744073709551616) : (rdU (beB (toU64 (n : Int)) w)).toNat = n := by
  rw [rdU_beB _ _ h1, toU64_nat n h2, Nat.mod_eq_of_lt h]
theorem mid {a b c : List UInt8} {n m : Nat} (ha : a.length = n) (hb : b.length = m) : ((a ++ b ++ c).drop n).take m = b := by
  subst ha hb
  rw [List.append_assoc, List.drop_left, List.take_left]
theorem nameB_inj' {a b : UInt64} (h : nameB a = nameB b) : a = b := by
  have ha := a.toNat_lt
  have hb := b.toNat_lt
  apply UInt64.toNat_inj.1
  unfold nameB at h
  simp only [List.cons.injEq, and_true] at h
  obtain ⟨h7, h6, h5, h4, h3, h2, h1, h0⟩ := h
  have t : ∀ k, nb a k = nb b k → a.toNat / 256 ^ k % 256 = b.toNat / 256 ^ k % 256 := fun k e => by
    have := congrArg UInt8.toNat e
    simpa [nb, UInt8.toNat_ofNat'] using this
  have t7 := t 7 h7; have t6 := t 6 h6; have t5 := t 5 h5; have t4 := t 4 h4; have t3 := t 3 h3; have t2 := t 2 h2; have t1 := t 1 h1; have t0 := t 0 h0
  simp only [Nat.reducePow] at t7 t6 t5 t4 t3 t2 t1 t0
  omega
theorem flat_inj {a b : List UInt64} (h : flat a = flat b) : a = b := by
  have hl : a.length = b.length := by have := congrArg List.length h; rw [flat_length, flat_length] at this; omega
  apply List.ext_getElem?
  intro i
  by_cases hi : i < a.length
  · have e1 := flat_at a i hi
    have e2 := flat_at b i (by omega)
    rw [h, e2] at e1
    have := nameB_inj' e1
    rw [List.getD_eq_getElem?_getD, List.getD_eq_getElem?_getD, List.getElem?_eq_getElem hi, List.getElem?_eq_getElem (show i < b.length by omega)] at this
    rw [List.getElem?_eq_getElem hi, List.getElem?_eq_getElem (show i < b.length by omega)]
    exact congrArg some this.symm
  · rw [List.getElem?_eq_none (by omega), List.getElem?_eq_none (by omega)]
end Go.Proofs.Ytnghcfjejgdnlaa
