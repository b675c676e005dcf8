/-
  Layer 3: the law MerkleBinds returns true. Conditions: lengths below 2^47.
-/
import Derived.Test.YtocmcoknmjojcaaMrk4
set_option linter.unusedSimpArgs false
set_option linter.unusedVariables false
set_option linter.unusedSectionVars false
namespace Go.Proofs.Ytocmcoknmjojcaa
open Go.RowKit

/-! what is hashed on the way, and its names -/
def cellsS (l : List (List UInt8 × UInt64)) : List AV := l.flatMap fun x => .v (.string (strB x.1)) :: byA (nameB x.2)
theorem cellsS_append (a b : List (List UInt8 × UInt64)) : cellsS (a ++ b) = cellsS a ++ cellsS b := by simp [cellsS]
theorem cellsS_cons (x : List UInt8 × UInt64) (l : List (List UInt8 × UInt64)) : cellsS (x :: l) = (.v (.string (strB x.1)) :: byA (nameB x.2)) ++ cellsS l := by simp [cellsS]
theorem cellsS_length : ∀ l : List (List UInt8 × UInt64), (cellsS l).length = l.length * 9
  | [] => rfl
  | x :: l => by rw [cellsS_cons, List.length_append, List.length_cons, byA_length, nameB_length, cellsS_length l, List.length_cons]; omega
theorem cellsS_one (s : List UInt8) (o : UInt64) : cellsS [(s, o)] = .v (.string (strB s)) :: byA (nameB o) := by simp [cellsS]
theorem cellsS_vals (l : List (List UInt8 × UInt64)) : ∃ vs : List Value, cellsS l = vs.map .v := by
  induction l with
  | nil => exact ⟨[], rfl⟩
  | cons x l ih =>
    obtain ⟨vs, h⟩ := ih
    exact ⟨.string (strB x.1) :: (bytesV (nameB x.2) ++ vs), by rw [cellsS_cons, h, byA_vals]; simp⟩
instance (l : List (List UInt8 × UInt64)) : CloL (cellsS l) := by obtain ⟨vs, h⟩ := cellsS_vals l; rw [h]; infer_instance
instance (l : List (List UInt8 × UInt64)) : ValL (cellsS l) := by obtain ⟨vs, h⟩ := cellsS_vals l; rw [h]; infer_instance
theorem cellsS_drop : ∀ (l : List (List UInt8 × UInt64)) (k : Nat), (cellsS l).drop (k * 9) = cellsS (l.drop k)
  | l, 0 => by simp
  | [], k + 1 => by simp [cellsS]
  | x :: l, k + 1 => by
    rw [cellsS_cons, List.drop_succ_cons, ← cellsS_drop l k, Nat.succ_mul, Nat.add_comm, ← List.drop_drop]
    congr 1
theorem cs_in (l : List (List UInt8 × UInt64)) (k : Nat) (h : k < l.length) : (cellsS l)[k * 9]? = some (.v (.string (strB (l.getD k ([], 0)).1))) := by
  have e : (cellsS l)[k * 9]? = ((cellsS l).drop (k * 9))[0]? := by rw [List.getElem?_drop, Nat.add_zero]
  rw [e, cellsS_drop, List.drop_eq_getElem_cons h, cellsS_cons, List.getD_eq_getElem?_getD, List.getElem?_eq_getElem h]
  rfl
theorem cs_out (l : List (List UInt8 × UInt64)) (k : Nat) (h : k < l.length) : agu (.v (.agg (nameC (l.getD k ([], 0)).2))) (((cellsS l).drop (k * 9 + 1)).take 8) := by
  rw [← List.drop_drop, cellsS_drop, List.drop_eq_getElem_cons h, cellsS_cons, List.getD_eq_getElem?_getD, List.getElem?_eq_getElem h]
  exact agu_v (nameC l[k].2)
theorem nameB_inj {a b : UInt64} (h : nameB a = nameB b) : a = b := by
  have ha := a.toNat_lt
  have hb := b.toNat_lt
  apply UInt64.toNat_inj.1
  unfold nameB at h
  simp only [List.cons.injEq, and_true] at h
  obtain ⟨h7, h6, h5, h4, h3, h2, h1, h0⟩ := h
  have t : ∀ k, nb a k = nb b k → a.toNat / 256 ^ k % 256 = b.toNat / 256 ^ k % 256 := fun k e => by
    have := congrArg UInt8.toNat e
    simpa [nb, UInt8.toNat_ofNat'] using this
  have t7 := t 7 h7; have t6 := t 6 h6; have t5 := t 5 h5; have t4 := t 4 h4; have t3 := t 3 h3; have t2 := t 2 h2; have t1 := t 1 h1; have t0 := t 0 h0
  simp only [Nat.reducePow] at t7 t6 t5 t4 t3 t2 t1 t0
  omega
theorem spl2_pow (n : Nat) : ∀ (m k e : Nat), n - k ≤ m → k = 2 ^ e → ∃ e', spl2 n k = 2 ^ e' := by
  intro m
  induction m with
  | zero => intro k e h hk; rw [spl2_end (by omega)]; exact ⟨e, hk⟩
  | succ m ih =>
    intro k e h hk
    have hp : 0 < k := by rw [hk]; exact Nat.pow_pos (by decide)
    by_cases hc : k < n - k
    · rw [spl2_step hc hp]; exact ih (2 * k) (e + 1) (by omega) (by rw [hk, Nat.pow_succ, Nat.mul_comm])
    · rw [spl2_end hc]; exact ⟨e, hk⟩
theorem dep_log : ∀ (d n i : Nat), n ≤ 2 ^ d → depN i n ≤ d
  | 0, n, i, h => by rw [dep_one (by simp at h; omega)]; exact Nat.le_refl _
  | d + 1, n, i, h => by
    by_cases h2 : 2 ≤ n
    · have hsp := split_bd n h2
      obtain ⟨e, he⟩ : ∃ e, splitN n = 2 ^ e := spl2_pow n n 1 0 (by omega) rfl
      have hle : splitN n ≤ 2 ^ d := by
        have : 2 ^ e < 2 ^ (d + 1) := by rw [← he]; omega
        have : e < d + 1 := (Nat.pow_lt_pow_iff_right (by decide)).1 this
        rw [he]; exact Nat.pow_le_pow_right (by decide) (by omega)
      by_cases hi : i < splitN n
      · rw [dep_lo h2 hi]; have := dep_log d (splitN n) i hle; omega
      · rw [dep_hi h2 hi]; have := dep_log d (n - splitN n) (i - splitN n) (by omega); omega
    · rw [dep_one h2]; omega
section
variable (S : List UInt8 → UInt64)
def stepsN (leaf : UInt64) (i n : Nat) (p : List UInt64) : List (List UInt8 × UInt64) :=
  if h : 2 ≤ n then (if i < splitN n then stepsN leaf i (splitN n) (p.take (depN i n - 1)) ++ [(nameB (compN S leaf i (splitN n) (p.take (depN i n - 1))) ++ nameB (p.getD (depN i n - 1) 0), compN S leaf i n p)]
    else stepsN leaf (i - splitN n) (n - splitN n) (p.take (depN i n - 1)) ++ [(nameB (p.getD (depN i n - 1) 0) ++ nameB (compN S leaf (i - splitN n) (n - splitN n) (p.take (depN i n - 1))), compN S leaf i n p)])
  else [(nameB leaf, compN S leaf i n p)]
termination_by n
decreasing_by
  · exact (split_bd n h).2.1
  · have := split_bd n h; omega
theorem steps_lo {leaf : UInt64} {i n : Nat} {p : List UInt64} (h : 2 ≤ n) (hi : i < splitN n) : stepsN S leaf i n p = stepsN S leaf i (splitN n) (p.take (depN i n - 1)) ++ [(nameB (compN S leaf i (splitN n) (p.take (depN i n - 1))) ++ nameB (p.getD (depN i n - 1) 0), compN S leaf i n p)] := by rw [stepsN, dif_pos h, if_pos hi]
theorem steps_hi {leaf : UInt64} {i n : Nat} {p : List UInt64} (h : 2 ≤ n) (hi : ¬ i < splitN n) : stepsN S leaf i n p = stepsN S leaf (i - splitN n) (n - splitN n) (p.take (depN i n - 1)) ++ [(nameB (p.getD (depN i n - 1) 0) ++ nameB (compN S leaf (i - splitN n) (n - splitN n) (p.take (depN i n - 1))), compN S leaf i n p)] := by rw [stepsN, dif_pos h, if_neg hi]
theorem steps_one {leaf : UInt64} {i n : Nat} {p : List UInt64} (h : ¬ 2 ≤ n) : stepsN S leaf i n p = [(nameB leaf, compN S leaf i n p)] := by rw [stepsN, dif_neg h]
theorem steps_len : ∀ (n : Nat) (leaf : UInt64) (i : Nat) (p : List UInt64), (stepsN S leaf i n p).length = depN i n + 1 := by
  intro n
  induction n using Nat.strongRecOn with
  | _ n ih =>
    intro leaf i p
    by_cases h2 : 2 ≤ n
    · have hsp := split_bd n h2
      by_cases hi : i < splitN n
      · rw [steps_lo S h2 hi, dep_lo h2 hi, List.length_append, ih _ hsp.2.1]; rfl
      · rw [steps_hi S h2 hi, dep_hi h2 hi, List.length_append, ih (n - splitN n) (by omega)]; rfl
    · rw [steps_one S h2, dep_one h2]; rfl
theorem steps_last (n : Nat) (leaf : UInt64) (i : Nat) (p : List UInt64) : ((stepsN S leaf i n p).getD (depN i n + 1 - 1) ([], 0)).2 = compN S leaf i n p := by
  have hl := steps_len S n leaf i p
  by_cases h2 : 2 ≤ n
  · have hsp := split_bd n h2
    by_cases hi : i < splitN n
    · have := steps_len S (splitN n) leaf i (p.take (depN i n - 1))
      rw [steps_lo S h2 hi, List.getD_eq_getElem?_getD, List.getElem?_append_right (by rw [this, dep_lo h2 hi]; omega), this, dep_lo h2 hi]; simp
    · have := steps_len S (n - splitN n) leaf (i - splitN n) (p.take (depN i n - 1))
      rw [steps_hi S h2 hi, List.getD_eq_getElem?_getD, List.getElem?_append_right (by rw [this, dep_hi h2 hi]; omega), this, dep_hi h2 hi]; simp
  · rw [steps_one S h2, dep_one h2]; rfl
/-- at k two unlike inputs have one name -/
def hit (x y : List (List UInt8 × UInt64)) (k : Nat) : Prop := (x.getD k ([], 0)).1 ≠ (y.getD k ([], 0)).1 ∧ (x.getD k ([], 0)).2 = (y.getD k ([], 0)).2
theorem getD_left {x : List (List UInt8 × UInt64)} {z : List UInt8 × UInt64} {k : Nat} (h : k < x.length) : (x ++ [z]).getD k ([], 0) = x.getD k ([], 0) := by
  rw [List.getD_eq_getElem?_getD, List.getElem?_append_left h, ← List.getD_eq_getElem?_getD]
theorem getD_right {x : List (List UInt8 × UInt64)} {z : List UInt8 × UInt64} {k : Nat} (h : k = x.length) : (x ++ [z]).getD k ([], 0) = z := by
  subst h; simp [List.getD_eq_getElem?_getD]
theorem binds (a b : UInt64) (hab : a ≠ b) : ∀ (n i : Nat) (p q : List UInt64), compN S a i n p = compN S b i n q → ∃ k, k < depN i n + 1 ∧ hit (stepsN S a i n p) (stepsN S b i n q) k := by
  intro n
  induction n using Nat.strongRecOn with
  | _ n ih =>
    intro i p q he
    by_cases h2 : 2 ≤ n
    · have hsp := split_bd n h2
      by_cases hi : i < splitN n
      · have la := steps_len S (splitN n) a i (p.take (depN i n - 1))
        have lb := steps_len S (splitN n) b i (q.take (depN i n - 1))
        rw [steps_lo S h2 hi, steps_lo S h2 hi]
        by_cases hin : nameB (compN S a i (splitN n) (p.take (depN i n - 1))) ++ nameB (p.getD (depN i n - 1) 0) = nameB (compN S b i (splitN n) (q.take (depN i n - 1))) ++ nameB (q.getD (depN i n - 1) 0)
        · have hc := nameB_inj (List.append_inj hin (by rw [nameB_length, nameB_length])).1
          obtain ⟨k, hk, h1, h3⟩ := ih _ hsp.2.1 i _ _ hc
          refine ⟨k, by rw [dep_lo h2 hi]; omega, ?_⟩
          unfold hit
          rw [getD_left (by omega), getD_left (by omega)]
          exact ⟨h1, h3⟩
        · refine ⟨depN i (splitN n) + 1, by rw [dep_lo h2 hi]; omega, ?_⟩
          unfold hit
          rw [getD_right la.symm, getD_right lb.symm]
          exact ⟨hin, he⟩
      · have la := steps_len S (n - splitN n) a (i - splitN n) (p.take (depN i n - 1))
        have lb := steps_len S (n - splitN n) b (i - splitN n) (q.take (depN i n - 1))
        rw [steps_hi S h2 hi, steps_hi S h2 hi]
        by_cases hin : nameB (p.getD (depN i n - 1) 0) ++ nameB (compN S a (i - splitN n) (n - splitN n) (p.take (depN i n - 1))) = nameB (q.getD (depN i n - 1) 0) ++ nameB (compN S b (i - splitN n) (n - splitN n) (q.take (depN i n - 1)))
        · have hc := nameB_inj (List.append_inj hin (by rw [nameB_length, nameB_length])).2
          obtain ⟨k, hk, h1, h3⟩ := ih (n - splitN n) (by omega) (i - splitN n) _ _ hc
          refine ⟨k, by rw [dep_hi h2 hi]; omega, ?_⟩
          unfold hit
          rw [getD_left (by omega), getD_left (by omega)]
          exact ⟨h1, h3⟩
        · refine ⟨depN (i - splitN n) (n - splitN n) + 1, by rw [dep_hi h2 hi]; omega, ?_⟩
          unfold hit
          rw [getD_right la.symm, getD_right lb.symm]
          exact ⟨hin, he⟩
    · refine ⟨0, by omega, ?_⟩
      rw [steps_one S h2, steps_one S h2]
      exact ⟨fun e => hab (nameB_inj e), he⟩
theorem grow_cs (l : List (List UInt8 × UInt64)) (s : List UInt8) (o : UInt64) : cellsS l ++ (cu (.ag (.v (.string (strB s)) :: byA (nameB o))) ++ []) = cellsS (l ++ [(s, o)]) := by
  rw [cellsS_append, cellsS_one, List.append_nil]; rfl
end
end Go.Proofs.Ytocmcoknmjojcaa
