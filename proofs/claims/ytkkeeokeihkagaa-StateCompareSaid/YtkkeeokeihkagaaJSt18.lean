/-
  Layer 21: the order of cells, and what adding does to a list in ascending order: plain facts on lists, no program in sight. No condition.
-/
import Derived.Test.YtkkeeokeihkagaaK5
set_option linter.unusedSimpArgs false
set_option linter.unusedVariables false
set_option linter.unusedSectionVars false
namespace Go.Proofs.Ytkkeeokeihkagaa
open Go.RowKit
theorem cmpI_cases (x y : Int) : (cmpI x y = -1 ∧ x < y) ∨ (cmpI x y = 0 ∧ x = y) ∨ (cmpI x y = 1 ∧ y < x) := by
  unfold cmpI
  split
  · exact .inl ⟨rfl, by assumption⟩
  · split
    · exact .inr (.inr ⟨rfl, by assumption⟩)
    · exact .inr (.inl ⟨rfl, by omega⟩)
def Lx (k i : Int) (n : Nat) (k' i' : Int) (n' : Nat) : Prop := k < k' ∨ (k = k' ∧ (i < i' ∨ (i = i' ∧ n < n')))
theorem cmpC_cases (k i : Int) (n : UInt64) (k' i' : Int) (n' : UInt64) : (cmpC k i n k' i' n' = -1 ∧ Lx k i n.toNat k' i' n'.toNat) ∨ (cmpC k i n k' i' n' = 0 ∧ k = k' ∧ i = i' ∧ n.toNat = n'.toNat) ∨ (cmpC k i n k' i' n' = 1 ∧ Lx k' i' n'.toNat k i n.toNat) := by
  unfold cmpC cmpN Lx
  rcases cmpI_cases k k' with ⟨h1, h2⟩ | ⟨h1, h2⟩ | ⟨h1, h2⟩
  · rw [h1]; exact .inl ⟨rfl, .inl h2⟩
  · rw [h1]
    rcases cmpI_cases i i' with ⟨g1, g2⟩ | ⟨g1, g2⟩ | ⟨g1, g2⟩
    · rw [g1]; exact .inl ⟨rfl, .inr ⟨h2, .inl g2⟩⟩
    · rw [g1]
      rcases cmpI_cases (n.toNat : Int) (n'.toNat : Int) with ⟨f1, f2⟩ | ⟨f1, f2⟩ | ⟨f1, f2⟩
      · rw [f1]; exact .inl ⟨rfl, .inr ⟨h2, .inr ⟨g2, by omega⟩⟩⟩
      · rw [f1]; exact .inr (.inl ⟨rfl, h2, g2, by omega⟩)
      · rw [f1]; exact .inr (.inr ⟨rfl, .inr ⟨h2.symm, .inr ⟨g2.symm, by omega⟩⟩⟩)
    · rw [g1]; exact .inr (.inr ⟨rfl, .inr ⟨h2.symm, .inl g2⟩⟩)
  · rw [h1]; exact .inr (.inr ⟨rfl, .inl h2⟩)
theorem cmpC_neg (a b : Cl) : cmpC b.k b.i b.n a.k a.i a.n = - cmpC a.k a.i a.n b.k b.i b.n := by
  have h1 := cmpC_cases a.k a.i a.n b.k b.i b.n
  have h2 := cmpC_cases b.k b.i b.n a.k a.i a.n
  unfold Lx at h1 h2
  omega
theorem cmpC_zero (a b : Cl) : cmpC a.k a.i a.n b.k b.i b.n = 0 ↔ (a.k = b.k ∧ a.i = b.i ∧ a.n = b.n) := by
  have h1 := cmpC_cases a.k a.i a.n b.k b.i b.n
  unfold Lx at h1
  rw [← UInt64.toNat_inj]
  omega
theorem cmpC_trans (a b c : Cl) : (cmpC a.k a.i a.n b.k b.i b.n ≤ 0 → cmpC b.k b.i b.n c.k c.i c.n ≤ 0 → cmpC a.k a.i a.n c.k c.i c.n ≤ 0) ∧ (0 ≤ cmpC a.k a.i a.n b.k b.i b.n → 0 ≤ cmpC b.k b.i b.n c.k c.i c.n → 0 ≤ cmpC a.k a.i a.n c.k c.i c.n) := by
  have h1 := cmpC_cases a.k a.i a.n b.k b.i b.n
  have h2 := cmpC_cases b.k b.i b.n c.k c.i c.n
  have h3 := cmpC_cases a.k a.i a.n c.k c.i c.n
  unfold Lx at h1 h2 h3
  constructor <;> intro g1 g2 <;> omega
/-! ### Lists in ascending order -/
theorem ltD_trans {x y z : Dl} (h : ltD x y) (g : ltD y z) : ltD x z := by
  unfold ltD at *
  have h1 := cmpC_cases x.k x.i x.n y.k y.i y.n
  have h2 := cmpC_cases y.k y.i y.n z.k z.i z.n
  have h3 := cmpC_cases x.k x.i x.n z.k z.i z.n
  unfold Lx at h1 h2 h3
  omega
theorem Asc.pw {α : Type} {r : α → α → Prop} (ht : ∀ x y z, r x y → r y z → r x z) : ∀ {l : List α}, Asc r l → l.Pairwise r
  | [], _ => .nil
  | a :: l, h => by
    have hl : Asc r l := fun i x y hx hy => h (i + 1) x y (by simpa using hx) (by simpa using hy)
    have ih := Asc.pw ht hl
    refine .cons (fun b hb => ?_) ih
    cases l with
    | nil => cases hb
    | cons c l =>
      have hc : r a c := h 0 a c rfl rfl
      rcases List.mem_cons.1 hb with rfl | hb
      · exact hc
      · exact ht _ _ _ hc ((List.pairwise_cons.1 ih).1 b hb)
theorem Asc.of_pw {α : Type} {r : α → α → Prop} {l : List α} (h : l.Pairwise r) : Asc r l := fun i x y hx hy => by
  obtain ⟨hi, rfl⟩ := List.getElem?_eq_some_iff.1 hx
  obtain ⟨hj, rfl⟩ := List.getElem?_eq_some_iff.1 hy
  exact List.pairwise_iff_getElem.1 h i (i + 1) hi hj (Nat.lt_succ_self i)
theorem ltD_ne {x y : Dl} (h : ltD x y) : ¬ (x.k = y.k ∧ x.i = y.i ∧ x.n = y.n) := by
  rintro ⟨h1, h2, h3⟩
  have := (cmpC_zero ⟨x.k, x.i, x.n⟩ ⟨y.k, y.i, y.n⟩).2 ⟨h1, h2, h3⟩
  unfold ltD at h
  dsimp only at this
  omega
theorem eqC_iff (x d : Dl) : eqC x.k x.i x.n d = true ↔ (d.k = x.k ∧ d.i = x.i ∧ d.n = x.n) := by simp [eqC]
theorem gtL_iff (x y : Dl) : gtL x y = true ↔ ltD x y := by
  have h1 := cmpC_cases x.k x.i x.n y.k y.i y.n
  have h2 := cmpC_cases y.k y.i y.n x.k x.i x.n
  unfold Lx at h1 h2
  unfold gtL ltD
  rw [decide_eq_true_iff]
  omega
/-- sum without wrapping -/
def sumL (l : List Dl) : Int := (l.map Dl.a).sum
def getZ (l : List Dl) (c : Cl) : Int := getN l c.k c.i c.n
theorem insL_cons (a : Dl) (l : List Dl) (x : Dl) : insL (a :: l) x = if gtL x a = true then x :: a :: l else a :: insL l x := by
  unfold insL
  rw [bef]
  split
  · rfl
  · rfl
theorem insL_nil (x : Dl) : insL [] x = [x] := rfl
theorem delL_cons (a : Dl) (l : List Dl) (x : Dl) : delL (a :: l) x = if eqC x.k x.i x.n a = true then l else a :: delL l x := by
  unfold delL
  rw [bef]
  split
  · simp
  · rfl
theorem getZ_cons (a : Dl) (l : List Dl) (c : Cl) : getZ (a :: l) c = if a.k = c.k ∧ a.i = c.i ∧ a.n = c.n then a.a else getZ l c := by
  unfold getZ getN
  rw [List.find?_cons]
  by_cases h : a.k = c.k ∧ a.i = c.i ∧ a.n = c.n
  · rw [show eqC c.k c.i c.n a = true by simpa [eqC] using h, if_pos h]
  · rw [show eqC c.k c.i c.n a = false by simpa [eqC] using h, if_neg h]
theorem getZ_none {l : List Dl} {c : Cl} (h : ∀ a ∈ l, ¬ (a.k = c.k ∧ a.i = c.i ∧ a.n = c.n)) : getZ l c = 0 := by
  induction l with
  | nil => rfl
  | cons a l ih => rw [getZ_cons, if_neg (h a (by simp)), ih (fun b hb => h b (by simp [hb]))]
abbrev sameC (x : Dl) (c : Cl) : Prop := x.k = c.k ∧ x.i = c.i ∧ x.n = c.n
/-! inserting what is not there -/
theorem ins_mem {l : List Dl} {x y : Dl} : y ∈ insL l x ↔ y = x ∨ y ∈ l := by
  induction l with
  | nil => simp [insL_nil]
  | cons a l ih =>
    rw [insL_cons]
    split
    · simp
    · simp [ih]; constructor <;> rintro (h | h | h) <;> simp [h]
theorem ins_pw {l : List Dl} {x : Dl} (h : l.Pairwise ltD) (hn : ∀ a ∈ l, ¬ (a.k = x.k ∧ a.i = x.i ∧ a.n = x.n)) : (insL l x).Pairwise ltD := by
  induction l with
  | nil => rw [insL_nil]; exact List.pairwise_singleton _ _
  | cons a l ih =>
    obtain ⟨h1, h2⟩ := List.pairwise_cons.1 h
    rw [insL_cons]
    split
    · rename_i hg
      have hxa := (gtL_iff x a).1 hg
      refine .cons (fun b hb => ?_) h
      rcases List.mem_cons.1 hb with rfl | hb
      · exact hxa
      · exact ltD_trans hxa (h1 b hb)
    · rename_i hg
      have hna := hn a (by simp)
      have hax : ltD a x := by
        have c1 := cmpC_cases a.k a.i a.n x.k x.i x.n
        have c2 := cmpC_cases x.k x.i x.n a.k a.i a.n
        have c3 : ¬ ltD x a := fun h => hg ((gtL_iff x a).2 h)
        have c4 : ¬ (a.k = x.k ∧ a.i = x.i ∧ a.n.toNat = x.n.toNat) := by rw [UInt64.toNat_inj]; exact hna
        unfold Lx at c1 c2
        unfold ltD at c3 ⊢
        omega
      refine .cons (fun b hb => ?_) (ih h2 (fun b hb => hn b (by simp [hb])))
      rcases ins_mem.1 hb with rfl | hb
      · exact hax
      · exact h1 b hb
theorem ins_sum (l : List Dl) (x : Dl) : sumL (insL l x) = sumL l + x.a := by
  induction l with
  | nil => simp [insL_nil, sumL]
  | cons a l ih =>
    rw [insL_cons]
    split
    · simp only [sumL, List.map_cons, List.sum_cons]; omega
    · simp only [sumL, List.map_cons, List.sum_cons] at ih ⊢; omega
theorem ins_get {l : List Dl} {x : Dl} (hn : ∀ a ∈ l, ¬ (a.k = x.k ∧ a.i = x.i ∧ a.n = x.n)) (c : Cl) : getZ (insL l x) c = getZ l c + if sameC x c then x.a else 0 := by
  induction l with
  | nil =>
    rw [insL_nil, getZ_cons]
    have : getZ [] c = 0 := rfl
    by_cases hx : sameC x c
    · rw [if_pos hx, if_pos hx]; omega
    · rw [if_neg hx, if_neg hx]; omega
  | cons a l ih =>
    have ih := ih (fun b hb => hn b (by simp [hb]))
    have hna := hn a (by simp)
    rw [insL_cons]
    by_cases hg : gtL x a = true
    · rw [if_pos hg, getZ_cons x]
      by_cases hx : sameC x c
      · have : getZ (a :: l) c = 0 := getZ_none fun b hb hbc => hn b hb ⟨hbc.1.trans hx.1.symm, hbc.2.1.trans hx.2.1.symm, hbc.2.2.trans hx.2.2.symm⟩
        rw [if_pos hx, if_pos hx]; omega
      · rw [if_neg hx, if_neg hx]; omega
    · rw [if_neg hg, getZ_cons, getZ_cons, ih]
      by_cases ha : sameC a c
      · rw [if_pos ha, if_pos ha, if_neg]
        · omega
        · intro hx; exact hna ⟨ha.1.trans hx.1.symm, ha.2.1.trans hx.2.1.symm, ha.2.2.trans hx.2.2.symm⟩
      · rw [if_neg ha, if_neg ha]
/-! taking out, and changing, what is there -/
theorem del_mem {l : List Dl} {x y : Dl} (h : y ∈ delL l x) : y ∈ l := by
  unfold delL at h
  rcases List.mem_append.1 h with h | h
  · exact List.mem_of_mem_take h
  · exact List.mem_of_mem_drop h
theorem del_pw {l : List Dl} {x : Dl} (h : l.Pairwise ltD) : (delL l x).Pairwise ltD := by
  induction l with
  | nil => exact .nil
  | cons a l ih =>
    obtain ⟨h1, h2⟩ := List.pairwise_cons.1 h
    rw [delL_cons]
    split
    · exact h2
    · exact .cons (fun b hb => h1 b (del_mem hb)) (ih h2)
def updL (l : List Dl) (x : Dl) (b : Int) : List Dl := match l with
  | [] => []
  | a :: l => if eqC x.k x.i x.n a = true then ⟨a.k, a.i, a.n, b⟩ :: l else a :: updL l x b
theorem set_upd {l : List Dl} {x d : Dl} (h : l.find? (eqC x.k x.i x.n) = some d) (b : Int) : l.set (bef (eqC x.k x.i x.n) l) ⟨d.k, d.i, d.n, b⟩ = updL l x b := by
  induction l with
  | nil => cases h
  | cons a l ih =>
    rw [List.find?_cons] at h
    rw [bef, updL]
    cases ha : eqC x.k x.i x.n a with
    | true => rw [ha] at h; simp at h; subst h; simp
    | false => rw [ha] at h; simp only [Bool.false_eq_true, if_false, List.set_cons_succ]; rw [ih h]
theorem upd_mem {l : List Dl} {x y : Dl} {b : Int} (h : y ∈ updL l x b) : y ∈ l ∨ (∃ a ∈ l, eqC x.k x.i x.n a = true ∧ y = ⟨a.k, a.i, a.n, b⟩) := by
  induction l with
  | nil => cases h
  | cons a l ih =>
    rw [updL] at h
    split at h
    · rename_i ha
      rcases List.mem_cons.1 h with rfl | h
      · exact .inr ⟨a, by simp, ha, rfl⟩
      · exact .inl (by simp [h])
    · rcases List.mem_cons.1 h with rfl | h
      · exact .inl (by simp)
      · rcases ih h with h | ⟨c, hc, h⟩
        · exact .inl (by simp [h])
        · exact .inr ⟨c, by simp [hc], h⟩
theorem upd_pw {l : List Dl} {x : Dl} {b : Int} (h : l.Pairwise ltD) : (updL l x b).Pairwise ltD := by
  induction l with
  | nil => exact .nil
  | cons a l ih =>
    obtain ⟨h1, h2⟩ := List.pairwise_cons.1 h
    rw [updL]
    split
    · exact .cons (fun c hc => h1 c hc) h2
    · refine .cons (fun c hc => ?_) (ih h2)
      rcases upd_mem hc with hc | ⟨d, hd, _, rfl⟩
      · exact h1 c hc
      · exact h1 d hd
theorem del_sum {l : List Dl} {x d : Dl} (h : l.find? (eqC x.k x.i x.n) = some d) : sumL (delL l x) = sumL l - d.a := by
  induction l with
  | nil => cases h
  | cons a l ih =>
    rw [List.find?_cons] at h
    rw [delL_cons]
    cases ha : eqC x.k x.i x.n a with
    | true => rw [ha] at h; simp at h; subst h; simp [sumL]; omega
    | false =>
      rw [ha] at h
      have := ih h
      simp only [Bool.false_eq_true, if_false]
      simp only [sumL, List.map_cons, List.sum_cons] at this ⊢; omega
theorem upd_sum {l : List Dl} {x d : Dl} (h : l.find? (eqC x.k x.i x.n) = some d) (b : Int) : sumL (updL l x b) = sumL l - d.a + b := by
  induction l with
  | nil => cases h
  | cons a l ih =>
    rw [List.find?_cons] at h
    rw [updL]
    cases ha : eqC x.k x.i x.n a with
    | true => rw [ha] at h; simp at h; subst h; simp [sumL]; omega
    | false =>
      rw [ha] at h
      have := ih h
      simp only [Bool.false_eq_true, if_false]
      simp only [sumL, List.map_cons, List.sum_cons] at this ⊢; omega
theorem pw_uniq {a : Dl} {l : List Dl} (h : ∀ b ∈ l, ltD a b) {c : Cl} (hc : a.k = c.k ∧ a.i = c.i ∧ a.n = c.n) : getZ l c = 0 :=
  getZ_none fun b hb hbc => ltD_ne (h b hb) ⟨hc.1.trans hbc.1.symm, hc.2.1.trans hbc.2.1.symm, hc.2.2.trans hbc.2.2.symm⟩
theorem del_get {l : List Dl} {x d : Dl} (hp : l.Pairwise ltD) (h : l.find? (eqC x.k x.i x.n) = some d) (c : Cl) : getZ (delL l x) c = getZ l c + if sameC x c then - d.a else 0 := by
  induction l with
  | nil => cases h
  | cons a l ih =>
    obtain ⟨h1, h2⟩ := List.pairwise_cons.1 hp
    rw [List.find?_cons] at h
    rw [delL_cons, getZ_cons]
    cases ha : eqC x.k x.i x.n a with
    | true =>
      rw [ha] at h; simp at h; subst h
      have hax := (eqC_iff x a).1 ha
      simp only [if_true]
      by_cases hc : a.k = c.k ∧ a.i = c.i ∧ a.n = c.n
      · rw [if_pos hc, if_pos ⟨hax.1.symm.trans hc.1, hax.2.1.symm.trans hc.2.1, hax.2.2.symm.trans hc.2.2⟩, pw_uniq h1 hc]; omega
      · rw [if_neg hc, if_neg (fun hx => hc ⟨hax.1.trans hx.1, hax.2.1.trans hx.2.1, hax.2.2.trans hx.2.2⟩)]; omega
    | false =>
      rw [ha] at h
      have := ih h2 h
      simp only [Bool.false_eq_true, if_false]
      rw [getZ_cons, this]
      have hnx : ¬ (a.k = x.k ∧ a.i = x.i ∧ a.n = x.n) := fun q => by rw [(eqC_iff x a).2 q] at ha; cases ha
      by_cases hc : a.k = c.k ∧ a.i = c.i ∧ a.n = c.n
      · rw [if_pos hc, if_pos hc, if_neg (fun hx => hnx ⟨hc.1.trans hx.1.symm, hc.2.1.trans hx.2.1.symm, hc.2.2.trans hx.2.2.symm⟩)]; omega
      · rw [if_neg hc, if_neg hc]
theorem upd_get {l : List Dl} {x d : Dl} (h : l.find? (eqC x.k x.i x.n) = some d) (b : Int) (c : Cl) : getZ (updL l x b) c = getZ l c + if sameC x c then b - d.a else 0 := by
  induction l with
  | nil => cases h
  | cons a l ih =>
    rw [List.find?_cons] at h
    rw [updL, getZ_cons]
    cases ha : eqC x.k x.i x.n a with
    | true =>
      rw [ha] at h; simp at h; subst h
      have hax := (eqC_iff x a).1 ha
      simp only [if_true]
      rw [getZ_cons]
      dsimp only
      by_cases hc : a.k = c.k ∧ a.i = c.i ∧ a.n = c.n
      · rw [if_pos hc, if_pos hc, if_pos ⟨hax.1.symm.trans hc.1, hax.2.1.symm.trans hc.2.1, hax.2.2.symm.trans hc.2.2⟩]; omega
      · rw [if_neg hc, if_neg hc, if_neg (fun hx => hc ⟨hax.1.trans hx.1, hax.2.1.trans hx.2.1, hax.2.2.trans hx.2.2⟩)]; omega
    | false =>
      rw [ha] at h
      have := ih h
      simp only [Bool.false_eq_true, if_false]
      rw [getZ_cons, this]
      have hnx : ¬ (a.k = x.k ∧ a.i = x.i ∧ a.n = x.n) := fun q => by rw [(eqC_iff x a).2 q] at ha; cases ha
      by_cases hc : a.k = c.k ∧ a.i = c.i ∧ a.n = c.n
      · rw [if_pos hc, if_pos hc, if_neg (fun hx => hnx ⟨hc.1.trans hx.1.symm, hc.2.1.trans hx.2.1.symm, hc.2.2.trans hx.2.2.symm⟩)]; omega
      · rw [if_neg hc, if_neg hc]
/-- entries in order, not zero, valid cells, amounts of at most B -/
structure Gd (B : Int) (l : List Dl) : Prop where
  pw : l.Pairwise ltD
  ok : ∀ d ∈ l, okCell d.k d.i d.n ∧ d.a ≠ 0 ∧ -B ≤ d.a ∧ d.a ≤ B
theorem addI_small {a b : Int} (h : -4611686018427387000 ≤ a ∧ a ≤ 4611686018427387000) (g : -4611686018427387000 ≤ b ∧ b ≤ 4611686018427387000) : addI a b = a + b := by
  unfold addI
  exact i64w ⟨by omega, by omega⟩
theorem find_mem {l : List Dl} {x d : Dl} (h : l.find? (eqC x.k x.i x.n) = some d) : d ∈ l ∧ (d.k = x.k ∧ d.i = x.i ∧ d.n = x.n) := ⟨List.mem_of_find?_eq_some h, (eqC_iff x d).1 (List.find?_some h)⟩
theorem find_none {l : List Dl} {x : Dl} (h : l.find? (eqC x.k x.i x.n) = none) : ∀ a ∈ l, ¬ (a.k = x.k ∧ a.i = x.i ∧ a.n = x.n) := fun a ha q => List.find?_eq_none.1 h a ha ((eqC_iff x a).2 q)
theorem put_gd {B A : Int} {l : List Dl} {x : Dl} (h : Gd B l) (hB : 0 ≤ B ∧ B ≤ 4611686018427387000) (hA : 0 ≤ A ∧ A ≤ 4611686018427387000) (hx : okCell x.k x.i x.n) (hxa : -A ≤ x.a ∧ x.a ≤ A) :
    Gd (B + A) (putL l x) ∧ sumL (putL l x) = sumL l + x.a ∧ ∀ c, getZ (putL l x) c = getZ l c + if sameC x c then x.a else 0 := by
  have wk : ∀ d ∈ l, okCell d.k d.i d.n ∧ d.a ≠ 0 ∧ -(B + A) ≤ d.a ∧ d.a ≤ B + A := fun d hd => by
    obtain ⟨h1, h2, h3, h4⟩ := h.ok d hd
    exact ⟨h1, h2, by omega, by omega⟩
  unfold putL
  cases hf : l.find? (eqC x.k x.i x.n) with
  | none =>
    dsimp only
    have hn := find_none hf
    by_cases h0 : x.a = 0
    · rw [if_pos h0]
      exact ⟨⟨h.pw, wk⟩, by omega, fun c => by rw [h0]; split <;> omega⟩
    · rw [if_neg h0]
      refine ⟨⟨ins_pw h.pw hn, fun d hd => ?_⟩, ins_sum l x, ins_get hn⟩
      rcases ins_mem.1 hd with rfl | hd
      · exact ⟨hx, h0, by omega, by omega⟩
      · exact wk d hd
  | some d =>
    dsimp only
    obtain ⟨hd, hdx⟩ := find_mem hf
    obtain ⟨d1, d2, d3, d4⟩ := h.ok d hd
    have hw : addI d.a x.a = d.a + x.a := addI_small ⟨by omega, by omega⟩ ⟨by omega, by omega⟩
    rw [hw]
    by_cases h0 : d.a + x.a = 0
    · rw [if_pos h0]
      refine ⟨⟨del_pw h.pw, fun e he => wk e (del_mem he)⟩, by rw [del_sum hf]; omega, fun c => ?_⟩
      rw [del_get h.pw hf]
      split <;> omega
    · rw [if_neg h0, set_upd hf]
      refine ⟨⟨upd_pw h.pw, fun e he => ?_⟩, by rw [upd_sum hf]; omega, fun c => ?_⟩
      · rcases upd_mem he with he | ⟨a, ha, hae, rfl⟩
        · exact wk e he
        · have := (eqC_iff x a).1 hae
          refine ⟨?_, h0, by dsimp only; omega, by dsimp only; omega⟩
          dsimp only
          rw [this.1, this.2.1, this.2.2]; exact hx
      · rw [upd_get hf]
        split <;> omega
def sumC (m : List Dl) (c : Cl) : Int := (m.map fun x => if sameC x c then x.a else 0).sum
theorem add_gd {A : Int} (hA : 0 ≤ A ∧ A ≤ 1099511627776) : ∀ (m l : List Dl) (B : Int), Gd B l → 0 ≤ B → B + A * m.length ≤ 4611686018427387000 → (∀ x ∈ m, okCell x.k x.i x.n ∧ -A ≤ x.a ∧ x.a ≤ A) →
    Gd (B + A * m.length) (addL l m) ∧ sumL (addL l m) = sumL l + sumL m ∧ ∀ c, getZ (addL l m) c = getZ l c + sumC m c
  | [], l, B, h, hB, hb, _ => ⟨by simpa [addL] using h, by simp [addL, sumL], fun c => by simp [addL, sumC]⟩
  | x :: m, l, B, h, hB, hb, hm => by
    have hl : A * ((x :: m).length : Int) = A + A * (m.length : Int) := by rw [List.length_cons, Int.natCast_add, Int.mul_add]; simp; omega
    have hpos : 0 ≤ A * (m.length : Int) := Int.mul_nonneg hA.1 (by omega)
    rw [hl] at hb
    obtain ⟨p1, p2, p3⟩ := put_gd h ⟨hB, by omega⟩ ⟨hA.1, by omega⟩ (hm x (by simp)).1 (hm x (by simp)).2
    obtain ⟨q1, q2, q3⟩ := add_gd hA m (putL l x) (B + A) p1 (by omega) (by omega) (fun y hy => hm y (by simp [hy]))
    rw [hl]
    have e : addL l (x :: m) = addL (putL l x) m := rfl
    rw [e]
    refine ⟨by rw [← Int.add_assoc]; exact q1, by rw [q2, p2]; simp only [sumL, List.map_cons, List.sum_cons]; omega, fun c => ?_⟩
    rw [q3, p3]
    simp only [sumC, List.map_cons, List.sum_cons]
    omega
/-- the wrapping sums are the sums -/
theorem totN_sum : ∀ (l : List Dl) (n B : Int), 0 ≤ B → (∀ d ∈ l, -B ≤ d.a ∧ d.a ≤ B) → -(4611686018427387000 - B * l.length) ≤ n → n ≤ 4611686018427387000 - B * l.length → totN l n = n + sumL l
  | [], n, B, _, _, _, _ => by simp [totN, sumL]
  | d :: l, n, B, hB, h, h1, h2 => by
    have hl : B * ((d :: l).length : Int) = B + B * (l.length : Int) := by rw [List.length_cons, Int.natCast_add, Int.mul_add]; simp; omega
    have hpos : 0 ≤ B * (l.length : Int) := Int.mul_nonneg hB (by omega)
    rw [hl] at h1 h2
    have hd := h d (by simp)
    have e : addI n d.a = n + d.a := addI_small ⟨by omega, by omega⟩ ⟨by omega, by omega⟩
    show totN l (addI n d.a) = _
    rw [e, totN_sum l (n + d.a) B hB (fun x hx => h x (by simp [hx])) (by omega) (by omega)]
    simp only [sumL, List.map_cons, List.sum_cons]
    omega
end Go.Proofs.Ytkkeeokeihkagaa
