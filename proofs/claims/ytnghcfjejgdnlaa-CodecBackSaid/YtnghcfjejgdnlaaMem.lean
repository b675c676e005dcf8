/-
  Words for slices: a slice that is read, a slice that was made here and is appended to; what append, copy, make and the conversion to a string do. No condition.
-/
import Derived.Test.YtnghcfjejgdnlaaCore
import Derived.Maps.AppendAt
import Derived.Laws.CopyOwn
import Derived.Laws.BytesString
import Derived.Laws.MakeOwn
set_option linter.unusedSimpArgs false
set_option linter.unusedVariables false
set_option linter.unusedSectionVars false
namespace Go.Proofs.Ytnghcfjejgdnlaa
open Go.RowKit

/-- the slice's address A leads to the cells xs -/
def Rd (w : World) (A : Option Addr) (xs : List Value) : Prop := xs = [] ∨ ∃ g o, A = some ⟨g, o, none⟩ ∧ ∀ j u, xs[j]? = some u → w.cell? ⟨g, o + j, none⟩ = some u
/-- every value fills one cell -/
def Ones (xs : List Value) : Prop := ∀ u ∈ xs, u.oneCell' = true
theorem ones_nil : Ones [] := fun _ h => by cases h
theorem ones_bytes (l : List UInt8) : Ones (bytesV l) := by
  intro u hu
  simp only [bytesV, List.mem_map] at hu
  obtain ⟨c, _, rfl⟩ := hu
  rfl
theorem ones_ints (k : IntKind) (l : List Int) : Ones (l.map (Value.int k)) := by
  intro u hu
  simp only [List.mem_map] at hu
  obtain ⟨c, _, rfl⟩ := hu
  rfl
theorem ones_cons {u : Value} {l : List Value} (h : u.oneCell' = true) (k : Ones l) : Ones (u :: l) := by
  intro x hx
  rcases List.mem_cons.1 hx with rfl | h'
  · exact h
  · exact k x h'
theorem ones_append {a b : List Value} (h : Ones a) (k : Ones b) : Ones (a ++ b) := by
  intro u hu
  rcases List.mem_append.1 hu with h' | h'
  · exact h u h'
  · exact k u h'
theorem ones_nameC (n : UInt64) : Ones (nameC n).toList := ones_bytes (nameB n)

section
variable {w w' : World} {A : Option Addr} {xs : List Value}
theorem Rd.nil (w : World) (A : Option Addr) : Rd w A [] := .inl rfl
theorem Rd.keep (h : Rd w A xs) (hb : Ext w w') : Rd w' A xs := by
  rcases h with h | ⟨g, o, rfl, h⟩
  · exact .inl h
  · exact .inr ⟨g, o, rfl, fun j u hu => cell_keep (h j u hu) hb⟩
theorem Rd.drew (h : Rd w A xs) : Rd w.drew A xs := h
theorem Rd.drewN (h : Rd w A xs) (n : Nat) : Rd (w.drewN n) A xs := h
theorem Rd.below {B : Nat} (h : Rd w A xs) (hb : Below B w w') (hA : ∀ a, A = some a → a.block < B) : Rd w' A xs := by
  rcases h with h | ⟨g, o, rfl, h⟩
  · exact .inl h
  · exact .inr ⟨g, o, rfl, fun j u hu => (hb.cell (p := ⟨g, o + j, none⟩) (hA ⟨g, o, none⟩ rfl)).trans (h j u hu)⟩
theorem Rd.at (h : Rd w A xs) (hn : xs ≠ []) : ∃ g o, A = some ⟨g, o, none⟩ ∧ ∀ j u, xs[j]? = some u → w.cell? ⟨g, o + j, none⟩ = some u := h.resolve_left hn
theorem Rd.row {g : Nat} {cs : Array Value} (h : rowAt w g = some cs) (o n : Nat) : Rd w (some ⟨g, o, none⟩) ((cs.toList.drop o).take n) := by
  refine .inr ⟨g, o, rfl, fun j u hu => ?_⟩
  rw [rowAt_cell h, ← Array.getElem?_toList, ← List.getElem?_drop]
  rw [List.getElem?_take] at hu
  split at hu
  · exact hu
  · cases hu
theorem Rd.whole {g : Nat} {cs : Array Value} (h : rowAt w g = some cs) : Rd w (some ⟨g, 0, none⟩) cs.toList := by
  have := Rd.row h 0 cs.size
  rwa [List.drop_zero, List.take_of_length_le (by simp)] at this
theorem Rd.drop (h : Rd w A xs) (k c : Nat) (hk : k ≤ xs.length) (hc : xs.length ≤ c) : Rd w (if c = k then A else A.map (·.add k)) (xs.drop k) := by
  rcases h with rfl | ⟨g, o, rfl, h⟩
  · exact .inl (by simp)
  · by_cases e : xs.drop k = []
    · exact .inl e
    · have : k < xs.length := by
        rcases Nat.lt_or_ge k xs.length with h' | h'
        · exact h'
        · exact absurd (List.drop_eq_nil_of_le h') e
      rw [if_neg (by omega)]
      have hadd : (⟨g, o, none⟩ : Addr).add k = ⟨g, o + k, none⟩ := by unfold Addr.add; split <;> simp_all
      refine .inr ⟨g, o + k, by simp [hadd], fun j u hu => ?_⟩
      rw [List.getElem?_drop] at hu
      rw [Nat.add_assoc]
      exact h _ u hu
theorem Rd.take (h : Rd w A xs) (n : Nat) : Rd w A (xs.take n) := by
  rcases h with rfl | ⟨g, o, rfl, h⟩
  · exact .inl (by simp)
  · refine .inr ⟨g, o, rfl, fun j u hu => ?_⟩
    rw [List.getElem?_take] at hu
    split at hu
    · exact h j u hu
    · cases hu
/-- a slice that was made here can be read -/
theorem Rd.of_own {base : Nat} {e : TypeId} {size n c : Nat} (h : w.ownsRow base e size (.slice A n c) n xs) : Rd w A xs := by
  rcases h.2 with ⟨hv, hn⟩ | ⟨g, cap, cur, hv, _, hg, _, _, _, ht⟩
  · subst hn
    exact .inl (List.eq_nil_of_length_eq_zero (by simpa using h.1))
  · injection hv with hA
    subst hA
    have := Rd.row (rowAt_heap.2 ⟨e, hg⟩) 0 (n * size)
    rwa [List.drop_zero, ht] at this
theorem own_cells {base : Nat} {e : TypeId} {size n c : Nat} (h : w.ownsRow base e size (.slice A n c) n xs) (hn : 0 < n) :
    ∃ g, A = some ⟨g, 0, none⟩ ∧ base ≤ g ∧ g < w.heap.size ∧ ∀ j u, xs[j]? = some u → w.cell? ⟨g, j, none⟩ = some u := by
  rcases h.2 with ⟨hv, hn'⟩ | ⟨g, cap, cur, hv, hg, hh, _, _, _, ht⟩
  · omega
  · injection hv with hA
    subst hA
    refine ⟨g, rfl, hg, rowAt_lt (rowAt_heap.2 ⟨e, hh⟩), fun j u hu => ?_⟩
    rw [rowAt_cell (rowAt_heap.2 ⟨e, hh⟩), ← Array.getElem?_toList]
    rw [← ht, List.getElem?_take] at hu
    split at hu
    · exact hu
    · cases hu
theorem own_form {base : Nat} {e : TypeId} {size n : Nat} {v : Value} (h : w.ownsRow base e size v n xs) : ∃ A c, v = .slice A n c := by
  rcases h.2 with ⟨hv, hn⟩ | ⟨g, cap, cur, hv, _⟩
  · subst hn; exact ⟨none, 0, hv⟩
  · exact ⟨_, _, hv⟩
theorem own_cap {base : Nat} {e : TypeId} {size n c : Nat} (h : w.ownsRow base e size (.slice A n c) n xs) : n ≤ c ∧ c ≤ maxLen := by
  rcases h.2 with ⟨hv, hn⟩ | ⟨g, cap, cur, hv, _, _, h1, h2, _⟩
  · injection hv with _ _ hc
    subst hn hc
    exact ⟨Nat.le_refl _, by simp [maxLen]⟩
  · injection hv with _ _ hc
    subst hc
    exact ⟨h1, h2⟩
theorem own_keep {base : Nat} {e : TypeId} {size n : Nat} {v : Value} (h : w.ownsRow base e size v n xs) (hb : Ext w w') : w'.ownsRow base e size v n xs := by
  refine ⟨h.1, ?_⟩
  rcases h.2 with h' | ⟨g, cap, cur, hv, hg, hh, hr⟩
  · exact .inl h'
  · refine .inr ⟨g, cap, cur, hv, hg, ?_, hr⟩
    rw [Below.block hb g ?_]
    · exact hh
    · rcases Nat.lt_or_ge g w.heap.size with h' | h'
      · exact h'
      · rw [Array.getElem?_eq_none h'] at hh; cases hh
/-- it was made later than a given block -/
theorem own_base {base base' : Nat} {e : TypeId} {size n : Nat} {v : Value} (h : w.ownsRow base e size v n xs) (hb : base' ≤ base) : w.ownsRow base' e size v n xs := by
  refine ⟨h.1, ?_⟩
  rcases h.2 with h' | ⟨g, cap, cur, hv, hg, hr⟩
  · exact .inl h'
  · exact .inr ⟨g, cap, cur, hv, Nat.le_trans hb hg, hr⟩
theorem own_empty (w : World) (base : Nat) (e : TypeId) (size : Nat) : w.ownsRow base e size (.slice none 0 0) 0 [] := World.ownsRow_nil w base e size
/-- what may be written lies from base on -/
theorem own_block {base : Nat} {e : TypeId} {size n : Nat} {v : Value} (h : w.ownsRow base e size v n xs) : ∀ k, v.ownBlock = some k → base ≤ k := fun k hk => (h.lt k hk).1
end

/-- what a slice type must be, for the laws below -/
structure SlT (P : Program) (t e : TypeId) (size bytes : Nat) (z : Value) : Prop where
  under : P.underlying t = some (.slice e)
  info : (P.info? e).map (fun i => (i.zero, i.size, i.bytes)) = some (some z, size, bytes)
  zs : z.cells.size = size
  pos : 0 < size
  bpos : 0 < bytes

section
variable {P : Program} {t e : TypeId} {size bytes : Nat} {z : Value}
/-- append: the new slice, and what has not changed -/
theorem run_app (hT : SlT P t e size bytes z) (ty : TypeId) {w : World} {base : Nat} {v : Value} {n : Nat} {xs : List Value} (hown : w.ownsRow base e size v n xs)
    {A : Option Addr} {m c : Nat} {news : List Value} (hrd : Rd w A news) (hl : news.length = m * size) (h1 : Ones news) (hbytes : (n + m) * bytes ≤ 140737488355328) (hbase : base ≤ w.heap.size) :
    ∃ A' c' w', (Builtin.append_ #[t, t] ty #[v, .slice A m c]).run P w = .ok (.slice A' (n + m) c') w' ∧ w'.ownsRow base e size (.slice A' (n + m) c') (n + m) (xs ++ news) ∧ Below base w w' ∧ w.grownBy w' v.ownBlock ∧
      (Value.ownBlock (.slice A' (n + m) c') = v.ownBlock ∨ Value.ownBlock (.slice A' (n + m) c') = some w.heap.size) := by
  obtain ⟨hu, hi, hz, hp, hb0⟩ := hT
  cases hq : P.info? e with
  | none => simp [hq] at hi
  | some i =>
    simp only [hq, Option.map_some, Option.some.injEq, Prod.mk.injEq] at hi
    obtain ⟨i1, i2, i3⟩ := hi
    have hbel : ∀ w', w.grownBy w' v.ownBlock → Below base w w' := fun w' hg => ⟨hg.os, hg.tape, hg.output, hg.size, fun k hk => hg.block k (by omega) (fun e' => by have := own_block hown k e'.symm; omega)⟩
    have hmax : n + m ≤ maxLen := by
      have := Nat.le_mul_of_pos_right (n + m) hb0
      simp only [maxLen]; omega
    by_cases hm : news = []
    · have m0 : m = 0 := by
        subst hm
        rcases Nat.eq_zero_or_pos m with h | h
        · exact h
        · have := Nat.mul_pos h hp; simp at hl; omega
      subst hm m0
      obtain ⟨A', c', rfl⟩ := own_form hown
      have hr : (Builtin.append_ #[t, t] ty #[.slice A' n c', .slice A 0 c]).run P w = .ok (.slice A' n c') w := by
        have hc := (own_cap hown).1
        cases A <;> cases A' <;> simp [Builtin.append_, run_underlying hu, sizeOf, typeInfo, hq, Builtin.lenOf, Builtin.firstCells, hc, storeCells, loadCells, loadCellsFrom]
      exact ⟨A', c', w, by simpa using hr, by simpa using hown, Below.refl _ _, World.grownBy.refl w _, .inl (by simp [Value.ownBlock])⟩
    · obtain ⟨g, o, rfl, hc⟩ := hrd.at hm
      obtain ⟨v', w', hr, h2, h3, _, h5⟩ := run_append_own_at (P := P) w base t ty e i z size bytes hu hq i1 i2 i3 hz hp v n xs hown ⟨g, o, none⟩ m c news hl (fun j u hu => by
        have hadd : (⟨g, o, none⟩ : Addr).add j = ⟨g, o + j, none⟩ := by unfold Addr.add; split <;> simp_all
        rw [hadd]; exact hc j u hu) h1 hmax hbytes hbase
      obtain ⟨A', c', rfl⟩ := own_form h2
      exact ⟨A', c', w', hr, h2, hbel w' h3, h3, h5⟩

theorem wp_app (hT : SlT P t e size bytes z) {w : World} {base : Nat} {v : Value} {n : Nat} {xs : List Value} (hown : w.ownsRow base e size v n xs)
    {A : Option Addr} {m c : Nat} {news : List Value} (hrd : Rd w A news) (hl : news.length = m * size) (h1 : Ones news) (hbytes : (n + m) * bytes ≤ 140737488355328) (hbase : base ≤ w.heap.size)
    {o : Oper} {a : Act} {K : Act → World → Prop} {Q : Exit → Act → World → Prop} (s x : Operand) (ho : o.op = .call { callee := .builtin .append, args := #[s, x], argTypes := #[t, t] }) (hs : a.eval s = v) (hx : a.eval x = .slice A m c)
    (h : ∀ A' c' w', w'.ownsRow base e size (.slice A' (n + m) c') (n + m) (xs ++ news) → Below base w w' → w.grownBy w' v.ownBlock →
      (Value.ownBlock (.slice A' (n + m) c') = v.ownBlock ∨ Value.ownBlock (.slice A' (n + m) c') = some w.heap.size) → K (a.put o.dst (.slice A' (n + m) c')) w') : o.wp P a w K Q := by
  obtain ⟨A', c', w', hr, h2, h3, h4, h5⟩ := run_app hT o.type hown hrd hl h1 hbytes hbase (c := c)
  unfold Oper.wp execOp
  simp only [ho, resolve, invoke, builtin, Sem.run_bind, Sem.run_pure, Result.andThen_ok, List.map_toArray, List.map_cons, List.map_nil, hs, hx, hr]
  exact h A' c' w' h2 h3 h4 h5
/-- in a plain region -/
theorem wpList_app (hT : SlT P t e size bytes z) {w : World} {base : Nat} {v : Value} {n : Nat} {xs : List Value} (hown : w.ownsRow base e size v n xs)
    {A : Option Addr} {m c : Nat} {news : List Value} (hrd : Rd w A news) (hl : news.length = m * size) (h1 : Ones news) (hbytes : (n + m) * bytes ≤ 140737488355328) (hbase : base ≤ w.heap.size)
    {ops : Array Oper} {rest : List Oper} {o : Oper} {a : Act} {Q : Exit → Act → World → Prop} (hgd : o.guard = none) (s x : Operand) (ho : o.op = .call { callee := .builtin .append, args := #[s, x], argTypes := #[t, t] }) (hs : a.eval s = v) (hx : a.eval x = .slice A m c)
    (h : ∀ A' c' w', w'.ownsRow base e size (.slice A' (n + m) c') (n + m) (xs ++ news) → Below base w w' → w.grownBy w' v.ownBlock →
      (Value.ownBlock (.slice A' (n + m) c') = v.ownBlock ∨ Value.ownBlock (.slice A' (n + m) c') = some w.heap.size) → wpList P ops Q rest (a.put o.dst (.slice A' (n + m) c')) w') : wpList P ops Q (o :: rest) a w :=
  wpList_plain hgd fun _ hK => wp_app hT hown hrd hl h1 hbytes hbase s x ho hs hx fun A' c' w' a1 a2 a3 a4 => hK _ _ (h A' c' w' a1 a2 a3 a4)
/-- in a region that draws its order -/
theorem step_app (hT : SlT P t e size bytes z) {w : World} {base : Nat} {v : Value} {n : Nat} {xs : List Value} (hown : w.ownsRow base e size v n xs)
    {A : Option Addr} {m c : Nat} {news : List Value} (hrd : Rd w A news) (hl : news.length = m * size) (h1 : Ones news) (hbytes : (n + m) * bytes ≤ 140737488355328) (hbase : base ≤ w.heap.size)
    {ops : Array Oper} {o : Oper} {a : Act} {K : Act → World → Prop} {Q : Exit → Act → World → Prop} {E : Prop} (hgd : o.guard = none) (s x : Operand) (ho : o.op = .call { callee := .builtin .append, args := #[s, x], argTypes := #[t, t] }) (hs : a.eval s = v) (hx : a.eval x = .slice A m c)
    (h : ∀ A' c' w', w'.ownsRow base e size (.slice A' (n + m) c') (n + m) (xs ++ news) → Below base w w' → w.grownBy w' v.ownBlock →
      (Value.ownBlock (.slice A' (n + m) c') = v.ownBlock ∨ Value.ownBlock (.slice A' (n + m) c') = some w.heap.size) → K (a.put o.dst (.slice A' (n + m) c')) w') :
    if Region.wanted o (yielded ops a.tmps) = true then Oper.wp P o a w K Q else E := by
  have hw : Region.wanted o (yielded ops a.tmps) = true := by simp [Region.wanted, hgd]
  rw [if_pos hw]
  exact wp_app hT hown hrd hl h1 hbytes hbase s x ho hs hx h

/-- append where there is room -/
theorem run_fit (hT : SlT P t e size bytes z) (ty : TypeId) {w : World} {base g n cap : Nat} {xs : List Value} (hown : w.ownsRow base e size (.slice (some ⟨g, 0, none⟩) n cap) n xs)
    {A : Option Addr} {m c : Nat} {news : List Value} (hrd : Rd w A news) (hl : news.length = m * size) (h1 : Ones news) (hroom : n + m ≤ cap) (hbase : base ≤ w.heap.size) :
    ∃ w', (Builtin.append_ #[t, t] ty #[.slice (some ⟨g, 0, none⟩) n cap, .slice A m c]).run P w = .ok (.slice (some ⟨g, 0, none⟩) (n + m) cap) w' ∧ w'.ownsRow base e size (.slice (some ⟨g, 0, none⟩) (n + m) cap) (n + m) (xs ++ news) ∧ Below base w w' := by
  obtain ⟨hu, hi, hz, hp, hb0⟩ := hT
  cases hq : P.info? e with
  | none => simp [hq] at hi
  | some i =>
    simp only [hq, Option.map_some, Option.some.injEq, Prod.mk.injEq] at hi
    obtain ⟨i1, i2, i3⟩ := hi
    by_cases hm : news = []
    · have m0 : m = 0 := by
        subst hm
        rcases Nat.eq_zero_or_pos m with h | h
        · exact h
        · have := Nat.mul_pos h hp; simp at hl; omega
      subst hm m0
      refine ⟨w, ?_, by simpa using hown, Below.refl _ _⟩
      have hc := (own_cap hown).1
      cases A <;> simp [Builtin.append_, run_underlying hu, sizeOf, typeInfo, hq, Builtin.lenOf, Builtin.firstCells, hc, storeCells, loadCells, loadCellsFrom]
    · obtain ⟨g', o', rfl, hc⟩ := hrd.at hm
      obtain ⟨w', hr, h2, h3⟩ := run_append_fits (P := P) w base t ty e i size hu hq i2 g n cap xs hown ⟨g', o', none⟩ m c news hl (fun j u hu => by
        have hadd : (⟨g', o', none⟩ : Addr).add j = ⟨g', o' + j, none⟩ := by unfold Addr.add; split <;> simp_all
        rw [hadd]; exact hc j u hu) h1 hroom
      exact ⟨w', hr, h2, ⟨h3.os, h3.tape, h3.output, h3.size, fun k hk => h3.block k (by omega) (fun e' => by have := own_block hown k (by simpa [Value.ownBlock] using e'.symm); omega)⟩⟩
theorem wpList_fit (hT : SlT P t e size bytes z) {w : World} {base g n cap : Nat} {xs : List Value} (hown : w.ownsRow base e size (.slice (some ⟨g, 0, none⟩) n cap) n xs)
    {A : Option Addr} {m c : Nat} {news : List Value} (hrd : Rd w A news) (hl : news.length = m * size) (h1 : Ones news) (hroom : n + m ≤ cap) (hbase : base ≤ w.heap.size)
    {ops : Array Oper} {rest : List Oper} {o : Oper} {a : Act} {Q : Exit → Act → World → Prop} (hgd : o.guard = none) (s x : Operand) (ho : o.op = .call { callee := .builtin .append, args := #[s, x], argTypes := #[t, t] }) (hs : a.eval s = .slice (some ⟨g, 0, none⟩) n cap) (hx : a.eval x = .slice A m c)
    (h : ∀ w', w'.ownsRow base e size (.slice (some ⟨g, 0, none⟩) (n + m) cap) (n + m) (xs ++ news) → Below base w w' → wpList P ops Q rest (a.put o.dst (.slice (some ⟨g, 0, none⟩) (n + m) cap)) w') : wpList P ops Q (o :: rest) a w := by
  refine wpList_plain hgd fun K hK => ?_
  obtain ⟨w', hr, h2, h3⟩ := run_fit hT o.type hown hrd hl h1 hroom hbase (c := c)
  unfold Oper.wp execOp
  simp only [ho, resolve, invoke, builtin, Sem.run_bind, Sem.run_pure, Result.andThen_ok, List.map_toArray, List.map_cons, List.map_nil, hs, hx, hr]
  exact hK _ _ (h w' h2 h3)

/-- make([]T, l, c) -/
theorem run_mk (hT : SlT P t e size bytes z) (kl kc : IntKind) (l c : Int) (h0 : 0 ≤ l) (hlc : l ≤ c) (hb : (bytes : Int) * c ≤ 281474976710656) (w : World) :
    (Instr.makeSlice t (.int kl l) (.int kc c)).run P w = .ok (.slice (some ⟨w.heap.size, 0, none⟩) l.toNat c.toNat) (w.alloc (.cells (madeCells z.cells (c.toNat * size)) e)) := by
  obtain ⟨hu, hi, hz, hp, hb0⟩ := hT
  cases hq : P.info? e with
  | none => simp [hq] at hi
  | some i =>
    simp only [hq, Option.map_some, Option.some.injEq, Prod.mk.injEq] at hi
    obtain ⟨i1, i2, i3⟩ := hi
    have hc63 : c ≤ 9223372036854775807 := by
      have : c ≤ (bytes : Int) * c := by
        have h1 : (1 : Int) ≤ bytes := by omega
        have := Int.mul_le_mul_of_nonneg_right h1 (show (0 : Int) ≤ c by omega)
        omega
      omega
    have hr := run_make (P := P) w t e i z hu hq i1 kl kc l c h0 hlc (by rw [i3]; exact hb) hc63
    rw [i2] at hr
    exact hr
end

/-- copy into a row -/
theorem run_cp {P : Program} {w : World} {dT sT ty elem : TypeId} (hu : P.underlying dT = some (.slice elem)) (hs : (P.info? elem).map (·.size) = some 1) {g o dl dc : Nat} {cur : Array Value} (hg : rowAt w g = some cur)
    {A : Option Addr} {n c : Nat} {xs : List Value} (hrd : Rd w A xs) (hl : xs.length = n) (h1 : Ones xs) (hfit : o + dl ≤ cur.size) (X : Array Value) (hX : spliceA cur o (xs.take dl).toArray = X) :
    (Builtin.copy_ #[dT, sT] ty #[.slice (some ⟨g, o, none⟩) dl dc, .slice A n c]).run P w = .ok (goInt (min n dl : Nat)) (w.setRow g X) := by
  obtain ⟨t, hh⟩ := rowAt_heap.1 hg
  subst hX
  subst hl
  have hspl : spliceA cur o (xs.take dl).toArray = (cur.toList.take o ++ xs.take dl ++ cur.toList.drop (o + (xs.take dl).length)).toArray := by
    simp [spliceA]
  by_cases he : xs = []
  · subst he
    have hself : w.setRow g (spliceA cur o (([] : List Value).take dl).toArray) = w := by
      rw [hspl]
      simp only [List.take_nil, List.length_nil, Nat.add_zero, List.append_nil, List.take_append_drop, Array.toArray_toList]
      exact setRow_self w g cur t _ hh
    rw [hself]
    cases hq : P.info? elem with
    | none => simp [hq] at hs
    | some i => cases A <;> simp [Builtin.copy_, run_underlying hu, Builtin.lenOf, Builtin.firstCells, sizeOf, typeInfo, hq, storeCells, loadCells, loadCellsFrom]
  · obtain ⟨g', o', rfl, hc⟩ := hrd.at he
    have := run_copy_row (P := P) w dT sT ty elem g o dl dc ⟨g', o', none⟩ xs.length c cur t (xs.take dl) hu hs hh (by rw [List.length_take]; exact Nat.min_comm _ _) (fun j v hv => by
      have hadd : (⟨g', o', none⟩ : Addr).add j = ⟨g', o' + j, none⟩ := by unfold Addr.add; split <;> simp_all
      rw [hadd]
      rw [List.getElem?_take] at hv
      split at hv
      · exact hc j v hv
      · cases hv) (by rw [List.length_take]; omega) (fun v hv => h1 v (List.mem_of_mem_take hv))
    rw [hspl, this, List.length_take, Nat.min_comm]
theorem wp_cp {P : Program} {w : World} {dT sT elem : TypeId} (hu : P.underlying dT = some (.slice elem)) (hs : (P.info? elem).map (·.size) = some 1) {g o' dl dc : Nat} {cur : Array Value} (hg : rowAt w g = some cur)
    {A : Option Addr} {n c : Nat} {xs : List Value} (hrd : Rd w A xs) (hl : xs.length = n) (h1 : Ones xs) (hfit : o' + dl ≤ cur.size) (X : Array Value) (hX : spliceA cur o' (xs.take dl).toArray = X)
    {o : Oper} {a : Act} {K : Act → World → Prop} {Q : Exit → Act → World → Prop} (d x : Operand) (ho : o.op = .call { callee := .builtin .copy, args := #[d, x], argTypes := #[dT, sT] }) (hd : a.eval d = .slice (some ⟨g, o', none⟩) dl dc) (hx : a.eval x = .slice A n c)
    (h : K (a.put o.dst (goInt (min n dl : Nat))) (w.setRow g X)) : o.wp P a w K Q := by
  have hr := run_cp (ty := o.type) (sT := sT) (dc := dc) (c := c) hu hs hg hrd hl h1 hfit X hX
  unfold Oper.wp execOp
  simp only [ho, resolve, invoke, builtin, Sem.run_bind, Sem.run_pure, Result.andThen_ok, List.map_toArray, List.map_cons, List.map_nil, hd, hx, hr]
  exact h
theorem wpList_cp {P : Program} {w : World} {dT sT elem : TypeId} (hu : P.underlying dT = some (.slice elem)) (hs : (P.info? elem).map (·.size) = some 1) {g o' dl dc : Nat} {cur : Array Value} (hg : rowAt w g = some cur)
    {A : Option Addr} {n c : Nat} {xs : List Value} (hrd : Rd w A xs) (hl : xs.length = n) (h1 : Ones xs) (hfit : o' + dl ≤ cur.size) (X : Array Value) (hX : spliceA cur o' (xs.take dl).toArray = X)
    {ops : Array Oper} {rest : List Oper} {o : Oper} {a : Act} {Q : Exit → Act → World → Prop} (hgd : o.guard = none) (d x : Operand) (ho : o.op = .call { callee := .builtin .copy, args := #[d, x], argTypes := #[dT, sT] }) (hd : a.eval d = .slice (some ⟨g, o', none⟩) dl dc) (hx : a.eval x = .slice A n c)
    (h : wpList P ops Q rest (a.put o.dst (goInt (min n dl : Nat))) (w.setRow g X)) : wpList P ops Q (o :: rest) a w :=
  wpList_plain hgd fun _ hK => wp_cp hu hs hg hrd hl h1 hfit X hX d x ho hd hx (hK _ _ h)
theorem step_cp {P : Program} {w : World} {dT sT elem : TypeId} (hu : P.underlying dT = some (.slice elem)) (hs : (P.info? elem).map (·.size) = some 1) {g o' dl dc : Nat} {cur : Array Value} (hg : rowAt w g = some cur)
    {A : Option Addr} {n c : Nat} {xs : List Value} (hrd : Rd w A xs) (hl : xs.length = n) (h1 : Ones xs) (hfit : o' + dl ≤ cur.size) (X : Array Value) (hX : spliceA cur o' (xs.take dl).toArray = X)
    {ops : Array Oper} {o : Oper} {a : Act} {K : Act → World → Prop} {Q : Exit → Act → World → Prop} {E : Prop} (hgd : o.guard = none) (d x : Operand) (ho : o.op = .call { callee := .builtin .copy, args := #[d, x], argTypes := #[dT, sT] }) (hd : a.eval d = .slice (some ⟨g, o', none⟩) dl dc) (hx : a.eval x = .slice A n c)
    (h : K (a.put o.dst (goInt (min n dl : Nat))) (w.setRow g X)) : if Region.wanted o (yielded ops a.tmps) = true then Oper.wp P o a w K Q else E := by
  have hw : Region.wanted o (yielded ops a.tmps) = true := by simp [Region.wanted, hgd]
  rw [if_pos hw]
  exact wp_cp hu hs hg hrd hl h1 hfit X hX d x ho hd hx h

/-- a string of bytes -/
def strB (l : List UInt8) : ByteArray := ⟨l.toArray⟩
theorem strB_toList (l : List UInt8) : (strB l).toList = l := by rw [ByteArray.toList_eq]; simp [strB]
theorem strB_size (l : List UInt8) : (strB l).size = l.length := by simp [strB, ByteArray.size]
theorem strB_append (a b : List UInt8) : strB a ++ strB b = strB (a ++ b) := by
  apply ByteArray.ext
  rw [ByteArray.data_append]
  simp [strB]
theorem strB_data (s : ByteArray) : s = strB s.data.toList := by
  apply ByteArray.ext
  simp [strB]
theorem str_fold (l : List UInt8) (s : ByteArray) : ((l.map fun c => (c.toNat : Int)).foldl (fun r n => r.push (UInt8.ofNat n.toNat)) s) = ⟨s.data ++ l.toArray⟩ := by
  induction l generalizing s with
  | nil => simp
  | cons c l ih =>
    simp only [List.map_cons, List.foldl_cons, Int.toNat_natCast]
    rw [ih, UInt8.ofNat_toNat]
    congr 1
    simp [ByteArray.push]
theorem run_toString {P : Program} (w : World) (src dst e : TypeId) (A : Option Addr) (l c : Nat) (hs : P.underlying src = some (.slice e)) (he : P.underlying e = some (.int .u8)) (hd : P.underlying dst = some .string)
    (bs : List UInt8) (hl : bs.length = l) (hrd : Rd w A (bytesV bs)) : (convert src dst (.slice A l c)).run P w = .ok (.string (strB bs)) w := by
  rw [run_convert_bytes_string w src dst e A l c hs he hd]
  subst hl
  cases A with
  | none =>
    have hb : bs = [] := by
      rcases hrd with h | ⟨g, o, ha, _⟩
      · have := congrArg List.length h
        simpa [bytesV] using this
      · cases ha
    subst hb
    simp [Conv.bytesToString, strB]
    rfl
  | some a =>
    have hcell : ∀ j u, (bytesV bs)[j]? = some u → w.cell? (a.add j) = some u := by
      rcases hrd with h | ⟨g, o, ha, h⟩
      · intro j u hu; rw [h] at hu; simp at hu
      · injection ha with ha
        subst ha
        intro j u hu
        have hadd : (⟨g, o, none⟩ : Addr).add j = ⟨g, o + j, none⟩ := by unfold Addr.add; split <;> simp_all
        rw [hadd]; exact h j u hu
    have hlc := run_loadCells_list (P := P) w a (bytesV bs) hcell
    have e1 : bytesV bs = (bs.map fun c => (c.toNat : Int)).map (Value.int .u8) := by simp [bytesV]
    rw [run_bytesToString w a bs.length c (bs.map fun c => (c.toNat : Int)) (by rw [← e1]; simpa [bytesV] using hlc), str_fold, show ByteArray.empty.data = #[] from rfl]
    simp [strB]

/-! ### The order of byte strings -/
def valB : List UInt8 → Nat
  | [] => 0
  | c :: l => c.toNat * 256 ^ l.length + valB l
theorem valB_lt : ∀ l : List UInt8, valB l < 256 ^ l.length
  | [] => by simp [valB]
  | c :: l => by
    have h := valB_lt l
    have hc := c.toNat_lt
    rw [valB, List.length_cons, Nat.pow_succ]
    have : c.toNat * 256 ^ l.length + 256 ^ l.length ≤ 256 ^ l.length * 256 := by
      rw [← Nat.succ_mul, Nat.mul_comm]
      exact Nat.mul_le_mul_left _ (by omega)
    omega
theorem less_val : ∀ x y : List UInt8, x.length = y.length → Op.bytesLess x y = decide (valB x < valB y)
  | [], [], _ => by simp [Op.bytesLess, valB]
  | [], _ :: _, h => by simp at h
  | _ :: _, [], h => by simp at h
  | a :: x, b :: y, h => by
    have hl : x.length = y.length := by simpa using h
    have hx := valB_lt x
    have hy := valB_lt y
    rw [Op.bytesLess, less_val x y hl, valB, valB, hl]
    rw [hl] at hx
    generalize 256 ^ y.length = q at *
    rcases Nat.lt_trichotomy a.toNat b.toNat with hab | hab | hab
    · have h1 : a < b := UInt8.lt_iff_toNat_lt.2 hab
      have h2 : a.toNat * q + q ≤ b.toNat * q := by rw [← Nat.succ_mul]; exact Nat.mul_le_mul_right _ hab
      have h3 : a.toNat * q + valB x < b.toNat * q + valB y := by omega
      simp [h1, h3]
    · obtain rfl : a = b := UInt8.toNat_inj.1 hab
      simp
    · have h1 : ¬ a < b := fun h => by have := UInt8.lt_iff_toNat_lt.1 h; omega
      have h1' : ¬ a = b := fun h => by subst h; omega
      have h2 : b.toNat * q + q ≤ a.toNat * q := by rw [← Nat.succ_mul]; exact Nat.mul_le_mul_right _ hab
      have h3 : ¬ a.toNat * q + valB x < b.toNat * q + valB y := by omega
      rw [decide_eq_false h3]
      simp [h1, h1']
theorem valB_name (n : UInt64) : valB (nameB n) = n.toNat := by
  have := n.toNat_lt
  simp only [nameB, valB, List.length_cons, List.length_nil, Nat.reduceAdd, Nat.reducePow, nb_lt, Nat.pow_zero, Nat.mul_one, Nat.pow_one, Nat.div_one, Nat.add_zero]
  omega
theorem less_names (a b : UInt64) : Op.bytesLess (nameB a) (nameB b) = decide (a < b) := by
  rw [less_val (nameB a) (nameB b) rfl, valB_name, valB_name]
  simp [UInt64.lt_iff_toNat_lt]
/-- the name in a row -/
def nameOfC (cs : Array Value) : UInt64 := nameOf fun i => match cs[i]? with | some (.int _ n) => UInt8.ofNat n.toNat | _ => 0
theorem nameOfC_nameC (n : UInt64) : nameOfC (nameC n) = n := by
  refine name_ext _ _ fun i hi => ?_
  unfold nameOfC
  rw [nb_nameOf _ i hi, nameC_at n (7 - i) (by omega)]
  simp only [Int.toNat_natCast, UInt8.ofNat_toNat]
  rw [show 7 - (7 - i) = i from by omega]
theorem run_strName {P : Program} (w : World) (src dst e : TypeId) (hs : P.underlying src = some (.slice e)) (he : P.underlying e = some (.int .u8)) (hd : P.underlying dst = some .string) (g : Nat)
    (h1 : (rowAt w g).isSome = true) (h2 : nameC (nameOfC ((rowAt w g).getD #[])) = (rowAt w g).getD #[]) :
    (convert src dst (.slice (some ⟨g, 0, none⟩) 8 8)).run P w = .ok (.string (strB (nameB (nameOfC ((rowAt w g).getD #[]))))) w := by
  obtain ⟨cs, hcs⟩ := Option.isSome_iff_exists.1 h1
  have hrd := Rd.whole hcs
  rw [hcs] at h2 ⊢
  simp only [Option.getD_some] at h2 ⊢
  rw [← h2, nameC_toList] at hrd
  exact run_toString w src dst e _ _ _ hs he hd _ rfl hrd
end Go.Proofs.Ytnghcfjejgdnlaa
