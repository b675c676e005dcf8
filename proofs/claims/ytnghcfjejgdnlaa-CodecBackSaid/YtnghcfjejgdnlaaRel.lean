/-
  A small program logic over the model: abstract values (slices as lists of cells, own blocks by number) and how a world answers to them. No condition.
-/
import Derived.Handy
import Derived.WalkLawsBesides
import Derived.WalkSpells
import Derived.Lib.Hide
import Derived.Orders
import Derived.ChangeKeysEq
import Derived.Deep.WholeRow
import Derived.Deep.MidRow
import Derived.Laws.CopyRow
import Derived.Laws.MakeOwn
set_option linter.unusedSimpArgs false
set_option linter.unusedVariables false
set_option linter.unusedSectionVars false
namespace Go.Proofs.Ytnghcfjejgdnlaa
open Go.RowKit

/-- abstract values -/
inductive AV where
  /-- just this value -/
  | v (x : Value)
  /-- an array or struct of these cells -/
  | ag (cs : List AV)
  | tp (vs : List AV)
  /-- a pointer into own block b -/
  | pt (b o : Nat)
  /-- a slice over own block b from its head; it may have room behind -/
  | sl (b n : Nat)
  /-- a slice into own block b -/
  | sb (b o n : Nat) (c : Option Nat)
  /-- a slice over own block b from its head, of the capacity c -/
  | sc (b n c : Nat)
  /-- a slice of n elements over memory that nobody changes -/
  | ex (n : Nat) (full : Bool) (cs : List AV)
  /-- a pointer into memory that nobody changes -/
  | ep (cs : List AV)
  | fn (f : FuncId) (cap : List AV)

/-- an own block: its cells, the element's type and size -/
structure ABlk where
  cells : List AV
  elem : TypeId
  sz : Nat

/-- where an own block lies (an empty slice need not lie anywhere), and its capacity -/
structure Loc where
  g : Option Nat
  c : Nat

/-- how abstract words are to be read: the world, the blocks that may change, the place of each own block, the numbers in use -/
structure Env where
  w : World
  S : Nat → Prop
  L : Nat → Loc
  D : Nat → Prop

/-- the value reads as the abstract value says -/
inductive RV (E : Env) : AV → Value → Prop
  | v (x : Value) : RV E (.v x) x
  | ag (cs : List AV) (xs : Array Value) (hl : xs.size = cs.length) (h : ∀ (j : Nat) c x, cs[j]? = some c → xs[j]? = some x → RV E c x) : RV E (.ag cs) (.agg xs)
  | tp (cs : List AV) (xs : Array Value) (hl : xs.size = cs.length) (h : ∀ (j : Nat) c x, cs[j]? = some c → xs[j]? = some x → RV E c x) : RV E (.tp cs) (.tuple xs)
  | pt (b o g : Nat) (h : E.D b) (hg : (E.L b).g = some g) : RV E (.pt b o) (.pointer (some ⟨g, o, none⟩))
  | sl (b n : Nat) (h : E.D b) (hn : n ≤ (E.L b).c) : RV E (.sl b n) (.slice ((E.L b).g.map fun g => ⟨g, 0, none⟩) n (E.L b).c)
  | sb (b o n : Nat) (c : Option Nat) (A : Option Addr) (c' : Nat) (h : E.D b) (hA : n ≠ 0 → ∃ g, (E.L b).g = some g ∧ A = some ⟨g, o, none⟩) (hn : n ≤ c') (hc : ∀ k, c = some k → c' = k) : RV E (.sb b o n c) (.slice A n c')
  | sc (b n c : Nat) (h : E.D b) (hc : (E.L b).c = c) (hn : n ≤ c) : RV E (.sc b n c) (.slice ((E.L b).g.map fun g => ⟨g, 0, none⟩) n c)
  | ex0 (n : Nat) (full : Bool) (A : Option Addr) (c : Nat) (hn : n ≤ c) (hf : full = true → c = n) : RV E (.ex n full []) (.slice A n c)
  | ex (n : Nat) (full : Bool) (cs : List AV) (g o c : Nat) (xs : List Value) (hn : n ≤ c) (hf : full = true → c = n) (hg : g < E.w.heap.size) (hS : ¬ E.S g)
      (hl : xs.length = cs.length) (hx : ∀ (j : Nat) x, xs[j]? = some x → E.w.cell? ⟨g, o + j, none⟩ = some x)
      (h : ∀ (j : Nat) c x, cs[j]? = some c → xs[j]? = some x → RV E c x) : RV E (.ex n full cs) (.slice (some ⟨g, o, none⟩) n c)
  | ep (cs : List AV) (g o : Nat) (xs : List Value) (hg : g < E.w.heap.size) (hS : ¬ E.S g)
      (hl : xs.length = cs.length) (hx : ∀ (j : Nat) x, xs[j]? = some x → E.w.cell? ⟨g, o + j, none⟩ = some x)
      (h : ∀ (j : Nat) c x, cs[j]? = some c → xs[j]? = some x → RV E c x) : RV E (.ep cs) (.pointer (some ⟨g, o, none⟩))
  | fn (f : FuncId) (cs : List AV) (xs : Array Value) (hl : xs.size = cs.length) (h : ∀ (j : Nat) c x, cs[j]? = some c → xs[j]? = some x → RV E c x) : RV E (.fn f cs) (.func (.func f) #[] xs)

/-- E' came after E: what nobody may change has not changed -/
structure Env.le (E E' : Env) : Prop where
  size : E.w.heap.size ≤ E'.w.heap.size
  keep : ∀ g, g < E.w.heap.size → ¬ E.S g → E'.w.heap[g]? = E.w.heap[g]?
  sub : ∀ g, g < E.w.heap.size → E'.S g → E.S g
  dl : ∀ b, E.D b → E'.D b ∧ E'.L b = E.L b

theorem Env.le.refl (E : Env) : E.le E := ⟨Nat.le_refl _, fun _ _ _ => rfl, fun _ _ h => h, fun _ h => ⟨h, rfl⟩⟩
theorem Env.le.trans {E F G : Env} (h : E.le F) (k : F.le G) : E.le G :=
  ⟨Nat.le_trans h.size k.size, fun g hg hS => (k.keep g (Nat.lt_of_lt_of_le hg h.size) (fun hF => hS (h.sub g hg hF))).trans (h.keep g hg hS),
   fun g hg hG => h.sub g hg (k.sub g (Nat.lt_of_lt_of_le hg h.size) hG), fun b hb => ⟨(k.dl b (h.dl b hb).1).1, (k.dl b (h.dl b hb).1).2.trans (h.dl b hb).2⟩⟩

theorem Env.le.cell {E E' : Env} (h : E.le E') {g o : Nat} (hg : g < E.w.heap.size) (hS : ¬ E.S g) : E'.w.cell? ⟨g, o, none⟩ = E.w.cell? ⟨g, o, none⟩ :=
  World.cell?_of_block (h.keep g hg hS)

theorem RV.mono {E E' : Env} (h : E.le E') {a : AV} {x : Value} (hx : RV E a x) : RV E' a x := by
  induction hx with
  | v x => exact .v x
  | ag cs xs hl _ ih => exact .ag cs xs hl ih
  | tp cs xs hl _ ih => exact .tp cs xs hl ih
  | pt b o g hb hg => rw [← (h.dl b hb).2] at hg; exact .pt b o g (h.dl b hb).1 hg
  | sl b n hb hn => rw [← (h.dl b hb).2] at hn ⊢; exact .sl b n (h.dl b hb).1 hn
  | sb b o n c A c' hb hA hn hc => rw [← (h.dl b hb).2] at hA; exact .sb b o n c A c' (h.dl b hb).1 hA hn hc
  | sc b n c hb hc hn => rw [← (h.dl b hb).2] at hc ⊢; exact .sc b n c (h.dl b hb).1 hc hn
  | ex0 n full A c hn hf => exact .ex0 n full A c hn hf
  | ex n full cs g o c xs hn hf hg hS hl hx _ ih =>
    exact .ex n full cs g o c xs hn hf (Nat.lt_of_lt_of_le hg h.size) (fun hS' => hS (h.sub g hg hS')) hl (fun j x hj => (h.cell hg hS).trans (hx j x hj)) ih
  | ep cs g o xs hg hS hl hx _ ih =>
    exact .ep cs g o xs (Nat.lt_of_lt_of_le hg h.size) (fun hS' => hS (h.sub g hg hS')) hl (fun j x hj => (h.cell hg hS).trans (hx j x hj)) ih
  | fn f cs xs hl _ ih => exact .fn f cs xs hl ih

/-- does the abstract value fill one cell? -/
def AV.one : AV → Bool
  | .v x => x.oneCell'
  | .ag _ | .tp _ => false
  | _ => true
theorem RV.one {E : Env} {a : AV} {x : Value} (h : RV E a x) (ha : a.one = true) : x.oneCell' = true := by
  cases h <;> first | exact ha | rfl | cases ha

/-- cells, pair by pair -/
def RVs (E : Env) (cs : List AV) (xs : List Value) : Prop := xs.length = cs.length ∧ ∀ (j : Nat) c x, cs[j]? = some c → xs[j]? = some x → RV E c x
theorem RVs.mono {E E' : Env} (h : E.le E') {cs : List AV} {xs : List Value} (k : RVs E cs xs) : RVs E' cs xs := ⟨k.1, fun j c x hc hx => (k.2 j c x hc hx).mono h⟩
theorem RVs.nil (E : Env) : RVs E [] [] := ⟨rfl, fun j c x hc => by simp at hc⟩
theorem RVs.cons {E : Env} {c : AV} {x : Value} {cs : List AV} {xs : List Value} (h : RV E c x) (k : RVs E cs xs) : RVs E (c :: cs) (x :: xs) :=
  ⟨by simp [k.1], fun j d y hd hy => by
    cases j with
    | zero => simp at hd hy; subst hd hy; exact h
    | succ j => exact k.2 j d y (by simpa using hd) (by simpa using hy)⟩
theorem RVs.cons_inv {E : Env} {c : AV} {cs : List AV} {ys : List Value} (h : RVs E (c :: cs) ys) : ∃ x xs, ys = x :: xs ∧ RV E c x ∧ RVs E cs xs := by
  cases ys with
  | nil => have := h.1; simp at this
  | cons x xs => exact ⟨x, xs, rfl, h.2 0 c x rfl rfl, by have := h.1; simpa using this, fun j d y hd hy => h.2 (j + 1) d y (by simpa using hd) (by simpa using hy)⟩
theorem RVs.nil_inv {E : Env} {ys : List Value} (h : RVs E [] ys) : ys = [] := List.eq_nil_of_length_eq_zero h.1
theorem RVs.append {E : Env} {cs ds : List AV} {xs ys : List Value} (h : RVs E cs xs) (k : RVs E ds ys) : RVs E (cs ++ ds) (xs ++ ys) := by
  refine ⟨by simp [h.1, k.1], fun j c x hc hx => ?_⟩
  rw [List.getElem?_append] at hc hx
  rw [h.1] at hx
  split at hc
  · rename_i hlt; rw [if_pos hlt] at hx; exact h.2 j c x hc hx
  · rename_i hlt; rw [if_neg hlt] at hx; exact k.2 _ c x hc hx
theorem RVs.take {E : Env} {cs : List AV} {xs : List Value} (h : RVs E cs xs) (n : Nat) : RVs E (cs.take n) (xs.take n) := by
  refine ⟨by simp [h.1], fun j c x hc hx => ?_⟩
  rw [List.getElem?_take] at hc hx
  split at hc
  · rename_i hlt; rw [if_pos hlt] at hx; exact h.2 j c x hc hx
  · cases hc
theorem RVs.drop {E : Env} {cs : List AV} {xs : List Value} (h : RVs E cs xs) (n : Nat) : RVs E (cs.drop n) (xs.drop n) := by
  refine ⟨by simp [h.1], fun j c x hc hx => ?_⟩
  rw [List.getElem?_drop] at hc hx
  exact h.2 _ c x hc hx
theorem RVs.ones {E : Env} {cs : List AV} {xs : List Value} (h : RVs E cs xs) (h1 : cs.all AV.one = true) : ∀ x ∈ xs, x.oneCell' = true := by
  intro x hx
  obtain ⟨j, hj⟩ := List.getElem?_of_mem hx
  have hlt : j < cs.length := by rw [← h.1]; exact (List.getElem?_eq_some_iff.1 hj).1
  have hc : cs[j]? = some cs[j] := List.getElem?_eq_getElem hlt
  exact (h.2 j _ x hc hj).one (List.all_eq_true.1 h1 _ (List.getElem_mem hlt))
theorem RVs.vals {E : Env} (xs : List Value) : RVs E (xs.map .v) xs := by
  refine ⟨by simp, fun j c x hc hx => ?_⟩
  rw [List.getElem?_map, hx] at hc
  simp at hc
  subst hc
  exact .v x
theorem RVs.vals_inv {E : Env} {xs ys : List Value} (h : RVs E (xs.map .v) ys) : ys = xs := by
  apply List.ext_getElem?
  intro j
  cases hy : ys[j]? with
  | none =>
    have : ys.length ≤ j := List.getElem?_eq_none_iff.1 hy
    have hl := h.1
    simp at hl
    rw [List.getElem?_eq_none (by omega)]
  | some y =>
    have hlt : j < xs.length := by have := (List.getElem?_eq_some_iff.1 hy).1; have hl := h.1; simp at hl; omega
    have := h.2 j (.v xs[j]) y (by simp [List.getElem?_map, List.getElem?_eq_getElem hlt]) hy
    cases this
    exact (List.getElem?_eq_getElem hlt).symm
/-- the cells at one place -/
theorem RVs.at {E : Env} {cs : List AV} {xs : List Value} (h : RVs E cs xs) {j : Nat} {c : AV} (hc : cs[j]? = some c) : ∃ x, xs[j]? = some x ∧ RV E c x := by
  have hlt : j < xs.length := by rw [h.1]; exact (List.getElem?_eq_some_iff.1 hc).1
  exact ⟨_, List.getElem?_eq_getElem hlt, h.2 j c _ hc (List.getElem?_eq_getElem hlt)⟩

/-! ### Own blocks and slots -/
abbrev AH := List (Nat × Option ABlk)
abbrev AT := List (Nat × AV)
def hk : AH → Nat → Option ABlk
  | [], _ => none
  | (j, v) :: l, i => bif Nat.beq j i then v else hk l i
def lk : AT → Nat → Option AV
  | [], _ => none
  | (j, v) :: l, i => bif Nat.beq j i then some v else lk l i
theorem hk_cons (j : Nat) (v : Option ABlk) (l : AH) (i : Nat) : hk ((j, v) :: l) i = if j = i then v else hk l i := by
  by_cases h : j = i
  · subst h; simp [hk]
  · have : Nat.beq j i = false := by cases hb : Nat.beq j i with | false => rfl | true => exact absurd (Nat.eq_of_beq_eq_true hb) h
    simp [hk, this, h]
theorem lk_cons (j : Nat) (v : AV) (l : AT) (i : Nat) : lk ((j, v) :: l) i = if j = i then some v else lk l i := by
  by_cases h : j = i
  · subst h; simp [lk]
  · have : Nat.beq j i = false := by cases hb : Nat.beq j i with | false => rfl | true => exact absurd (Nat.eq_of_beq_eq_true hb) h
    simp [lk, this, h]

/-- an own block lies where it should, and its cells read as they should -/
def BOK (E : Env) (l : Loc) (blk : ABlk) : Prop := match l.g with
  | none => blk.cells = [] ∧ l.c = 0
  | some g => ∃ cs : Array Value, E.w.heap[g]? = some (.cells cs blk.elem (0, 0)) ∧ l.c ≤ maxLen ∧ cs.size = l.c * blk.sz ∧ blk.cells.length ≤ cs.size ∧ RVs E blk.cells (cs.toList.take blk.cells.length)

/-- the memory answers to the own blocks H; all else is as it was in w0, but for the blocks in M -/
structure Sta (w0 : World) (M : Nat → Prop) (H : AH) (E : Env) : Prop where
  os : E.w.os = w0.os
  tape : E.w.tape = w0.tape
  output : E.w.output = w0.output
  size : w0.heap.size ≤ E.w.heap.size
  frame : ∀ g, g < w0.heap.size → ¬ M g → E.w.heap[g]? = w0.heap[g]?
  seq : ∀ g, E.S g ↔ ∃ b blk, hk H b = some blk ∧ (E.L b).g = some g
  own : ∀ b blk, hk H b = some blk → E.D b ∧ (∀ g, (E.L b).g = some g → w0.heap.size ≤ g ∨ M g) ∧ BOK E (E.L b) blk
  inj : ∀ b b' blk blk' g, hk H b = some blk → hk H b' = some blk' → (E.L b).g = some g → (E.L b').g = some g → b = b'

theorem BOK.at {E : Env} {l : Loc} {blk : ABlk} {g : Nat} (h : BOK E l blk) (hg : l.g = some g) :
    ∃ cs : Array Value, E.w.heap[g]? = some (.cells cs blk.elem (0, 0)) ∧ l.c ≤ maxLen ∧ cs.size = l.c * blk.sz ∧ blk.cells.length ≤ cs.size ∧ RVs E blk.cells (cs.toList.take blk.cells.length) := by
  unfold BOK at h; rw [hg] at h; exact h
theorem BOK.none {E : Env} {l : Loc} {blk : ABlk} (h : BOK E l blk) (hg : l.g = .none) : blk.cells = [] ∧ l.c = 0 := by
  unfold BOK at h; rw [hg] at h; exact h
theorem BOK.mk {E : Env} {l : Loc} {blk : ABlk} {g : Nat} (hg : l.g = some g) (h : ∃ cs : Array Value, E.w.heap[g]? = some (.cells cs blk.elem (0, 0)) ∧ l.c ≤ maxLen ∧ cs.size = l.c * blk.sz ∧ blk.cells.length ≤ cs.size ∧ RVs E blk.cells (cs.toList.take blk.cells.length)) : BOK E l blk := by
  unfold BOK; rw [hg]; exact h
theorem BOK.mk_none {E : Env} {l : Loc} {blk : ABlk} (hg : l.g = .none) (h : blk.cells = [] ∧ l.c = 0) : BOK E l blk := by
  unfold BOK; rw [hg]; exact h
theorem BOK.lt {E : Env} {l : Loc} {blk : ABlk} {g : Nat} (h : BOK E l blk) (hg : l.g = some g) : g < E.w.heap.size := by
  obtain ⟨cs, h, _⟩ := h.at hg
  exact (Array.getElem?_eq_some_iff.1 h).1
theorem BOK.mono {E E' : Env} (h : E.le E') {l : Loc} {blk : ABlk} (k : BOK E l blk) (hg : ∀ g, l.g = some g → E'.w.heap[g]? = E.w.heap[g]?) : BOK E' l blk := by
  cases e : l.g with
  | none => exact .mk_none e (k.none e)
  | some g =>
    obtain ⟨cs, h1, h2, h3, h4, h5⟩ := k.at e
    exact .mk e ⟨cs, (hg g e).trans h1, h2, h3, h4, h5.mono h⟩
theorem Sta.lt {w0 : World} {M : Nat → Prop} {H : AH} {E : Env} (h : Sta w0 M H E) {b : Nat} {blk : ABlk} {g : Nat} (hb : hk H b = some blk) (hg : (E.L b).g = some g) : g < E.w.heap.size := (h.own b blk hb).2.2.lt hg
theorem Sta.S_lt {w0 : World} {M : Nat → Prop} {H : AH} {E : Env} (h : Sta w0 M H E) {g : Nat} (hg : E.S g) : g < E.w.heap.size := by
  obtain ⟨b, blk, hb, e⟩ := (h.seq g).1 hg
  exact h.lt hb e

/-- the value of an operand -/
def ev (T : AT) : Operand → Option AV
  | .tmp t => lk T t
  | .const c => some (.v c)
  | .global g => some (.v (.pointer (some ⟨g, 0, none⟩)))
  | .func f => some (.fn f [])
/-- the slots read as they should -/
def TR (E : Env) (T : AT) (a : Act) : Prop := ∀ t u, lk T t = some u → ∃ x, a.tmps[t]? = some x ∧ RV E u x
theorem TR.mono {E E' : Env} (h : E.le E') {T : AT} {a : Act} (k : TR E T a) : TR E' T a := fun t u ht => let ⟨x, hx, hr⟩ := k t u ht; ⟨x, hx, hr.mono h⟩
theorem TR.ev {E : Env} {T : AT} {a : Act} (k : TR E T a) {x : Operand} {u : AV} (h : ev T x = some u) : RV E u (a.eval x) := by
  cases x with
  | tmp t =>
    obtain ⟨y, hy, hr⟩ := k t u h
    have : a.eval (.tmp t) = y := by simp [Act.eval, hy]
    rw [this]; exact hr
  | const c => simp only [Proofs.Ytnghcfjejgdnlaa.ev, Option.some.injEq] at h; subst h; exact .v c
  | global g => simp only [Proofs.Ytnghcfjejgdnlaa.ev, Option.some.injEq] at h; subst h; exact .v _
  | func f => simp only [Proofs.Ytnghcfjejgdnlaa.ev, Option.some.injEq] at h; subst h; exact .fn f [] #[] rfl (fun j c x hc => by simp at hc)
theorem TR.put {E : Env} {T : AT} {a : Act} (k : TR E T a) {d : Nat} {u : AV} {x : Value} (hd : d < a.tmps.size) (hx : RV E u x) : TR E ((d, u) :: T) (a.put (some d) x) := by
  intro t u' ht
  rw [lk_cons] at ht
  split at ht
  · rename_i e; subst e; simp at ht; subst ht; exact ⟨x, by simp [Act.put, hd], hx⟩
  · rename_i e
    obtain ⟨y, hy, hr⟩ := k t u' ht
    exact ⟨y, by simp [Act.put, Array.getElem?_setIfInBounds_ne e, hy], hr⟩
theorem TR.put_none {E : Env} {T : AT} {a : Act} (k : TR E T a) (x : Value) : TR E T (a.put none x) := k
def putT (T : AT) (d : Option Tmp) (u : AV) : AT := match d with | some d => (d, u) :: T | none => T

/-- a step of one operation: it needs the own blocks in U as H has them, yields v, and turns own blocks as Hn says -/
structure StepU (P : Program) (o : Oper) (k : Nat) (U : List Nat) (H : AH) (T : AT) (v : AV) (Hn : AH) : Prop where
  run : ∀ (w0 : World) (M : Nat → Prop) (Hr : AH) (E : Env) (a : Act), Sta w0 M Hr E → (∀ b ∈ U, hk Hr b = hk H b) → (∀ b, k ≤ b → b < k + 8 → ¬ E.D b) →
    (∀ x ∈ o.op.operands, ∀ u, ev T x = some u → RV E u (a.eval x)) →
    ∀ (K : Act → World → Prop) (Q : Exit → Act → World → Prop),
      (∀ (x : Value) (E' : Env), Sta w0 M (Hn ++ Hr) E' → E.le E' → (∀ b, E'.D b → E.D b ∨ (k ≤ b ∧ b < k + 8)) → RV E' v x → K (a.put o.dst x) E'.w) → o.wp P a E.w K Q

/-- the whole state at a point of a call -/
def St (n : Nat) (w0 : World) (M : Nat → Prop) (k : Nat) (H : AH) (T : AT) (a : Act) (w : World) : Prop :=
  ∃ E : Env, E.w = w ∧ Sta w0 M H E ∧ (∀ b, E.D b → b < k) ∧ TR E T a ∧ a.tmps.size = n ∧ a.defers = []
end Go.Proofs.Ytnghcfjejgdnlaa
