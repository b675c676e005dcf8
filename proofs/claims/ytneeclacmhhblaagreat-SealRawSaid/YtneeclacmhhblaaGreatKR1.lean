/-
  Texts laid together: Rel, Step, Ops, Opm, Opv, Core, Mem, Opa, Go, Tq, Any, Any2, Fun, Fun2, Int, Nm, Jn, Cap, Bit, Give, Le2, Clo. Conditions: as told in each.
-/
import Derived.Handy
import Derived.WalkLawsBesides
import Derived.WalkSpells
import Derived.Lib.Hide
import Derived.Orders
import Derived.ChangeKeysEq
import Derived.Deep.WholeRow
import Derived.Deep.MidRow
import Derived.Laws.CopyRow
import Derived.Laws.MakeOwn
import Derived.Maps.AppendAt
import Derived.Laws.CopyOwn
import Derived.Laws.BytesString
import Derived.Outline
import Derived.Deep.RegionHeld3
import Derived.Deep.DrawnRows
import Derived.Deep.Cut
import Derived.Deep.CutRange
import Derived.Deep.QuietTactic
import Derived.BigQuiet
import Derived.Test.YtneeclacmhhblaaGreatProg
import Derived.Lib.AppendZerosOnto
import Derived.Lib.Overlaps
import Derived.SizedLaws
import Derived.ProofKit
import Derived.OpenShut
import Derived.ShutString
import Derived.ChangeOld
import Derived.Below
import Derived.Deep.DeepAppendWide
import Derived.WalkMore
set_option linter.unusedSimpArgs false
set_option linter.unusedVariables false
set_option linter.unusedSectionVars false
namespace Go.Proofs.YtneeclacmhhblaaGreat
theorem na {α : Type _} (l : List α) : [] ++ l = l := rfl
theorem ca {α : Type _} (a : α) (l m : List α) : a :: l ++ m = a :: (l ++ m) := rfl
theorem ml {α β : Type _} (f : α → β) : List.map f [] = [] := rfl
theorem mc {α β : Type _} (f : α → β) (a : α) (l : List α) : List.map f (a :: l) = f a :: List.map f l := rfl
theorem lb {a b : Nat} (h : Nat.ble a b = true) : a ≤ b := Nat.le_of_ble_eq_true h
end Go.Proofs.YtneeclacmhhblaaGreat
namespace Go.Proofs.YtneeclacmhhblaaGreat
open Go.RowKit

inductive AV where
  | v (x : Value)
  | ag (cs : List AV)
  | tp (vs : List AV)
  | pt (b o : Nat)
  | sl (b n : Nat)
  | sb (b o n : Nat) (c : Option Nat)
  | sc (b n c : Nat)
  | ex (n : Nat) (full : Bool) (cs : List AV)
  | ep (cs : List AV)
  | fn (f : FuncId) (cap : List AV)
  | mp (b : Nat)
  | em (cs : List AV)

def kvs (es : Array MapEntry) : List Value := es.toList.flatMap fun e => [e.key, e.val]
def Stamps (es : Array MapEntry) (ck : Nat) : Prop := ck = es.size ∧ ∀ (i : Nat) e, es[i]? = some e → e.born = i
structure ABlk where
  cells : List AV
  elem : TypeId
  sz : Nat

structure Loc where
  g : Option Nat
  c : Nat

structure Env where
  w : World
  S : Nat → Prop
  L : Nat → Loc
  D : Nat → Prop

inductive RV (E : Env) : AV → Value → Prop
  | v (x : Value) : RV E (.v x) x
  | ag (cs : List AV) (xs : Array Value) (hl : xs.size = cs.length) (h : ∀ (j : Nat) c x, cs[j]? = some c → xs[j]? = some x → RV E c x) : RV E (.ag cs) (.agg xs)
  | tp (cs : List AV) (xs : Array Value) (hl : xs.size = cs.length) (h : ∀ (j : Nat) c x, cs[j]? = some c → xs[j]? = some x → RV E c x) : RV E (.tp cs) (.tuple xs)
  | pt (b o g : Nat) (h : E.D b) (hg : (E.L b).g = some g) (hm : (E.L b).c ≤ maxLen) : RV E (.pt b o) (.pointer (some ⟨g, o, none⟩))
  | sl (b n : Nat) (h : E.D b) (hn : n ≤ (E.L b).c) (hm : (E.L b).c ≤ maxLen) : RV E (.sl b n) (.slice ((E.L b).g.map fun g => ⟨g, 0, none⟩) n (E.L b).c)
  | sb (b o n : Nat) (c : Option Nat) (A : Option Addr) (c' : Nat) (h : E.D b) (hA : n ≠ 0 → ∃ g, (E.L b).g = some g ∧ A = some ⟨g, o, none⟩) (hn : n ≤ c') (hc : ∀ k, c = some k → c' = k) (hm : (E.L b).c ≤ maxLen) : RV E (.sb b o n c) (.slice A n c')
  | sc (b n c : Nat) (h : E.D b) (hc : (E.L b).c = c) (hn : n ≤ c) (hm : (E.L b).c ≤ maxLen) : RV E (.sc b n c) (.slice ((E.L b).g.map fun g => ⟨g, 0, none⟩) n c)
  | ex0 (n : Nat) (full : Bool) (A : Option Addr) (c : Nat) (hn : n ≤ c) (hf : full = true → c = n) : RV E (.ex n full []) (.slice A n c)
  | ex (n : Nat) (full : Bool) (cs : List AV) (g o c : Nat) (xs : List Value) (hn : n ≤ c) (hf : full = true → c = n) (hg : g < E.w.heap.size) (hS : ¬ E.S g)
      (hl : xs.length = cs.length) (hx : ∀ (j : Nat) x, xs[j]? = some x → E.w.cell? ⟨g, o + j, none⟩ = some x)
      (h : ∀ (j : Nat) c x, cs[j]? = some c → xs[j]? = some x → RV E c x) : RV E (.ex n full cs) (.slice (some ⟨g, o, none⟩) n c)
  | ep (cs : List AV) (g o : Nat) (xs : List Value) (hg : g < E.w.heap.size) (hS : ¬ E.S g)
      (hl : xs.length = cs.length) (hx : ∀ (j : Nat) x, xs[j]? = some x → E.w.cell? ⟨g, o + j, none⟩ = some x)
      (h : ∀ (j : Nat) c x, cs[j]? = some c → xs[j]? = some x → RV E c x) : RV E (.ep cs) (.pointer (some ⟨g, o, none⟩))
  | fn (f : FuncId) (cs : List AV) (xs : Array Value) (hl : xs.size = cs.length) (h : ∀ (j : Nat) c x, cs[j]? = some c → xs[j]? = some x → RV E c x) : RV E (.fn f cs) (.func (.func f) #[] xs)
  | mp (b g : Nat) (h : E.D b) (hg : (E.L b).g = some g) (hm : ¬ (E.L b).c ≤ maxLen) : RV E (.mp b) (.map (some g))
  | em (cs : List AV) (g : Nat) (es : Array MapEntry) (ck : Nat) (hg : g < E.w.heap.size) (hS : ¬ E.S g) (hx : E.w.heap[g]? = some (.map es ck)) (hl : (kvs es).length = cs.length)
      (h : ∀ (j : Nat) c x, cs[j]? = some c → (kvs es)[j]? = some x → RV E c x) : RV E (.em cs) (.map (some g))

structure Env.le (E E' : Env) : Prop where
  size : E.w.heap.size ≤ E'.w.heap.size
  keep : ∀ g, g < E.w.heap.size → ¬ E.S g → E'.w.heap[g]? = E.w.heap[g]?
  sub : ∀ g, g < E.w.heap.size → E'.S g → E.S g
  dl : ∀ b, E.D b → E'.D b ∧ E'.L b = E.L b

theorem Env.le.refl (E : Env) : E.le E := ⟨Nat.le_refl _, fun _ _ _ => rfl, fun _ _ h => h, fun _ h => ⟨h, rfl⟩⟩
theorem Env.le.trans {E F G : Env} (h : E.le F) (k : F.le G) : E.le G :=
  ⟨Nat.le_trans h.size k.size, fun g hg hS => (k.keep g (Nat.lt_of_lt_of_le hg h.size) (fun hF => hS (h.sub g hg hF))).trans (h.keep g hg hS),
   fun g hg hG => h.sub g hg (k.sub g (Nat.lt_of_lt_of_le hg h.size) hG), fun b hb => ⟨(k.dl b (h.dl b hb).1).1, (k.dl b (h.dl b hb).1).2.trans (h.dl b hb).2⟩⟩

theorem Env.le.cell {E E' : Env} (h : E.le E') {g o : Nat} (hg : g < E.w.heap.size) (hS : ¬ E.S g) : E'.w.cell? ⟨g, o, none⟩ = E.w.cell? ⟨g, o, none⟩ :=
  World.cell?_of_block (h.keep g hg hS)

theorem RV.mono {E E' : Env} (h : E.le E') {a : AV} {x : Value} (hx : RV E a x) : RV E' a x := by
  induction hx with
  | v x => exact .v x
  | ag cs xs hl _ ih => exact .ag cs xs hl ih
  | tp cs xs hl _ ih => exact .tp cs xs hl ih
  | pt b o g hb hg hm => rw [← (h.dl b hb).2] at hg hm; exact .pt b o g (h.dl b hb).1 hg hm
  | sl b n hb hn hm => rw [← (h.dl b hb).2] at hn hm ⊢; exact .sl b n (h.dl b hb).1 hn hm
  | sb b o n c A c' hb hA hn hc hm => rw [← (h.dl b hb).2] at hA hm; exact .sb b o n c A c' (h.dl b hb).1 hA hn hc hm
  | sc b n c hb hc hn hm => rw [← (h.dl b hb).2] at hc hm ⊢; exact .sc b n c (h.dl b hb).1 hc hn hm
  | ex0 n full A c hn hf => exact .ex0 n full A c hn hf
  | ex n full cs g o c xs hn hf hg hS hl hx _ ih =>
    exact .ex n full cs g o c xs hn hf (Nat.lt_of_lt_of_le hg h.size) (fun hS' => hS (h.sub g hg hS')) hl (fun j x hj => (h.cell hg hS).trans (hx j x hj)) ih
  | ep cs g o xs hg hS hl hx _ ih =>
    exact .ep cs g o xs (Nat.lt_of_lt_of_le hg h.size) (fun hS' => hS (h.sub g hg hS')) hl (fun j x hj => (h.cell hg hS).trans (hx j x hj)) ih
  | fn f cs xs hl _ ih => exact .fn f cs xs hl ih
  | mp b g hb hg hm => rw [← (h.dl b hb).2] at hg hm; exact .mp b g (h.dl b hb).1 hg hm
  | em cs g es ck hg hS hx hl _ ih => exact .em cs g es ck (Nat.lt_of_lt_of_le hg h.size) (fun hS' => hS (h.sub g hg hS')) ((h.keep g hg hS).trans hx) hl ih

def AV.one : AV → Bool
  | .v x => x.oneCell'
  | .ag _ | .tp _ => false
  | _ => true
theorem RV.one {E : Env} {a : AV} {x : Value} (h : RV E a x) (ha : a.one = true) : x.oneCell' = true := by
  cases h <;> first | exact ha | rfl | cases ha

def RVs (E : Env) (cs : List AV) (xs : List Value) : Prop := xs.length = cs.length ∧ ∀ (j : Nat) c x, cs[j]? = some c → xs[j]? = some x → RV E c x
theorem RVs.mono {E E' : Env} (h : E.le E') {cs : List AV} {xs : List Value} (k : RVs E cs xs) : RVs E' cs xs := ⟨k.1, fun j c x hc hx => (k.2 j c x hc hx).mono h⟩
theorem RVs.nil (E : Env) : RVs E [] [] := ⟨rfl, fun j c x hc => by simp at hc⟩
theorem RVs.cons {E : Env} {c : AV} {x : Value} {cs : List AV} {xs : List Value} (h : RV E c x) (k : RVs E cs xs) : RVs E (c :: cs) (x :: xs) :=
  ⟨by simp [k.1], fun j d y hd hy => by
    cases j with
    | zero => simp at hd hy; subst hd hy; exact h
    | succ j => exact k.2 j d y (by simpa using hd) (by simpa using hy)⟩
theorem RVs.cons_inv {E : Env} {c : AV} {cs : List AV} {ys : List Value} (h : RVs E (c :: cs) ys) : ∃ x xs, ys = x :: xs ∧ RV E c x ∧ RVs E cs xs := by
  cases ys with
  | nil => have := h.1; simp at this
  | cons x xs => exact ⟨x, xs, rfl, h.2 0 c x rfl rfl, by have := h.1; simpa using this, fun j d y hd hy => h.2 (j + 1) d y (by simpa using hd) (by simpa using hy)⟩
theorem RVs.nil_inv {E : Env} {ys : List Value} (h : RVs E [] ys) : ys = [] := List.eq_nil_of_length_eq_zero h.1
theorem RVs.append {E : Env} {cs ds : List AV} {xs ys : List Value} (h : RVs E cs xs) (k : RVs E ds ys) : RVs E (cs ++ ds) (xs ++ ys) := by
  refine ⟨by simp [h.1, k.1], fun j c x hc hx => ?_⟩
  rw [List.getElem?_append] at hc hx
  rw [h.1] at hx
  split at hc
  · rename_i hlt; rw [if_pos hlt] at hx; exact h.2 j c x hc hx
  · rename_i hlt; rw [if_neg hlt] at hx; exact k.2 _ c x hc hx
theorem RVs.take {E : Env} {cs : List AV} {xs : List Value} (h : RVs E cs xs) (n : Nat) : RVs E (cs.take n) (xs.take n) := by
  refine ⟨by simp [h.1], fun j c x hc hx => ?_⟩
  rw [List.getElem?_take] at hc hx
  split at hc
  · rename_i hlt; rw [if_pos hlt] at hx; exact h.2 j c x hc hx
  · cases hc
theorem RVs.drop {E : Env} {cs : List AV} {xs : List Value} (h : RVs E cs xs) (n : Nat) : RVs E (cs.drop n) (xs.drop n) := by
  refine ⟨by simp [h.1], fun j c x hc hx => ?_⟩
  rw [List.getElem?_drop] at hc hx
  exact h.2 _ c x hc hx
theorem RVs.ones {E : Env} {cs : List AV} {xs : List Value} (h : RVs E cs xs) (h1 : cs.all AV.one = true) : ∀ x ∈ xs, x.oneCell' = true := by
  intro x hx
  obtain ⟨j, hj⟩ := List.getElem?_of_mem hx
  have hlt : j < cs.length := by rw [← h.1]; exact (List.getElem?_eq_some_iff.1 hj).1
  have hc : cs[j]? = some cs[j] := List.getElem?_eq_getElem hlt
  exact (h.2 j _ x hc hj).one (List.all_eq_true.1 h1 _ (List.getElem_mem hlt))
theorem RVs.vals {E : Env} (xs : List Value) : RVs E (xs.map .v) xs := by
  refine ⟨by simp, fun j c x hc hx => ?_⟩
  rw [List.getElem?_map, hx] at hc
  simp at hc
  subst hc
  exact .v x
theorem RVs.vals_inv {E : Env} {xs ys : List Value} (h : RVs E (xs.map .v) ys) : ys = xs := by
  apply List.ext_getElem?
  intro j
  cases hy : ys[j]? with
  | none =>
    have : ys.length ≤ j := List.getElem?_eq_none_iff.1 hy
    have hl := h.1
    simp at hl
    rw [List.getElem?_eq_none (by omega)]
  | some y =>
    have hlt : j < xs.length := by have := (List.getElem?_eq_some_iff.1 hy).1; have hl := h.1; simp at hl; omega
    have := h.2 j (.v xs[j]) y (by simp [List.getElem?_map, List.getElem?_eq_getElem hlt]) hy
    cases this
    exact (List.getElem?_eq_getElem hlt).symm
theorem RVs.at {E : Env} {cs : List AV} {xs : List Value} (h : RVs E cs xs) {j : Nat} {c : AV} (hc : cs[j]? = some c) : ∃ x, xs[j]? = some x ∧ RV E c x := by
  have hlt : j < xs.length := by rw [h.1]; exact (List.getElem?_eq_some_iff.1 hc).1
  exact ⟨_, List.getElem?_eq_getElem hlt, h.2 j c _ hc (List.getElem?_eq_getElem hlt)⟩

abbrev AH := List (Nat × Option ABlk)
abbrev AT := List (Nat × AV)
def hk : AH → Nat → Option ABlk
  | [], _ => none
  | (j, v) :: l, i => bif Nat.beq j i then v else hk l i
def lk : AT → Nat → Option AV
  | [], _ => none
  | (j, v) :: l, i => bif Nat.beq j i then some v else lk l i
theorem hk_cons (j : Nat) (v : Option ABlk) (l : AH) (i : Nat) : hk ((j, v) :: l) i = if j = i then v else hk l i := by
  by_cases h : j = i
  · subst h; simp [hk]
  · have : Nat.beq j i = false := by cases hb : Nat.beq j i with | false => rfl | true => exact absurd (Nat.eq_of_beq_eq_true hb) h
    simp [hk, this, h]
theorem lk_cons (j : Nat) (v : AV) (l : AT) (i : Nat) : lk ((j, v) :: l) i = if j = i then some v else lk l i := by
  by_cases h : j = i
  · subst h; simp [lk]
  · have : Nat.beq j i = false := by cases hb : Nat.beq j i with | false => rfl | true => exact absurd (Nat.eq_of_beq_eq_true hb) h
    simp [lk, this, h]

def BOK (E : Env) (l : Loc) (blk : ABlk) : Prop := match l.g with
  | none => blk.cells = [] ∧ l.c = 0
  | some g => if l.c ≤ maxLen then ∃ cs : Array Value, E.w.heap[g]? = some (.cells cs blk.elem (0, 0)) ∧ l.c ≤ maxLen ∧ cs.size = l.c * blk.sz ∧ blk.cells.length ≤ cs.size ∧ RVs E blk.cells (cs.toList.take blk.cells.length)
    else (∃ (es : Array MapEntry) (ck : Nat), E.w.heap[g]? = some (.map es ck) ∧ RVs E blk.cells (kvs es)) ∧ blk.sz = 0 ∧ ∀ es ck, E.w.heap[g]? = some (.map es ck) → Stamps es ck

structure Mod where
  bl : Nat → Prop
  hid : Nat → Prop
  np : Nat
  loc : Nat → Loc
instance : CoeFun Mod fun _ => Nat → Prop := ⟨Mod.bl⟩
def Mod.of (bl : Nat → Prop) : Mod := ⟨bl, fun _ => False, 0, fun _ => ⟨none, 0⟩⟩
def Mod.no : Mod := ⟨fun _ => False, fun _ => False, 0, fun _ => ⟨none, 0⟩⟩
structure Sta (w0 : World) (M : Mod) (H : AH) (E : Env) : Prop where
  os : E.w.os = w0.os
  tape : E.w.tape = w0.tape
  output : E.w.output = w0.output
  size : w0.heap.size ≤ E.w.heap.size
  frame : ∀ g, g < w0.heap.size → ¬ M g → E.w.heap[g]? = w0.heap[g]?
  seq : ∀ g, E.S g ↔ (∃ b blk, hk H b = some blk ∧ (E.L b).g = some g) ∨ M.hid g
  own : ∀ b blk, hk H b = some blk → E.D b ∧ (∀ g, (E.L b).g = some g → w0.heap.size ≤ g ∨ M g) ∧ BOK E (E.L b) blk
  inj : ∀ b b' blk blk' g, hk H b = some blk → hk H b' = some blk' → (E.L b).g = some g → (E.L b').g = some g → b = b'
  hid : ∀ g, M.hid g → g < w0.heap.size ∧ ¬ M g
  pin : ∀ b, b < M.np → E.D b ∧ E.L b = M.loc b
theorem Sta.S_of {w0 : World} {M : Mod} {H : AH} {E : Env} (h : Sta w0 M H E) {b : Nat} {blk : ABlk} {g : Nat} (hb : hk H b = some blk) (hg : (E.L b).g = some g) : E.S g := (h.seq g).2 (.inl ⟨b, blk, hb, hg⟩)
theorem Sta.pin_le {w0 : World} {M : Mod} {H : AH} {E E' : Env} (h : Sta w0 M H E) (hle : E.le E') : ∀ b, b < M.np → E'.D b ∧ E'.L b = M.loc b := fun b hb => ⟨(hle.dl b (h.pin b hb).1).1, (hle.dl b (h.pin b hb).1).2.trans (h.pin b hb).2⟩
theorem Sta.nhid {w0 : World} {M : Mod} {H : AH} {E : Env} (h : Sta w0 M H E) {b : Nat} {blk : ABlk} {g : Nat} (hb : hk H b = some blk) (hg : (E.L b).g = some g) : ¬ M.hid g := fun hh => by
  obtain ⟨h1, h2⟩ := h.hid g hh
  rcases (h.own b blk hb).2.1 g hg with h3 | h3
  · omega
  · exact h2 h3

theorem BOK.at {E : Env} {l : Loc} {blk : ABlk} {g : Nat} (h : BOK E l blk) (hg : l.g = some g) (hm : l.c ≤ maxLen) :
    ∃ cs : Array Value, E.w.heap[g]? = some (.cells cs blk.elem (0, 0)) ∧ l.c ≤ maxLen ∧ cs.size = l.c * blk.sz ∧ blk.cells.length ≤ cs.size ∧ RVs E blk.cells (cs.toList.take blk.cells.length) := by
  unfold BOK at h; rw [hg] at h; dsimp only at h; rw [if_pos hm] at h; exact h
theorem BOK.atM {E : Env} {l : Loc} {blk : ABlk} {g : Nat} (h : BOK E l blk) (hg : l.g = some g) (hm : ¬ l.c ≤ maxLen) : ∃ (es : Array MapEntry) (ck : Nat), E.w.heap[g]? = some (.map es ck) ∧ RVs E blk.cells (kvs es) := by
  unfold BOK at h; rw [hg] at h; dsimp only at h; rw [if_neg hm] at h; exact h.1
theorem BOK.szM {E : Env} {l : Loc} {blk : ABlk} {g : Nat} (h : BOK E l blk) (hg : l.g = some g) (hm : ¬ l.c ≤ maxLen) : blk.sz = 0 := by
  unfold BOK at h; rw [hg] at h; dsimp only at h; rw [if_neg hm] at h; exact h.2.1
theorem BOK.stM {E : Env} {l : Loc} {blk : ABlk} {g : Nat} (h : BOK E l blk) (hg : l.g = some g) (hm : ¬ l.c ≤ maxLen) : ∀ es ck, E.w.heap[g]? = some (.map es ck) → Stamps es ck := by
  unfold BOK at h; rw [hg] at h; dsimp only at h; rw [if_neg hm] at h; exact h.2.2
theorem BOK.none {E : Env} {l : Loc} {blk : ABlk} (h : BOK E l blk) (hg : l.g = .none) : blk.cells = [] ∧ l.c = 0 := by
  unfold BOK at h; rw [hg] at h; exact h
theorem BOK.mk {E : Env} {l : Loc} {blk : ABlk} {g : Nat} (hg : l.g = some g) (h : ∃ cs : Array Value, E.w.heap[g]? = some (.cells cs blk.elem (0, 0)) ∧ l.c ≤ maxLen ∧ cs.size = l.c * blk.sz ∧ blk.cells.length ≤ cs.size ∧ RVs E blk.cells (cs.toList.take blk.cells.length)) : BOK E l blk := by
  have hm : l.c ≤ maxLen := by obtain ⟨_, _, hm, _⟩ := h; exact hm
  unfold BOK; rw [hg]; dsimp only; rw [if_pos hm]; exact h
theorem BOK.mkM {E : Env} {l : Loc} {blk : ABlk} {g : Nat} (hg : l.g = some g) (hm : ¬ l.c ≤ maxLen) (hz : blk.sz = 0) (hst : ∀ es ck, E.w.heap[g]? = some (.map es ck) → Stamps es ck) (h : ∃ (es : Array MapEntry) (ck : Nat), E.w.heap[g]? = some (.map es ck) ∧ RVs E blk.cells (kvs es)) : BOK E l blk := by
  unfold BOK; rw [hg]; dsimp only; rw [if_neg hm]; exact ⟨h, hz, hst⟩
theorem BOK.mk_none {E : Env} {l : Loc} {blk : ABlk} (hg : l.g = .none) (h : blk.cells = [] ∧ l.c = 0) : BOK E l blk := by
  unfold BOK; rw [hg]; exact h
theorem BOK.lt {E : Env} {l : Loc} {blk : ABlk} {g : Nat} (h : BOK E l blk) (hg : l.g = some g) : g < E.w.heap.size := by
  by_cases hm : l.c ≤ maxLen
  · obtain ⟨cs, h, _⟩ := h.at hg hm
    exact (Array.getElem?_eq_some_iff.1 h).1
  · obtain ⟨es, ck, h, _⟩ := h.atM hg hm
    exact (Array.getElem?_eq_some_iff.1 h).1
theorem BOK.mono {E E' : Env} (h : E.le E') {l : Loc} {blk : ABlk} (k : BOK E l blk) (hg : ∀ g, l.g = some g → E'.w.heap[g]? = E.w.heap[g]?) : BOK E' l blk := by
  cases e : l.g with
  | none => exact .mk_none e (k.none e)
  | some g =>
    by_cases hm : l.c ≤ maxLen
    · obtain ⟨cs, h1, h2, h3, h4, h5⟩ := k.at e hm
      exact .mk e ⟨cs, (hg g e).trans h1, h2, h3, h4, h5.mono h⟩
    · obtain ⟨es, ck, h1, h2⟩ := k.atM e hm
      exact .mkM e hm (k.szM e hm) (by rw [hg g e]; exact k.stM e hm) ⟨es, ck, (hg g e).trans h1, h2.mono h⟩
theorem Sta.lt {w0 : World} {M : Mod} {H : AH} {E : Env} (h : Sta w0 M H E) {b : Nat} {blk : ABlk} {g : Nat} (hb : hk H b = some blk) (hg : (E.L b).g = some g) : g < E.w.heap.size := (h.own b blk hb).2.2.lt hg
theorem Sta.S_lt {w0 : World} {M : Mod} {H : AH} {E : Env} (h : Sta w0 M H E) {g : Nat} (hg : E.S g) : g < E.w.heap.size := by
  rcases (h.seq g).1 hg with ⟨b, blk, hb, e⟩ | hh
  · exact h.lt hb e
  · exact Nat.lt_of_lt_of_le (h.hid g hh).1 h.size

def ev (T : AT) : Operand → Option AV
  | .tmp t => lk T t
  | .const c => some (.v c)
  | .global g => some (.v (.pointer (some ⟨g, 0, none⟩)))
  | .func f => some (.fn f [])
def TR (E : Env) (T : AT) (a : Act) : Prop := ∀ t u, lk T t = some u → ∃ x, a.tmps[t]? = some x ∧ RV E u x
theorem TR.mono {E E' : Env} (h : E.le E') {T : AT} {a : Act} (k : TR E T a) : TR E' T a := fun t u ht => let ⟨x, hx, hr⟩ := k t u ht; ⟨x, hx, hr.mono h⟩
theorem TR.ev {E : Env} {T : AT} {a : Act} (k : TR E T a) {x : Operand} {u : AV} (h : ev T x = some u) : RV E u (a.eval x) := by
  cases x with
  | tmp t =>
    obtain ⟨y, hy, hr⟩ := k t u h
    have : a.eval (.tmp t) = y := by simp [Act.eval, hy]
    rw [this]; exact hr
  | const c => simp only [Proofs.YtneeclacmhhblaaGreat.ev, Option.some.injEq] at h; subst h; exact .v c
  | global g => simp only [Proofs.YtneeclacmhhblaaGreat.ev, Option.some.injEq] at h; subst h; exact .v _
  | func f => simp only [Proofs.YtneeclacmhhblaaGreat.ev, Option.some.injEq] at h; subst h; exact .fn f [] #[] rfl (fun j c x hc => by simp at hc)
theorem TR.put {E : Env} {T : AT} {a : Act} (k : TR E T a) {d : Nat} {u : AV} {x : Value} (hd : d < a.tmps.size) (hx : RV E u x) : TR E ((d, u) :: T) (a.put (some d) x) := by
  intro t u' ht
  rw [lk_cons] at ht
  split at ht
  · rename_i e; subst e; simp at ht; subst ht; exact ⟨x, by simp [Act.put, hd], hx⟩
  · rename_i e
    obtain ⟨y, hy, hr⟩ := k t u' ht
    exact ⟨y, by simp [Act.put, Array.getElem?_setIfInBounds_ne e, hy], hr⟩
def putT (T : AT) (d : Option Tmp) (u : AV) : AT := match d with | some d => (d, u) :: T | none => T

structure StepU (P : Program) (o : Oper) (k : Nat) (U : List Nat) (H : AH) (T : AT) (v : AV) (Hn : AH) : Prop where
  run : ∀ (w0 : World) (M : Mod) (Hr : AH) (E : Env) (a : Act), Sta w0 M Hr E → (∀ b ∈ U, hk Hr b = hk H b) → (∀ b, k ≤ b → b < k + 8 → ¬ E.D b) →
    (∀ x ∈ o.op.operands, ∀ u, ev T x = some u → RV E u (a.eval x)) →
    ∀ (K : Act → World → Prop) (Q : Exit → Act → World → Prop),
      (∀ (x : Value) (E' : Env), Sta w0 M (Hn ++ Hr) E' → E.le E' → (∀ b, E'.D b → E.D b ∨ (k ≤ b ∧ b < k + 8)) → RV E' v x → K (a.put o.dst x) E'.w) → o.wp P a E.w K Q

def St (n : Nat) (w0 : World) (M : Mod) (k : Nat) (H : AH) (T : AT) (a : Act) (w : World) : Prop :=
  ∃ E : Env, E.w = w ∧ Sta w0 M H E ∧ (∀ b, E.D b → b < k) ∧ TR E T a ∧ a.tmps.size = n ∧ a.defers = []
end Go.Proofs.YtneeclacmhhblaaGreat


namespace Go.Proofs.YtneeclacmhhblaaGreat
open Go.RowKit

section
variable {w0 : World} {M : Mod} {H : AH} {E : Env}
theorem Sta.tick (h : Sta w0 M H E) (w' : World) (hh : w'.heap = E.w.heap) (ho : w'.os = E.w.os) (ht : w'.tape = E.w.tape) (hp : w'.output = E.w.output) :
    Sta w0 M H { E with w := w' } ∧ E.le { E with w := w' } := by
  have hle : E.le { E with w := w' } := ⟨by simp [hh], fun g _ _ => by simp [hh], fun _ _ h => h, fun _ h => ⟨h, rfl⟩⟩
  exact ⟨⟨ho.trans h.os, ht.trans h.tape, hp.trans h.output, by simp only [hh]; exact h.size, fun g hg hM => by simp only [hh]; exact h.frame g hg hM, h.seq,
    fun b blk hb => ⟨(h.own b blk hb).1, (h.own b blk hb).2.1, (h.own b blk hb).2.2.mono hle (fun g _ => by simp only [hh])⟩, h.inj, h.hid, h.pin_le hle⟩, hle⟩

def Env.new (E : Env) (k : Nat) (w' : World) (l : Loc) : Env :=
  { w := w', S := fun g => E.S g ∨ l.g = some g, L := fun b => if b = k then l else E.L b, D := fun b => E.D b ∨ b = k }
theorem Sta.new (h : Sta w0 M H E) {k : Nat} (hk0 : ¬ E.D k) (w' : World) (l : Loc) (blk : ABlk) (hsz : E.w.heap.size ≤ w'.heap.size) (hkeep : ∀ g, g < E.w.heap.size → w'.heap[g]? = E.w.heap[g]?)
    (ho : w'.os = E.w.os) (ht : w'.tape = E.w.tape) (hp : w'.output = E.w.output) (hl : ∀ g, l.g = some g → E.w.heap.size ≤ g) (hB : ∀ E' : Env, E'.w = w' → E.le E' → BOK E' l blk) :
    Sta w0 M ((k, some blk) :: H) (E.new k w' l) ∧ E.le (E.new k w' l) := by
  have hne : ∀ b, E.D b → b ≠ k := fun b hb e => hk0 (e ▸ hb)
  have hle : E.le (E.new k w' l) := ⟨hsz, fun g hg _ => hkeep g hg, fun g hg hS => hS.resolve_right (fun e => by have := hl g e; omega), fun b hb => ⟨.inl hb, by simp [Env.new, hne b hb]⟩⟩
  have hL : ∀ b blk', hk H b = some blk' → (E.new k w' l).L b = E.L b ∧ b ≠ k := fun b blk' hb => ⟨(hle.dl b (h.own b blk' hb).1).2, hne b (h.own b blk' hb).1⟩
  have hLk : (E.new k w' l).L k = l := by simp [Env.new]
  refine ⟨⟨ho.trans h.os, ht.trans h.tape, hp.trans h.output, Nat.le_trans h.size hsz, fun g hg hM => (hkeep g (Nat.lt_of_lt_of_le hg h.size)).trans (h.frame g hg hM), fun g => ⟨?_, ?_⟩, ?_, ?_, h.hid, h.pin_le hle⟩, hle⟩
  · rintro (hS | e)
    · rcases (h.seq g).1 hS with ⟨b, blk', hb, e⟩ | hh
      · exact .inl ⟨b, blk', by rw [hk_cons, if_neg (Ne.symm (hL b blk' hb).2)]; exact hb, by rw [(hL b blk' hb).1]; exact e⟩
      · exact .inr hh
    · exact .inl ⟨k, blk, by rw [hk_cons, if_pos rfl], by rw [hLk]; exact e⟩
  · rintro (⟨b, blk', hb, e⟩ | hh)
    · rw [hk_cons] at hb
      split at hb
      · rename_i e'; subst e'; rw [hLk] at e; exact .inr e
      · rw [(hL b blk' hb).1] at e; exact .inl (h.S_of hb e)
    · exact .inl ((h.seq g).2 (.inr hh))
  · intro b blk' hb
    rw [hk_cons] at hb
    split at hb
    · rename_i e'; subst e'
      injection hb with hb; subst hb
      rw [hLk]
      exact ⟨.inr rfl, fun g e => .inl (Nat.le_trans h.size (hl g e)), hB _ rfl hle⟩
    · rw [(hL b blk' hb).1]
      obtain ⟨h1, h2, h3⟩ := h.own b blk' hb
      exact ⟨.inl h1, h2, h3.mono hle (fun g e => hkeep g (h.lt hb e))⟩
  · intro b b' blk1 blk2 g hb hb' e e'
    rw [hk_cons] at hb hb'
    split at hb <;> split at hb'
    · rename_i x y; exact x.symm.trans y
    · rename_i x y; subst x; rw [hLk] at e; rw [(hL b' _ hb').1] at e'; have := h.lt hb' e'; have := hl g e; omega
    · rename_i x y; subst y; rw [hLk] at e'; rw [(hL b _ hb).1] at e; have := h.lt hb e; have := hl g e'; omega
    · rw [(hL b _ hb).1] at e; rw [(hL b' _ hb').1] at e'; exact h.inj b b' blk1 blk2 g hb hb' e e'

theorem Sta.set (h : Sta w0 M H E) {b : Nat} {blk : ABlk} {g : Nat} (hb : hk H b = some blk) (hg : (E.L b).g = some g) (w' : World) (hsz : w'.heap.size = E.w.heap.size) (hkeep : ∀ g', g' ≠ g → w'.heap[g']? = E.w.heap[g']?)
    (ho : w'.os = E.w.os) (ht : w'.tape = E.w.tape) (hp : w'.output = E.w.output) (cells : List AV)
    (hB : ∀ E' : Env, E'.w = w' → E.le E' → BOK E' (E.L b) { blk with cells := cells }) :
    Sta w0 M ((b, some { blk with cells := cells }) :: H) { E with w := w' } ∧ E.le { E with w := w' } := by
  have hSg : E.S g := h.S_of hb hg
  have hle : E.le { E with w := w' } := ⟨by simp [hsz], fun g' _ hS => hkeep g' (fun e => hS (e ▸ hSg)), fun _ _ h => h, fun _ h => ⟨h, rfl⟩⟩
  obtain ⟨o1, o2, o3⟩ := h.own b blk hb
  have hex : ∀ b', (∃ blk', hk ((b, some { blk with cells := cells }) :: H) b' = some blk') ↔ ∃ blk', hk H b' = some blk' := by
    intro b'
    rw [hk_cons]
    split
    · rename_i e; subst e; exact ⟨fun _ => ⟨blk, hb⟩, fun _ => ⟨_, rfl⟩⟩
    · exact Iff.rfl
  refine ⟨⟨ho.trans h.os, ht.trans h.tape, hp.trans h.output, by simp only [hsz]; exact h.size, fun g' hg' hM => ?_, fun g' => ?_, ?_, ?_, h.hid, h.pin_le hle⟩, hle⟩
  · refine (hkeep g' (fun e => ?_)).trans (h.frame g' hg' hM)
    subst e
    rcases o2 g' hg with h1 | h1
    · omega
    · exact hM h1
  · show E.S g' ↔ _
    rw [h.seq g']
    constructor
    · rintro (⟨b', blk', hb', e⟩ | hh)
      · obtain ⟨blk2, h2⟩ := (hex b').2 ⟨blk', hb'⟩
        exact .inl ⟨b', blk2, h2, e⟩
      · exact .inr hh
    · rintro (⟨b', blk', hb', e⟩ | hh)
      · obtain ⟨blk2, h2⟩ := (hex b').1 ⟨blk', hb'⟩
        exact .inl ⟨b', blk2, h2, e⟩
      · exact .inr hh
  · intro b' blk' hb'
    rw [hk_cons] at hb'
    split at hb'
    · rename_i e; subst e
      injection hb' with hb'; subst hb'
      exact ⟨o1, o2, hB _ rfl hle⟩
    · rename_i ne
      obtain ⟨p1, p2, p3⟩ := h.own b' blk' hb'
      exact ⟨p1, p2, p3.mono hle (fun g' e => hkeep g' (fun e' => ne (h.inj b b' blk blk' g hb hb' hg (e' ▸ e))))⟩
  · intro b1 b2 k1 k2 g' h1 h2 e1 e2
    obtain ⟨k1', h1'⟩ := (hex b1).1 ⟨k1, h1⟩
    obtain ⟨k2', h2'⟩ := (hex b2).1 ⟨k2, h2⟩
    exact h.inj b1 b2 k1' k2' g' h1' h2' e1 e2

theorem Sta.move (h : Sta w0 M H E) {b k : Nat} {blk : ABlk} (hb : hk H b = some blk) (hk0 : ¬ E.D k) (w' : World) (l : Loc) (blk' : ABlk) (hsz : E.w.heap.size ≤ w'.heap.size)
    (hkeep : ∀ g, g < E.w.heap.size → (E.L b).g ≠ some g → w'.heap[g]? = E.w.heap[g]?)
    (ho : w'.os = E.w.os) (ht : w'.tape = E.w.tape) (hp : w'.output = E.w.output) (hl : ∀ g, l.g = some g → (E.L b).g = some g ∨ E.w.heap.size ≤ g) (hB : ∀ E' : Env, E'.w = w' → E.le E' → BOK E' l blk') :
    ∃ E' : Env, E'.w = w' ∧ E'.L k = l ∧ E'.D k ∧ Sta w0 M ((k, some blk') :: (b, none) :: H) E' ∧ E.le E' ∧ ∀ x, E'.D x → E.D x ∨ x = k := by
  have hne : ∀ x, E.D x → x ≠ k := fun x hx e => hk0 (e ▸ hx)
  obtain ⟨o1, o2, o3⟩ := h.own b blk hb
  let E' : Env := { w := w', S := fun g => ((∃ b' blk', b' ≠ b ∧ hk H b' = some blk' ∧ (E.L b').g = some g) ∨ l.g = some g) ∨ M.hid g, L := fun x => if x = k then l else E.L x, D := fun x => E.D x ∨ x = k }
  have hle : E.le E' := by
    refine ⟨hsz, fun g hg hS => hkeep g hg (fun e => hS (h.S_of hb e)), fun g hg hS => ?_, fun x hx => ⟨.inl hx, by simp [E', hne x hx]⟩⟩
    rcases hS with (⟨b', blk2, _, h2, e⟩ | e) | hh
    · exact h.S_of h2 e
    · rcases hl g e with e' | e'
      · exact h.S_of hb e'
      · omega
    · exact (h.seq g).2 (.inr hh)
  have hL : ∀ x blk2, hk H x = some blk2 → E'.L x = E.L x ∧ x ≠ k := fun x blk2 hx => ⟨(hle.dl x (h.own x blk2 hx).1).2, hne x (h.own x blk2 hx).1⟩
  have hLk : E'.L k = l := by simp [E']
  have hH : ∀ x blk2, hk ((k, some blk') :: (b, none) :: H) x = some blk2 → (x = k ∧ blk2 = blk') ∨ (x ≠ k ∧ x ≠ b ∧ hk H x = some blk2) := by
    intro x blk2 hx
    rw [hk_cons, hk_cons] at hx
    split at hx
    · rename_i e; injection hx with hx; exact .inl ⟨e.symm, hx.symm⟩
    · split at hx
      · cases hx
      · rename_i e1 e2; exact .inr ⟨Ne.symm e1, Ne.symm e2, hx⟩
  refine ⟨E', rfl, hLk, .inr rfl, ⟨ho.trans h.os, ht.trans h.tape, hp.trans h.output, Nat.le_trans h.size hsz, fun g hg hM => ?_, fun g => ⟨?_, ?_⟩, ?_, ?_, h.hid, h.pin_le hle⟩, hle, fun x hx => hx⟩
  · refine (hkeep g (Nat.lt_of_lt_of_le hg h.size) (fun e => ?_)).trans (h.frame g hg hM)
    rcases o2 g e with h1 | h1
    · omega
    · exact hM h1
  · rintro ((⟨b', blk2, hb', h2, e⟩ | e) | hh)
    · exact .inl ⟨b', blk2, by rw [hk_cons, hk_cons, if_neg (Ne.symm (hL b' blk2 h2).2), if_neg (Ne.symm hb')]; exact h2, by rw [(hL b' blk2 h2).1]; exact e⟩
    · exact .inl ⟨k, blk', by rw [hk_cons, if_pos rfl], by rw [hLk]; exact e⟩
    · exact .inr hh
  · rintro (⟨x, blk2, hx, e⟩ | hh)
    · rcases hH x blk2 hx with ⟨rfl, rfl⟩ | ⟨h1, h2, h3⟩
      · rw [hLk] at e; exact .inl (.inr e)
      · rw [(hL x blk2 h3).1] at e; exact .inl (.inl ⟨x, blk2, h2, h3, e⟩)
    · exact .inr hh
  · intro x blk2 hx
    rcases hH x blk2 hx with ⟨rfl, rfl⟩ | ⟨h1, h2, h3⟩
    · rw [hLk]
      refine ⟨.inr rfl, fun g e => ?_, hB E' rfl hle⟩
      rcases hl g e with e' | e'
      · exact o2 g e'
      · exact .inl (Nat.le_trans h.size e')
    · rw [(hL x blk2 h3).1]
      obtain ⟨p1, p2, p3⟩ := h.own x blk2 h3
      exact ⟨.inl p1, p2, p3.mono hle (fun g e => hkeep g (h.lt h3 e) (fun e' => h2 (h.inj x b blk2 blk g h3 hb e e')))⟩
  · intro x y k1 k2 g hx hy ex ey
    rcases hH x k1 hx with ⟨rfl, rfl⟩ | ⟨h1, h2, h3⟩ <;> rcases hH y k2 hy with ⟨rfl, rfl⟩ | ⟨h1', h2', h3'⟩
    · rfl
    · rw [hLk] at ex; rw [(hL y k2 h3').1] at ey
      rcases hl g ex with e' | e'
      · exact absurd (h.inj y b k2 blk g h3' hb ey e') h2'
      · have := h.lt h3' ey; omega
    · rw [hLk] at ey; rw [(hL x k1 h3).1] at ex
      rcases hl g ey with e' | e'
      · exact absurd (h.inj x b k1 blk g h3 hb ex e') h2
      · have := h.lt h3 ex; omega
    · rw [(hL x k1 h3).1] at ex; rw [(hL y k2 h3').1] at ey; exact h.inj x y k1 k2 g h3 h3' ex ey
end
end Go.Proofs.YtneeclacmhhblaaGreat


namespace Go.Proofs.YtneeclacmhhblaaGreat
open Go.RowKit

theorem RV.v_inv {E : Env} {X y : Value} (h : RV E (.v X) y) : y = X := by cases h; rfl
theorem RV.pt_inv {E : Env} {b o : Nat} {y : Value} (h : RV E (.pt b o) y) : ∃ g, y = .pointer (some ⟨g, o, none⟩) ∧ E.D b ∧ (E.L b).g = some g ∧ (E.L b).c ≤ maxLen := by
  cases h with | pt b o g hb hg hm => exact ⟨g, rfl, hb, hg, hm⟩
theorem addr_at (g o j : Nat) : (⟨g, o, none⟩ : Addr).add j = ⟨g, o + j, none⟩ := by unfold Addr.add; split <;> simp_all

section
variable {P : Program} {k : Nat} {H : AH} {T : AT} {d : Option Tmp} {ty : TypeId} {ps : String} {af : Array Edge} {gd : Option (Nat × Bool)}

theorem StepU.of_pure {o : Oper} {U : List Nat} {v : AV}
    (h : ∀ (w0 : World) (M : Mod) (Hr : AH) (E : Env) (a : Act), Sta w0 M Hr E → (∀ b ∈ U, hk Hr b = hk H b) → (∀ x ∈ o.op.operands, ∀ u, ev T x = some u → RV E u (a.eval x)) →
      ∃ x, (execOp a.eval o).run P E.w = .ok (.value x) E.w ∧ RV E v x) : StepU P o k U H T v [] := by
  refine ⟨fun w0 M Hr E a hs hU _ hT K Q hK => ?_⟩
  obtain ⟨x, hr, hx⟩ := h w0 M Hr E a hs hU hT
  unfold Oper.wp
  rw [hr]
  exact hK x E hs (.refl E) (fun b hb => .inl hb) hx

theorem StepU.of_new {o : Oper} {U : List Nat} {v : AV} {blk : ABlk}
    (h : ∀ (w0 : World) (M : Mod) (Hr : AH) (E : Env) (a : Act), Sta w0 M Hr E → (∀ b ∈ U, hk Hr b = hk H b) → (∀ x ∈ o.op.operands, ∀ u, ev T x = some u → RV E u (a.eval x)) →
      ∃ x w' l, (execOp a.eval o).run P E.w = .ok (.value x) w' ∧ Below E.w.heap.size E.w w' ∧ (∀ g, l.g = some g → E.w.heap.size ≤ g) ∧ (∀ E' : Env, E'.w = w' → E.le E' → BOK E' l blk) ∧
        (∀ E' : Env, E'.L k = l → E'.D k → RV E' v x)) : StepU P o k U H T v [(k, some blk)] := by
  refine ⟨fun w0 M Hr E a hs hU hk0 hT K Q hK => ?_⟩
  obtain ⟨x, w', l, hr, hb, hl, hB, hx⟩ := h w0 M Hr E a hs hU hT
  obtain ⟨h1, h2⟩ := hs.new (hk0 k (Nat.le_refl _) (by omega)) w' l blk hb.size hb.block hb.os hb.tape hb.output hl hB
  unfold Oper.wp
  rw [hr]
  exact hK x _ h1 h2 (fun b hb => hb.imp id (fun e => ⟨by omega, by omega⟩)) (hx _ (by simp [Env.new]) (.inr rfl))

theorem below_alloc (w : World) (o : Obj) : Below w.heap.size w (w.alloc o) := (Below.refl _ _).alloc (Nat.le_refl _) o

theorem StepU.of_alloc {o : Oper} {U : List Nat} {v : AV} {blk : ABlk}
    (h : ∀ (w0 : World) (M : Mod) (Hr : AH) (E : Env) (a : Act), Sta w0 M Hr E → (∀ b ∈ U, hk Hr b = hk H b) → (∀ x ∈ o.op.operands, ∀ u, ev T x = some u → RV E u (a.eval x)) →
      ∃ x cs c, (execOp a.eval o).run P E.w = .ok (.value x) (E.w.alloc (.cells cs blk.elem)) ∧ c ≤ maxLen ∧ cs.size = c * blk.sz ∧ blk.cells.length ≤ cs.size ∧ RVs E blk.cells (cs.toList.take blk.cells.length) ∧
        (∀ E' : Env, E'.L k = ⟨some E.w.heap.size, c⟩ → E'.D k → RV E' v x)) : StepU P o k U H T v [(k, some blk)] :=
  .of_new fun w0 M Hr E a hs hU hT => by
    obtain ⟨x, cs, c, hr, hc, h1, h2, h3, h4⟩ := h w0 M Hr E a hs hU hT
    refine ⟨x, _, ⟨some E.w.heap.size, c⟩, hr, below_alloc _ _, fun g e => by simp at e; omega, fun E' hw hle => .mk rfl ⟨cs, ?_, hc, h1, h2, h3.mono hle⟩, h4⟩
    rw [hw]; exact heap_alloc_new _ _

theorem StepU.of_set {o : Oper} {U : List Nat} {v : AV} {b : Nat} {blk : ABlk} {cells : List AV} (hb : hk H b = some blk) (hbU : b ∈ U)
    (h : ∀ (w0 : World) (M : Mod) (Hr : AH) (E : Env) (a : Act), Sta w0 M Hr E → (∀ b ∈ U, hk Hr b = hk H b) → (∀ x ∈ o.op.operands, ∀ u, ev T x = some u → RV E u (a.eval x)) →
      ∃ g x cs', ((E.L b).g = some g ∧ (E.L b).c ≤ maxLen) ∧ (((execOp a.eval o).run P E.w = .ok (.value x) (E.w.setRow g cs')) ∨ ((execOp a.eval o).run P E.w = .ok .skip (E.w.setRow g cs') ∧ x = undef)) ∧
        (∀ cs, E.w.heap[g]? = some (.cells cs blk.elem (0, 0)) → cs'.size = cs.size) ∧ cells.length ≤ cs'.size ∧ RVs E cells (cs'.toList.take cells.length) ∧ RV E v x) : StepU P o k U H T v [(b, some { blk with cells := cells })] := by
  refine ⟨fun w0 M Hr E a hs hU _ hT K Q hK => ?_⟩
  obtain ⟨g, x, cs', ⟨hg, hm⟩, hr, hsz, hl, hcs, hx⟩ := h w0 M Hr E a hs hU hT
  have hb' : hk Hr b = some blk := (hU b hbU).trans hb
  obtain ⟨cs, c1, c2, c3, c4, c5⟩ := (hs.own b blk hb').2.2.at hg hm
  have hheap : (E.w.setRow g cs').heap[g]? = some (.cells cs' blk.elem (0, 0)) := setRow_heap E.w g cs cs' _ _ c1
  obtain ⟨h1, h2⟩ := hs.set hb' hg (E.w.setRow g cs') (by simp [World.setRow]) (fun g' hne => setRow_other E.w g g' cs' hne) rfl rfl rfl cells
    (fun E' hw hle => .mk hg ⟨cs', by rw [hw]; exact hheap, c2, by rw [hsz cs c1]; exact c3, hl, hcs.mono hle⟩)
  unfold Oper.wp
  rcases hr with hr | ⟨hr, rfl⟩
  · rw [hr]; exact hK x _ h1 h2 (fun b hb => .inl hb) (hx.mono h2)
  · rw [hr]; exact hK undef _ h1 h2 (fun b hb => .inl hb) (hx.mono h2)

def isPt : AV → Bool
  | .pt _ _ => true
  | .ep _ => true
  | _ => false
theorem sM {x : Operand} {u : AV} (hx : ev T x = some u) : StepU P ⟨d, .move x, ty, ps, af, gd⟩ k [] H T u [] :=
  .of_pure fun _ _ _ E a _ _ hT => ⟨a.eval x, rfl, hT x (by simp [Op.operands]) u hx⟩
theorem sA {x : Operand} {u : AV} (hx : ev T x = some u) : StepU P ⟨d, .assign x, ty, ps, af, gd⟩ k [] H T u [] :=
  .of_pure fun _ _ _ E a _ _ hT => ⟨a.eval x, rfl, hT x (by simp [Op.operands]) u hx⟩
theorem s_pick_t {c x y : Operand} {u : AV} {t : Bool} (hc : ev T c = some (.v (.bool t))) (ht : t = true) (hx : ev T x = some u) : StepU P ⟨d, .pick c x y, ty, ps, af, gd⟩ k [] H T u [] :=
  .of_pure fun _ _ _ E a _ _ hT => ⟨a.eval x, by
    have := (hT c (by simp [Op.operands]) _ hc).v_inv
    subst ht
    simp [execOp, this, asBool], hT x (by simp [Op.operands]) u hx⟩
theorem s_pick_f {c x y : Operand} {u : AV} {t : Bool} (hc : ev T c = some (.v (.bool t))) (ht : t = false) (hy : ev T y = some u) : StepU P ⟨d, .pick c x y, ty, ps, af, gd⟩ k [] H T u [] :=
  .of_pure fun _ _ _ E a _ _ hT => ⟨a.eval y, by
    have := (hT c (by simp [Op.operands]) _ hc).v_inv
    subst ht
    simp [execOp, this, asBool], hT y (by simp [Op.operands]) u hy⟩
theorem s_bin {op : BinOp} {t t' : TypeId} {x y : Operand} {X Y R : Value} (hx : ev T x = some (.v X)) (hy : ev T y = some (.v Y))
    (h : ∀ w, (do eqGuard op t x y X Y; binOp op t X Y : Sem Value).run P w = .ok R w) : StepU P ⟨d, .binOp op t x y t', ty, ps, af, gd⟩ k [] H T (.v R) [] :=
  .of_pure fun _ _ _ E a _ _ hT => ⟨R, by
    have h1 := (hT x (by simp [Op.operands]) _ hx).v_inv
    have h2 := (hT y (by simp [Op.operands]) _ hy).v_inv
    have := h E.w
    simp only [Sem.run_bind] at this
    simp only [execOp, h1, h2, Sem.run_bind, this, Result.andThen_ok, Sem.run_pure], .v R⟩
theorem s_un {op : UnOp} {t : TypeId} {x : Operand} {X R : Value} (hx : ev T x = some (.v X)) (h : ∀ w, (Op.unary op X).run P w = .ok R w) : StepU P ⟨d, .unOp op t x, ty, ps, af, gd⟩ k [] H T (.v R) [] :=
  .of_pure fun _ _ _ E a _ _ hT => ⟨R, by
    have h1 := (hT x (by simp [Op.operands]) _ hx).v_inv
    simp only [execOp, h1, Sem.run_bind, h E.w, Result.andThen_ok, Sem.run_pure], .v R⟩
theorem s_conv {s t : TypeId} {x : Operand} {X R : Value} (hx : ev T x = some (.v X)) (h : ∀ w, (convert s t X).run P w = .ok R w) : StepU P ⟨d, .convert s t x, ty, ps, af, gd⟩ k [] H T (.v R) [] :=
  .of_pure fun _ _ _ E a _ _ hT => ⟨R, by
    have h1 := (hT x (by simp [Op.operands]) _ hx).v_inv
    simp only [execOp, h1, Sem.run_bind, h E.w, Result.andThen_ok, Sem.run_pure], .v R⟩
theorem s_extract {x : Operand} {i : Nat} {vs : List AV} {u : AV} (hx : ev T x = some (.tp vs)) (hi : vs[i]? = some u) : StepU P ⟨d, .extract x i, ty, ps, af, gd⟩ k [] H T u [] :=
  .of_pure fun _ _ _ E a _ _ hT => by
    have h1 := hT x (by simp [Op.operands]) _ hx
    generalize hy : a.eval x = y at h1
    cases h1 with
    | tp cs xs hl h =>
      have hlt : i < xs.size := by rw [hl]; exact (List.getElem?_eq_some_iff.1 hi).1
      refine ⟨xs[i], ?_, h i u _ hi (Array.getElem?_eq_getElem hlt)⟩
      simp [execOp, hy, Instr.extract, hlt]
theorem s_nilCheck {x : Operand} {u : AV} (hx : ev T x = some u) (hu : isPt u = true) : StepU P ⟨d, .nilCheck x, ty, ps, af, gd⟩ k [] H T u [] :=
  .of_pure fun _ _ _ E a _ _ hT => by
    have h1 := hT x (by simp [Op.operands]) _ hx
    refine ⟨a.eval x, ?_, h1⟩
    generalize hy : a.eval x = y at h1
    cases h1 <;> simp [isPt] at hu <;> simp [execOp, hy]
def evV (T : AT) (x : Operand) : Value := match ev T x with | some (.v X) => X | _ => undef
def isV (T : AT) (x : Operand) : Bool := match ev T x with | some (.v _) => true | _ => false
theorem evV_eq {E : Env} {a : Act} {x : Operand} (h : isV T x = true) (hT : ∀ u, ev T x = some u → RV E u (a.eval x)) : a.eval x = evV T x := by
  unfold isV at h
  unfold evV
  split at h
  · rename_i X e; exact (hT _ e).v_inv
  · cases h
theorem evV_parts {E : Env} {a : Act} {l : List (Nat × Operand)} (hp : l.all (fun p => isV T p.2) = true) (hT : ∀ x ∈ l.map (·.2), ∀ u, ev T x = some u → RV E u (a.eval x)) :
    (l.toArray.map fun (i, x) => (i, a.eval x)) = (l.map fun p => (p.1, evV T p.2)).toArray := by
  simp only [List.map_toArray]
  congr 1
  refine List.map_congr_left fun p hp' => ?_
  have := evV_eq (E := E) (a := a) (List.all_eq_true.1 hp p hp') (hT p.2 (List.mem_map.2 ⟨p, hp', rfl⟩))
  simp [this]
theorem s_build {t : TypeId} {l : List (Nat × Operand)} {R : Value} (hp : l.all (fun p => isV T p.2) = true) (h : ∀ w, (Instr.build t (l.map fun p => (p.1, evV T p.2)).toArray).run P w = .ok R w) :
    StepU P ⟨d, .build t l.toArray, ty, ps, af, gd⟩ k [] H T (.v R) [] :=
  .of_pure fun _ _ _ E a _ _ hT => ⟨R, by
    have h1 := evV_parts (E := E) (a := a) hp (fun x hx => hT x (by simpa [Op.operands] using hx))
    simp only [execOp, h1, Sem.run_bind, h E.w, Result.andThen_ok, Sem.run_pure], .v R⟩
theorem s_builtin {b : Builtin} {l : List Operand} {ts : Array TypeId} {R : Value} (hp : l.all (isV T) = true)
    (h : ∀ cs w, (builtin b ts ty cs (l.map (evV T)).toArray).run P w = .ok (.value R) w) :
    StepU P ⟨d, .call { callee := .builtin b, args := l.toArray, argTypes := ts }, ty, ps, af, gd⟩ k [] H T (.v R) [] :=
  .of_pure fun _ _ _ E a _ _ hT => ⟨R, by
    have h1 : l.toArray.map a.eval = (l.map (evV T)).toArray := by
      simp only [List.map_toArray]
      congr 1
      exact List.map_congr_left fun x hx => evV_eq (E := E) (List.all_eq_true.1 hp x hx) (hT x (by simpa [Op.operands, Call.operands] using hx))
    simp only [execOp, resolve, invoke, Sem.run_bind, Sem.run_pure, Result.andThen_ok, h1]
    exact h _ E.w, .v R⟩
end
end Go.Proofs.YtneeclacmhhblaaGreat


namespace Go.Proofs.YtneeclacmhhblaaGreat
open Go.RowKit

class TI (P : Program) (t : TypeId) (ag : outParam Bool) (n : outParam Nat) : Prop where
  hag : ∀ w, (isAgg t).run P w = .ok ag w
  hsz : ∀ w, (sizeOf t).run P w = .ok n w
class UI (P : Program) (t : TypeId) (d : outParam TypeDesc) : Prop where
  u : P.underlying t = some d
class ZI (P : Program) (t : TypeId) (z : outParam Value) : Prop where
  hz : ∀ w, (zeroValue t).run P w = .ok z w
class FI (P : Program) (t : TypeId) (f : Nat) (off : outParam Nat) : Prop where
  hf : ∀ g o w, (Instr.fieldAt t (.pointer (some ⟨g, o, none⟩)) f).run P w = .ok (.pointer (some ⟨g, o + off, none⟩)) w
class AI (P : Program) (t : TypeId) (n : outParam Nat) (size : outParam Nat) : Prop where
  hu : ∃ e, P.underlying t = some (.array n e) ∧ (P.info? e).map (·.size) = some size
class SI (P : Program) (t : TypeId) (e : outParam TypeId) (size bytes : outParam Nat) (z : outParam Value) : Prop where
  under : P.underlying t = some (.slice e)
  info : (P.info? e).map (fun i => (i.zero, i.size, i.bytes)) = some (some z, size, bytes)
  zs : z.cells.size = size
  pos : 0 < size
  bpos : 0 < bytes

def cu : AV → List AV
  | .v X => X.cells.toList.map .v
  | .ag cs => cs
  | u => [u]
theorem RV.cu {E : Env} {u : AV} {x : Value} (h : RV E u x) : RVs E (cu u) x.cells.toList := by
  cases h with
  | v x => exact RVs.vals _
  | ag cs xs hl h => exact ⟨by simpa [Value.cells, Proofs.YtneeclacmhhblaaGreat.cu] using hl, fun j c x hc hx => h j c x hc (by simpa [Value.cells] using hx)⟩
  | tp cs xs hl h => exact RVs.cons (.tp cs xs hl h) (RVs.nil E)
  | pt b o g hb hg hm => exact RVs.cons (.pt b o g hb hg hm) (RVs.nil E)
  | sl b n hb hn hm => exact RVs.cons (.sl b n hb hn hm) (RVs.nil E)
  | sb b o n c A c' hb hA hn hc hm => exact RVs.cons (.sb b o n c A c' hb hA hn hc hm) (RVs.nil E)
  | sc b n c hb hc hn hm => exact RVs.cons (.sc b n c hb hc hn hm) (RVs.nil E)
  | mp b g hb hg hm => exact RVs.cons (.mp b g hb hg hm) (RVs.nil E)
  | em cs g es ck hg hS hx hl h => exact RVs.cons (.em cs g es ck hg hS hx hl h) (RVs.nil E)
  | ex0 n full A c hn hf => exact RVs.cons (.ex0 n full A c hn hf) (RVs.nil E)
  | ex n full cs g o c xs hn hf hg hS hl hx h => exact RVs.cons (.ex n full cs g o c xs hn hf hg hS hl hx h) (RVs.nil E)
  | ep cs g o xs hg hS hl hx h => exact RVs.cons (.ep cs g o xs hg hS hl hx h) (RVs.nil E)
  | fn f cs xs hl h => exact RVs.cons (.fn f cs xs hl h) (RVs.nil E)
def agu (u : AV) (cs : List AV) : Prop := ∀ (E : Env) (xs : List Value), RVs E cs xs → RV E u (.agg xs.toArray)
theorem agu_ag (cs : List AV) : agu (.ag cs) cs := fun E xs h => .ag cs _ (by simpa using h.1) (fun j c x hc hx => h.2 j c x hc (by simpa using hx))
theorem agu_v (X : Array Value) : agu (.v (.agg X)) (X.toList.map .v) := fun E xs h => by
  have := h.vals_inv; subst this; simp only [Array.toArray_toList]; exact .v _
theorem agu_cuv (X : Array Value) : agu (.v (.agg X)) (cu (.v (.agg X))) := agu_v X
theorem agu_cua (cs : List AV) : agu (.ag cs) (cu (.ag cs)) := agu_ag cs

theorem take_get {cs : Array Value} {n : Nat} {xs : List Value} (h : xs = cs.toList.take n) {j : Nat} {x : Value} (hx : xs[j]? = some x) : cs[j]? = some x := by
  subst h
  rw [List.getElem?_take] at hx
  split at hx
  · simpa using hx
  · cases hx

section
variable {P : Program} {k : Nat} {H : AH} {T : AT} {d : Option Tmp} {ty : TypeId} {ps : String} {af : Array Edge} {gd : Option (Nat × Bool)}

theorem s_alloc {t : TypeId} {z : Value} [hz : ZI P t z] : StepU P ⟨d, .alloc t, ty, ps, af, gd⟩ k [] H T (.pt k 0) [(k, some ⟨cu (.v z), t, z.cells.size⟩)] :=
  .of_alloc fun _ _ _ E a _ _ _ => by
    refine ⟨.pointer (some ⟨E.w.heap.size, 0, none⟩), z.cells, 1, ?_, by decide, by simp, by simp [cu], ?_, fun E' hl hd => .pt _ _ _ hd (by rw [hl]) (by rw [hl]; exact lb rfl)⟩
    · simp only [execOp, Instr.alloc, newVar, newRow, Sem.run_bind, hz.hz, Result.andThen_ok]
      rfl
    · simp only [cu, List.length_map, Array.length_toList]
      rw [List.take_of_length_le (by simp)]
      exact RVs.vals _
theorem s_box {t : TypeId} {x : Operand} {u : AV} {n : Nat} (hx : ev T x = some u) (hn : (cu u).length = n) : StepU P ⟨d, .box t x, ty, ps, af, gd⟩ k [] H T (.pt k 0) [(k, some ⟨cu u, t, n⟩)] :=
  .of_alloc fun _ _ _ E a _ _ hT => by
    have h1 := (hT x (by simp [Op.operands]) u hx).cu
    have hl : (a.eval x).cells.size = (cu u).length := by simpa using h1.1
    refine ⟨.pointer (some ⟨E.w.heap.size, 0, none⟩), (a.eval x).cells, 1, ?_, by decide, by simp [hl, hn], by simp [hl], ?_, fun E' hl hd => .pt _ _ _ hd (by rw [hl]) (by rw [hl]; exact lb rfl)⟩
    · simp only [execOp, Instr.box, newVar, newRow, Sem.run_bind]
      rfl
    · simp only [← hl]
      rw [List.take_of_length_le (by simp)]
      exact h1

theorem loadVar_cell {t : TypeId} {n : Nat} [ht : TI P t false n] {w : World} {g o : Nat} {x : Value} (hc : w.cell? ⟨g, o, none⟩ = some x) : (Instr.loadAt t (.pointer (some ⟨g, o, none⟩))).run P w = .ok x w := by
  simp [Instr.loadAt, Instr.sureAddr, loadVar, ht.hag, hc]
theorem loadVar_cells {t : TypeId} {n : Nat} [ht : TI P t true n] {w : World} {g o : Nat} {xs : List Value} (hl : xs.length = n) (hc : ∀ (j : Nat) x, xs[j]? = some x → w.cell? ⟨g, o + j, none⟩ = some x) :
    (Instr.loadAt t (.pointer (some ⟨g, o, none⟩))).run P w = .ok (.agg xs.toArray) w := by
  have := run_loadCells_list (P := P) w ⟨g, o, none⟩ xs (fun j v hv => by rw [addr_at]; exact hc j v hv)
  rw [hl] at this
  simp [Instr.loadAt, Instr.sureAddr, loadVar, ht.hag, ht.hsz, this]

theorem own_read {w0 : World} {M : Mod} {Hr : AH} {E : Env} (hs : Sta w0 M Hr E) {b g : Nat} {blk : ABlk} (hb : hk Hr b = some blk) (hg : (E.L b).g = some g) (hm : (E.L b).c ≤ maxLen) :
    ∃ xs : List Value, RVs E blk.cells xs ∧ ∀ (j : Nat) x, xs[j]? = some x → E.w.cell? ⟨g, j, none⟩ = some x := by
  obtain ⟨cs, c1, c2, c3, c4, c5⟩ := (hs.own b blk hb).2.2.at hg hm
  exact ⟨_, c5, fun j x hx => (cell_of_row E.w g j cs _ _ c1).trans (take_get rfl hx)⟩

theorem s_load {t : TypeId} {x : Operand} {n b o : Nat} {blk : ABlk} {c : AV} [TI P t false n] (hx : ev T x = some (.pt b o)) (hb : hk H b = some blk) (hc : blk.cells[o]? = some c) :
    StepU P ⟨d, .load t x, ty, ps, af, gd⟩ k [b] H T c [] :=
  .of_pure fun _ _ _ E a hs hU hT => by
    obtain ⟨g, e, hD, hg, hm⟩ := (hT x (by simp [Op.operands]) _ hx).pt_inv
    obtain ⟨xs, h1, h2⟩ := own_read hs ((hU b (by simp)).trans hb) hg hm
    obtain ⟨y, hy, hr⟩ := h1.at hc
    exact ⟨y, by simp only [execOp, e, Sem.run_bind, loadVar_cell (P := P) (t := t) (h2 o y hy), Result.andThen_ok, Sem.run_pure], hr⟩
theorem s_loadN {t : TypeId} {x : Operand} {n b o : Nat} {blk : ABlk} {u : AV} [TI P t true n] (hx : ev T x = some (.pt b o)) (hb : hk H b = some blk) (hn : o + n ≤ blk.cells.length) (hu : agu u ((blk.cells.drop o).take n)) :
    StepU P ⟨d, .load t x, ty, ps, af, gd⟩ k [b] H T u [] :=
  .of_pure fun _ _ _ E a hs hU hT => by
    obtain ⟨g, e, hD, hg, hm⟩ := (hT x (by simp [Op.operands]) _ hx).pt_inv
    obtain ⟨xs, h1, h2⟩ := own_read hs ((hU b (by simp)).trans hb) hg hm
    have h3 := (h1.drop o).take n
    have hl : ((xs.drop o).take n).length = n := by rw [List.length_take, List.length_drop, h1.1]; omega
    refine ⟨_, ?_, hu E _ h3⟩
    simp only [execOp, e, Sem.run_bind, loadVar_cells (P := P) (t := t) (g := g) (o := o) hl (fun j y hy => by
      rw [List.getElem?_take] at hy
      split at hy
      · rw [List.getElem?_drop] at hy; exact h2 _ y hy
      · cases hy), Result.andThen_ok, Sem.run_pure]
theorem s_loadW {t : TypeId} {x : Operand} {n b : Nat} {blk : ABlk} {u : AV} [ht : TI P t true n] (hx : ev T x = some (.pt b 0)) (hb : hk H b = some blk) (hn : blk.cells.length = n) (hu : agu u blk.cells) :
    StepU P ⟨d, .load t x, ty, ps, af, gd⟩ k [b] H T u [] :=
  s_loadN hx hb (by omega) (by rw [List.drop_zero, List.take_of_length_le (by omega)]; exact hu)
theorem ep_inv {E : Env} {cs : List AV} {y : Value} (h : RV E (.ep cs) y) : ∃ g o xs, y = .pointer (some ⟨g, o, none⟩) ∧ RVs E cs xs ∧ ∀ (j : Nat) x, xs[j]? = some x → E.w.cell? ⟨g, o + j, none⟩ = some x := by
  cases h with | ep cs g o xs hg hS hl hx h => exact ⟨g, o, xs, rfl, ⟨hl, h⟩, hx⟩
theorem s_loadE {t : TypeId} {x : Operand} {n : Nat} {cs : List AV} {c : AV} [TI P t false n] (hx : ev T x = some (.ep cs)) (hc : cs[0]? = some c) :
    StepU P ⟨d, .load t x, ty, ps, af, gd⟩ k [] H T c [] :=
  .of_pure fun _ _ _ E a _ _ hT => by
    obtain ⟨g, o, xs, e, h1, h2⟩ := ep_inv (hT x (by simp [Op.operands]) _ hx)
    obtain ⟨y, hy, hr⟩ := h1.at hc
    have h3 : E.w.cell? ⟨g, o, none⟩ = some y := h2 0 y hy
    exact ⟨y, by simp only [execOp, e, Sem.run_bind, loadVar_cell (P := P) (t := t) h3, Result.andThen_ok, Sem.run_pure], hr⟩
theorem s_loadEN {t : TypeId} {x : Operand} {n : Nat} {cs : List AV} {u : AV} [TI P t true n] (hx : ev T x = some (.ep cs)) (hn : n ≤ cs.length) (hu : agu u (cs.take n)) :
    StepU P ⟨d, .load t x, ty, ps, af, gd⟩ k [] H T u [] :=
  .of_pure fun _ _ _ E a _ _ hT => by
    obtain ⟨g, o, xs, e, h1, h2⟩ := ep_inv (hT x (by simp [Op.operands]) _ hx)
    have hl : (xs.take n).length = n := by rw [List.length_take, h1.1]; omega
    refine ⟨_, ?_, hu E _ (h1.take n)⟩
    simp only [execOp, e, Sem.run_bind, loadVar_cells (P := P) (t := t) (g := g) (o := o) hl (fun j y hy => by
      rw [List.getElem?_take] at hy
      split at hy
      · exact h2 _ y hy
      · cases hy), Result.andThen_ok, Sem.run_pure]

def spl (cs : List AV) (o : Nat) (ds : List AV) : List AV := cs.take o ++ ds ++ cs.drop (o + ds.length)
theorem spl_whole (cs ds : List AV) (h : cs.length = ds.length) : spl cs 0 ds = ds := by
  unfold spl; rw [List.take_zero, List.nil_append, Nat.zero_add, List.drop_eq_nil_of_le (by omega), List.append_nil]
theorem spl_length (cs : List AV) (o : Nat) (ds : List AV) (h : o + ds.length ≤ cs.length) : (spl cs o ds).length = cs.length := by
  simp [spl]; omega
theorem RVs.spl {E : Env} {cs ds : List AV} {cur : Array Value} {ys : List Value} {o : Nat} (hl : cs.length ≤ cur.size) (h : RVs E cs (cur.toList.take cs.length)) (k : RVs E ds ys) (ho : o + ds.length ≤ cs.length) :
    RVs E (spl cs o ds) ((cur.toList.take o ++ ys ++ cur.toList.drop (o + ys.length)).toArray.toList.take (spl cs o ds).length) := by
  rw [spl_length cs o ds ho]
  have e : (cur.toList.take o ++ ys ++ cur.toList.drop (o + ys.length)).toArray.toList.take cs.length = (cur.toList.take cs.length).take o ++ ys ++ (cur.toList.take cs.length).drop (o + ys.length) := by
    have hy := k.1
    apply List.ext_getElem?
    intro j
    simp only [List.getElem?_take, List.getElem?_append, List.length_append, List.length_take, List.getElem?_drop, Array.length_toList]
    have m1 : min o cur.size = o := by omega
    have m2 : min o (min cs.length cur.size) = o := by omega
    simp only [m1, m2]
    by_cases h1 : j < cs.length
    · by_cases h2 : j < o
      · have h3 : j < o + ys.length := by omega
        simp [h1, h2, h3]
      · by_cases h3 : j < o + ys.length
        · simp [h1, h2, h3]
        · have h4 : o + ys.length + (j - (o + ys.length)) = j := by omega
          simp [h1, h3, h4]
    · have h2 : ¬ j < o := by omega
      have h3 : ¬ j < o + ys.length := by omega
      have h4 : o + ys.length + (j - (o + ys.length)) = j := by omega
      simp [h1, h3, h4]
  rw [e]
  unfold Proofs.YtneeclacmhhblaaGreat.spl
  have := (((h.take o).append k).append (h.drop (o + ds.length)))
  rw [k.1]
  exact this

theorem s_store {t : TypeId} {x y : Operand} {n b o : Nat} {ag : Bool} {blk : ABlk} {u : AV} [ht : TI P t ag n] (hx : ev T x = some (.pt b o)) (hy : ev T y = some u) (hb : hk H b = some blk) (hn : (cu u).length = n) (h1 : (cu u).all AV.one = true) (ho : o + n ≤ blk.cells.length) :
    StepU P ⟨d, .store t x y, ty, ps, af, gd⟩ k [b] H T (.v undef) [(b, some { blk with cells := spl blk.cells o (cu u) })] :=
  .of_set hb (by simp) fun _ _ _ E a hs hU hT => by
    obtain ⟨g, e, hD, hg, hm⟩ := (hT x (by simp [Op.operands]) _ hx).pt_inv
    obtain ⟨cs, c1, c2, c3, c4, c5⟩ := (hs.own b blk ((hU b (by simp)).trans hb)).2.2.at hg hm
    have hv := (hT y (by simp [Op.operands]) _ hy).cu
    have hvl : (a.eval y).cells.toList.length = n := by rw [hv.1]; exact hn
    have hst := run_storeCells_at P g o blk.elem (a.eval y).cells.toList 0 cs E.w c1 (by omega) (hv.ones h1)
    simp only [Nat.add_zero] at hst
    refine ⟨g, undef, _, ⟨hg, hm⟩, .inr ⟨?_, rfl⟩, fun cs' hcs' => ?_, ?_, RVs.spl c4 c5 hv (by omega), .v _⟩
    · have hsz' : (a.eval y).cells.size = n := by simpa using hvl
      simp only [execOp, e, Instr.storeAt, Instr.sureAddr, storeVar, Sem.run_bind, Sem.run_pure, Result.andThen_ok, ht.hsz, hsz', ne_eq, not_true_eq_false, if_false, hst]
    · rw [c1] at hcs'; injection hcs' with hcs'; injection hcs' with hcs'; subst hcs'
      simp only [List.size_toArray, List.length_append, List.length_take, List.length_drop, hvl, Array.length_toList]; omega
    · rw [spl_length _ _ _ (by omega)]
      simp only [List.size_toArray, List.length_append, List.length_take, List.length_drop, hvl, Array.length_toList]; omega
theorem s_storeW {t : TypeId} {x y : Operand} {n b : Nat} {ag : Bool} {blk : ABlk} {u : AV} [ht : TI P t ag n] (hx : ev T x = some (.pt b 0)) (hy : ev T y = some u) (hb : hk H b = some blk) (hn : (cu u).length = n) (h1 : (cu u).all AV.one = true) (ho : blk.cells.length = n) :
    StepU P ⟨d, .store t x y, ty, ps, af, gd⟩ k [b] H T (.v undef) [(b, some { blk with cells := cu u })] := by
  have := s_store (P := P) (k := k) (H := H) (T := T) (d := d) (ty := ty) (ps := ps) (af := af) (gd := gd) (t := t) hx hy hb hn h1 (by omega)
  rwa [spl_whole _ _ (by omega)] at this

theorem sF {t : TypeId} {x : Operand} {f off b o : Nat} [hf : FI P t f off] (hx : ev T x = some (.pt b o)) : StepU P ⟨d, .fieldAddr t x f, ty, ps, af, gd⟩ k [] H T (.pt b (o + off)) [] :=
  .of_pure fun _ _ _ E a hs hU hT => by
    obtain ⟨g, e, hD, hg, hm⟩ := (hT x (by simp [Op.operands]) _ hx).pt_inv
    exact ⟨_, by simp only [execOp, e, Sem.run_bind, hf.hf, Result.andThen_ok, Sem.run_pure], .pt _ _ _ hD hg hm⟩
theorem ep_drop {E : Env} {cs : List AV} {g o : Nat} (h : RV E (.ep cs) (.pointer (some ⟨g, o, none⟩))) (n : Nat) : RV E (.ep (cs.drop n)) (.pointer (some ⟨g, o + n, none⟩)) := by
  cases h with
  | ep cs g o xs hg hS hl hx h =>
    have hr := (RVs.drop (E := E) ⟨hl, h⟩ n)
    exact .ep _ g (o + n) (xs.drop n) hg hS hr.1 (fun j x hj => by rw [List.getElem?_drop] at hj; rw [Nat.add_assoc]; exact hx _ x hj) hr.2
theorem s_fieldAddrE {t : TypeId} {x : Operand} {f off : Nat} {cs : List AV} [hf : FI P t f off] (hx : ev T x = some (.ep cs)) : StepU P ⟨d, .fieldAddr t x f, ty, ps, af, gd⟩ k [] H T (.ep (cs.drop off)) [] :=
  .of_pure fun _ _ _ E a hs hU hT => by
    have h1 := hT x (by simp [Op.operands]) _ hx
    obtain ⟨g, o, xs, e, _, _⟩ := ep_inv h1
    rw [e] at h1
    exact ⟨_, by simp only [execOp, e, Sem.run_bind, hf.hf, Result.andThen_ok, Sem.run_pure], ep_drop h1 off⟩
end
end Go.Proofs.YtneeclacmhhblaaGreat


namespace Go.Proofs.YtneeclacmhhblaaGreat
open Go.RowKit

def RdC (w : World) (A : Option Addr) (xs : List Value) : Prop := xs = [] ∨ ∃ g o, A = some ⟨g, o, none⟩ ∧ ∀ (j : Nat) x, xs[j]? = some x → w.cell? ⟨g, o + j, none⟩ = some x
def Rdv (H : AH) (sz : Nat) (u : AV) (n : Nat) (cs : List AV) (U : List Nat) : Prop :=
  ∀ (w0 : World) (M : Mod) (Hr : AH) (E : Env) (x : Value), Sta w0 M Hr E → (∀ b ∈ U, hk Hr b = hk H b) → RV E u x →
    ∃ A c xs, x = .slice A n c ∧ n ≤ c ∧ RVs E cs xs ∧ xs.length = n * sz ∧ RdC E.w A xs
section
variable {H : AH} {sz : Nat}
theorem rd_ex {n : Nat} {f : Bool} {cs : List AV} (hl : cs.length = n * sz) : Rdv H sz (.ex n f cs) n cs [] := fun _ _ _ E x _ _ h => by
  cases h with
  | ex0 n full A c hn hf => exact ⟨A, c, [], rfl, hn, RVs.nil E, by simpa using hl, .inl rfl⟩
  | ex n full cs g o c xs hn hf hg hS hl' hx h => exact ⟨_, c, xs, rfl, hn, ⟨hl', h⟩, by rw [hl']; exact hl, .inr ⟨g, o, rfl, hx⟩⟩
theorem rd_sl {b n : Nat} {blk : ABlk} (hb : hk H b = some blk) (hl : blk.cells.length = n * sz) : Rdv H sz (.sl b n) n blk.cells [b] := fun _ _ _ E x hs hU h => by
  have hb' := (hU b (by simp)).trans hb
  cases h with
  | sl b n hD hn hm =>
    cases e : (E.L b).g with
    | none =>
      have h0 := ((hs.own b blk hb').2.2.none e).1
      exact ⟨_, _, [], rfl, hn, by rw [h0]; exact RVs.nil E, by rw [h0] at hl; simpa using hl, .inl rfl⟩
    | some g =>
      obtain ⟨xs, h1, h2⟩ := own_read hs hb' e hm
      exact ⟨_, _, xs, rfl, hn, h1, by rw [h1.1]; exact hl, .inr ⟨g, 0, rfl, fun j x hx => by rw [Nat.zero_add]; exact h2 j x hx⟩⟩
theorem rd_sb {b o n : Nat} {c : Option Nat} {blk : ABlk} (hb : hk H b = some blk) (hl : o + n * sz ≤ blk.cells.length) : Rdv H sz (.sb b o n c) n ((blk.cells.drop o).take (n * sz)) [b] := fun _ _ _ E x hs hU h => by
  have hb' := (hU b (by simp)).trans hb
  cases h with
  | sb b o n c A c' hD hA hn hc hm =>
    by_cases h0 : n = 0
    · subst h0; exact ⟨_, _, [], rfl, hn, by simpa using RVs.nil E, by simp, .inl rfl⟩
    · obtain ⟨g, e, rfl⟩ := hA h0
      obtain ⟨xs, h1, h2⟩ := own_read hs hb' e hm
      have h3 := (h1.drop o).take (n * sz)
      refine ⟨_, _, _, rfl, hn, h3, by rw [List.length_take, List.length_drop, h1.1]; omega, .inr ⟨g, o, rfl, fun j x hx => ?_⟩⟩
      rw [List.getElem?_take] at hx
      split at hx
      · rw [List.getElem?_drop] at hx; exact h2 _ x hx
      · cases hx
end
def Lnv (u : AV) (n : Nat) : Prop := ∀ (E : Env) (x : Value), RV E u x → ∃ A c, x = .slice A n c
theorem ln_ex {n : Nat} {f : Bool} {cs : List AV} : Lnv (.ex n f cs) n := fun E x h => by cases h <;> exact ⟨_, _, rfl⟩
theorem ln_sl {b n : Nat} : Lnv (.sl b n) n := fun E x h => by cases h; exact ⟨_, _, rfl⟩
section
variable {P : Program} {k : Nat} {H : AH} {T : AT} {d : Option Tmp} {ty : TypeId} {ps : String} {af : Array Edge} {gd : Option (Nat × Bool)}
variable {t e : TypeId} {size bytes : Nat} {z : Value}

theorem si_size (hS : SI P t e size bytes z) : (P.info? e).map (·.size) = some size := by
  have h := hS.info
  cases hq : P.info? e with
  | none => simp [hq] at h
  | some i => simp [hq] at h; simp [h.2.1]
theorem run_sizeOf' {e : TypeId} {size : Nat} (h : (P.info? e).map (·.size) = some size) (w : World) : (sizeOf e).run P w = .ok size w := by
  cases hq : P.info? e with
  | none => simp [hq] at h
  | some i => simp [hq] at h; simp [sizeOf, typeInfo, hq, h]

theorem s_len {x : Operand} {u : AV} {n : Nat} [hS : SI P t e size bytes z] (hx : ev T x = some u) (hl : Lnv u n) :
    StepU P ⟨d, .call { callee := .builtin .len, args := #[x], argTypes := #[t] }, ty, ps, af, gd⟩ k [] H T (.v (.int .i64 (n : Int))) [] :=
  .of_pure fun _ _ _ E a _ _ hT => by
    obtain ⟨A, c, h1⟩ := hl E _ (hT x (by simp [Op.operands, Call.operands]) _ hx)
    refine ⟨.int .i64 (n : Int), ?_, .v _⟩
    simp [execOp, resolve, invoke, builtin, Builtin.len_, run_underlying hS.under, h1, goInt]

theorem run_indexSlice [hS : SI P t e size bytes z] (w : World) (g o n c i : Nat) (kk : IntKind) (hi : i < n) :
    (Instr.indexAt t (.slice (some ⟨g, o, none⟩) n c) (.int kk (i : Int))).run P w = .ok (.pointer (some ⟨g, o + i * size, none⟩)) w := by
  have hi0 : (0 : Int) ≤ (i : Int) := by omega
  simp [Instr.indexAt, asIntOf, run_underlying hS.under, hi0, hi, run_sizeOf' (si_size hS), addr_at]
theorem s_ixl {x y : Operand} {b n i : Nat} {kk : IntKind} {blk : ABlk} [hS : SI P t e size bytes z] (hx : ev T x = some (.sl b n)) (hy : ev T y = some (.v (.int kk (i : Int)))) (hb : hk H b = some blk) (hi : i < n) :
    StepU P ⟨d, .indexAddr t x y, ty, ps, af, gd⟩ k [b] H T (.pt b (i * size)) [] :=
  .of_pure fun _ _ _ E a hs hU hT => by
    have h1 := hT x (by simp [Op.operands]) _ hx
    have h2 := (hT y (by simp [Op.operands]) _ hy).v_inv
    generalize hv : a.eval x = v at h1
    cases h1 with
    | sl b n hD hn hm =>
      cases eg : (E.L b).g with
      | none => have h0 := ((hs.own b blk ((hU b (by simp)).trans hb)).2.2.none eg).2; omega
      | some g =>
        rw [eg] at hv
        refine ⟨.pointer (some ⟨g, i * size, none⟩), ?_, .pt _ _ _ hD eg hm⟩
        have := run_indexSlice (P := P) (t := t) E.w g 0 n (E.L b).c i kk hi
        rw [Nat.zero_add] at this
        simp only [execOp, hv, h2, Option.map_some, Sem.run_bind, this, Result.andThen_ok, Sem.run_pure]
theorem s_ixe {x y : Operand} {n i : Nat} {f : Bool} {cs : List AV} {kk : IntKind} [hS : SI P t e size bytes z] (hx : ev T x = some (.ex n f cs)) (hy : ev T y = some (.v (.int kk (i : Int)))) (hi : i < n) (hne : cs ≠ []) :
    StepU P ⟨d, .indexAddr t x y, ty, ps, af, gd⟩ k [] H T (.ep (cs.drop (i * size))) [] :=
  .of_pure fun _ _ _ E a hs hU hT => by
    have h1 := hT x (by simp [Op.operands]) _ hx
    have h2 := (hT y (by simp [Op.operands]) _ hy).v_inv
    generalize hv : a.eval x = v at h1
    cases h1 with
    | ex0 => exact absurd rfl hne
    | ex n full cs g o c xs hn hf hg hS' hl hx h =>
      refine ⟨.pointer (some ⟨g, o + i * size, none⟩), ?_, ep_drop (.ep cs g o xs hg hS' hl hx h) _⟩
      simp only [execOp, hv, h2, Sem.run_bind, run_indexSlice (P := P) (t := t) E.w g o n c i kk hi, Result.andThen_ok, Sem.run_pure]
theorem run_indexArr {n size : Nat} [hA : AI P t n size] (w : World) (g o i : Nat) (kk : IntKind) (hi : i < n) :
    (Instr.indexAt t (.pointer (some ⟨g, o, none⟩)) (.int kk (i : Int))).run P w = .ok (.pointer (some ⟨g, o + i * size, none⟩)) w := by
  obtain ⟨e, hu, hs⟩ := hA.hu
  have hi0 : (0 : Int) ≤ (i : Int) := by omega
  simp [Instr.indexAt, asIntOf, run_underlying hu, hi0, hi, run_sizeOf' hs, addr_at, Instr.sureAddr]
theorem s_ixa {x y : Operand} {b o n i size : Nat} {kk : IntKind} [hA : AI P t n size] (hx : ev T x = some (.pt b o)) (hy : ev T y = some (.v (.int kk (i : Int)))) (hi : i < n) :
    StepU P ⟨d, .indexAddr t x y, ty, ps, af, gd⟩ k [] H T (.pt b (o + i * size)) [] :=
  .of_pure fun _ _ _ E a hs hU hT => by
    obtain ⟨g, e, hD, hg, hm⟩ := (hT x (by simp [Op.operands]) _ hx).pt_inv
    have h2 := (hT y (by simp [Op.operands]) _ hy).v_inv
    exact ⟨_, by simp only [execOp, e, h2, Sem.run_bind, run_indexArr (P := P) (t := t) E.w g o i kk hi, Result.andThen_ok, Sem.run_pure], .pt _ _ _ hD hg hm⟩
def Bnd (T : AT) (o : Option Operand) (r dflt : Nat) : Prop := match o with
  | none => r = dflt
  | some x => ∃ kk, ev T x = some (.v (.int kk (r : Int)))
def BV (o : Option Value) (r dflt : Nat) : Prop := match o with
  | none => r = dflt
  | some v => ∃ kk, v = .int kk (r : Int)
theorem run_bounds {isS : Bool} {len cap l h m : Nat} {lo hi mx : Option Value} (w : World)
    (hlo : BV lo l 0) (hhi : BV hi h len) (hhm : hi = none → mx = none) (hmx : BV mx m cap)
    (h1 : l ≤ h) (h2 : h ≤ m) (h3 : m ≤ cap) : (Instr.sliceBounds isS len cap lo hi mx).run P w = .ok (l, h, m) w := by
  have sb : ∀ (kk : IntKind) (r y : Nat) (code : BoundsCode), r ≤ y → (Instr.sliceBound (.int kk (r : Int)) y code).run P w = .ok r w := by
    intro kk r y code hr
    have : (0 : Int) ≤ (r : Int) := by omega
    simp [Instr.sliceBound, asIntOf, this, hr]
  unfold Instr.sliceBounds
  cases mx with
  | none =>
    simp only [BV] at hmx
    subst hmx
    cases hi with
    | none =>
      simp only [BV] at hhi
      subst hhi
      cases lo with
      | none => simp only [BV] at hlo; subst hlo; simp
      | some v => obtain ⟨kk, rfl⟩ := hlo; simp [sb kk l h _ h1]
    | some v =>
      obtain ⟨kk, rfl⟩ := hhi
      cases lo with
      | none => simp only [BV] at hlo; subst hlo; simp [sb kk h m _ h2]
      | some v => obtain ⟨k2, rfl⟩ := hlo; simp [sb kk h m _ h2, sb k2 l h _ h1]
  | some v =>
    obtain ⟨km, rfl⟩ := hmx
    cases hi with
    | none => cases hhm rfl
    | some v =>
      obtain ⟨kk, rfl⟩ := hhi
      cases lo with
      | none => simp only [BV] at hlo; subst hlo; simp [sb km m cap _ h3, sb kk h m _ h2]
      | some v => obtain ⟨k2, rfl⟩ := hlo; simp [sb km m cap _ h3, sb kk h m _ h2, sb k2 l h _ h1]
theorem bnd_map {E : Env} {a : Act} {o : Option Operand} {r dflt : Nat} {l : List Operand} (h : Bnd T o r dflt) (hm : ∀ x, o = some x → x ∈ l) (hT : ∀ x ∈ l, ∀ u, ev T x = some u → RV E u (a.eval x)) :
    BV (o.map a.eval) r dflt := by
  cases o with
  | none => exact h
  | some x => obtain ⟨kk, hx⟩ := h; exact ⟨kk, (hT x (hm x rfl) _ hx).v_inv⟩
theorem s_slA {x : Operand} {lo hi mx : Option Operand} {b o n size l h m : Nat} [hA : AI P t n size] (hx : ev T x = some (.pt b o)) (hlo : Bnd T lo l 0) (hhi : Bnd T hi h n) (hmx : Bnd T mx m n) (hhm : hi = none → mx = none)
    (h1 : l ≤ h) (h2 : h ≤ m) (h3 : m ≤ n) : StepU P ⟨d, .slice t x lo hi mx, ty, ps, af, gd⟩ k [] H T (.sb b (o + l * size) (h - l) (some (m - l))) [] :=
  .of_pure fun _ _ _ E a hs hU hT => by
    obtain ⟨e, hu, hsz⟩ := hA.hu
    obtain ⟨g, e', hD, hg, hm⟩ := (hT x (by simp [Op.operands]) _ hx).pt_inv
    have b1 := bnd_map (E := E) (a := a) hlo (l := (Op.slice t x lo hi mx).operands.toList) (fun y hy => by subst hy; simp [Op.operands]) (fun y hy => hT y (by simpa using hy))
    have b2 := bnd_map (E := E) (a := a) hhi (l := (Op.slice t x lo hi mx).operands.toList) (fun y hy => by subst hy; simp [Op.operands]) (fun y hy => hT y (by simpa using hy))
    have b3 := bnd_map (E := E) (a := a) hmx (l := (Op.slice t x lo hi mx).operands.toList) (fun y hy => by subst hy; simp [Op.operands]) (fun y hy => hT y (by simpa using hy))
    have hr := run_bounds (P := P) (isS := false) (len := n) (cap := n) (l := l) (h := h) (m := m) (lo := lo.map a.eval) (hi := hi.map a.eval) (mx := mx.map a.eval) E.w b1
      b2 (by cases hi with
          | none => have := hhm rfl; subst this; exact fun _ => rfl
          | some y => exact fun h => by cases h) b3 h1 h2 h3
    refine ⟨.slice (some (if m = l then ⟨g, o, none⟩ else ⟨g, o + l * size, none⟩)) (h - l) (m - l), ?_, ?_⟩
    · simp only [execOp, e', Instr.sliceAt, run_underlying hu, Instr.sureAddr, Sem.run_bind, Sem.run_pure, Result.andThen_ok, hr, run_sizeOf' hsz, addr_at]
    · refine .sb _ _ _ _ _ _ hD (fun hne => ⟨g, hg, ?_⟩) (by omega) (fun k hk => by injection hk) hm
      rw [if_neg (by omega)]
theorem run_sliceSlice [hS : SI P t e size bytes z] {isN : Bool} (w : World) (A : Option Addr) (n c l h m : Nat) {lo hi mx : Option Value} (hr : (Instr.sliceBounds true n c lo hi mx).run P w = .ok (l, h, m) w) :
    (Instr.sliceAt t (.slice A n c) lo hi mx).run P w = .ok (.slice (if m = l then A else A.map (·.add (l * size))) (h - l) (m - l)) w := by
  simp only [Instr.sliceAt, Instr.slice, run_underlying hS.under, Sem.run_bind, Sem.run_pure, Result.andThen_ok, hr, run_sizeOf' (si_size hS)]
theorem s_slE {x : Operand} {lo hi : Option Operand} {n l h : Nat} {f : Bool} {cs : List AV} [hS : SI P t e size bytes z] (hx : ev T x = some (.ex n f cs)) (hlo : Bnd T lo l 0) (hhi : Bnd T hi h n) (h1 : l ≤ h) (h2 : h ≤ n) (hl : cs.length = n * size) :
    StepU P ⟨d, .slice t x lo hi none, ty, ps, af, gd⟩ k [] H T (.ex (h - l) false ((cs.drop (l * size)).take ((h - l) * size))) [] :=
  .of_pure fun _ _ _ E a hs hU hT => by
    have hv := hT x (by simp [Op.operands]) _ hx
    have b1 := bnd_map (E := E) (a := a) hlo (l := (Op.slice t x lo hi none).operands.toList) (fun y hy => by subst hy; simp [Op.operands]) (fun y hy => hT y (by simpa using hy))
    have b2 := bnd_map (E := E) (a := a) hhi (l := (Op.slice t x lo hi none).operands.toList) (fun y hy => by subst hy; simp [Op.operands]) (fun y hy => hT y (by simpa using hy))
    have key : ∀ (A : Option Addr) (c : Nat), n ≤ c → a.eval x = .slice A n c → (execOp a.eval ⟨d, .slice t x lo hi none, ty, ps, af, gd⟩).run P E.w = .ok (.value (.slice (if c = l then A else A.map (·.add (l * size))) (h - l) (c - l))) E.w := by
      intro A c hc hv'
      have hr := run_bounds (P := P) (isS := true) (len := n) (cap := c) (l := l) (h := h) (m := c) (lo := lo.map a.eval) (hi := hi.map a.eval) (mx := none) E.w b1
        b2 (fun _ => rfl) rfl h1 (by omega) (Nat.le_refl _)
      have := run_sliceSlice (P := P) (t := t) (isN := false) E.w A n c l h c hr
      simp only [execOp, hv', Sem.run_bind, Sem.run_pure, Option.map_none, this, Result.andThen_ok]
    generalize hy : a.eval x = v at hv
    cases hv with
    | ex0 n full A c hn hf =>
      refine ⟨_, key A c hn hy, ?_⟩
      simp only [List.drop_nil, List.take_nil]
      exact .ex0 _ _ _ _ (by omega) (fun h => by cases h)
    | ex n full cs g o c xs hn hf hg hS' hl' hx' h' =>
      refine ⟨_, key _ c hn hy, ?_⟩
      by_cases hz : (cs.drop (l * size)).take ((h - l) * size) = []
      · rw [hz]; exact .ex0 _ _ _ _ (by omega) (fun h => by cases h)
      · have hlh : l < h := by
          rcases Nat.lt_or_ge l h with h'' | h''
          · exact h''
          · exact absurd (by rw [show h - l = 0 by omega]; simp) hz
        rw [if_neg (by omega), Option.map_some, addr_at]
        have hR : RVs E ((cs.drop (l * size)).take ((h - l) * size)) ((xs.drop (l * size)).take ((h - l) * size)) := (RVs.drop ⟨hl', h'⟩ _).take _
        refine .ex _ _ _ g (o + l * size) _ ((xs.drop (l * size)).take ((h - l) * size)) (by omega) (fun h => by cases h) hg hS' hR.1 (fun j y hj => ?_) hR.2
        rw [List.getElem?_take] at hj
        split at hj
        · rw [List.getElem?_drop] at hj; rw [Nat.add_assoc]; exact hx' _ y hj
        · cases hj
theorem s_slL {x : Operand} {lo hi : Option Operand} {b n l h : Nat} [hS : SI P t e size bytes z] (hx : ev T x = some (.sl b n)) (hlo : Bnd T lo l 0) (hhi : Bnd T hi h n) (h1 : l ≤ h) (h2 : h ≤ n) {blk : ABlk} (hb : hk H b = some blk) :
    StepU P ⟨d, .slice t x lo hi none, ty, ps, af, gd⟩ k [b] H T (.sb b (l * size) (h - l) none) [] :=
  .of_pure fun _ _ _ E a hs hU hT => by
    have hv := hT x (by simp [Op.operands]) _ hx
    have b1 := bnd_map (E := E) (a := a) hlo (l := (Op.slice t x lo hi none).operands.toList) (fun y hy => by subst hy; simp [Op.operands]) (fun y hy => hT y (by simpa using hy))
    have b2 := bnd_map (E := E) (a := a) hhi (l := (Op.slice t x lo hi none).operands.toList) (fun y hy => by subst hy; simp [Op.operands]) (fun y hy => hT y (by simpa using hy))
    generalize hy : a.eval x = v at hv
    cases hv with
    | sl b n hD hn hm =>
      have hr := run_bounds (P := P) (isS := true) (len := n) (cap := (E.L b).c) (l := l) (h := h) (m := (E.L b).c) (lo := lo.map a.eval) (hi := hi.map a.eval) (mx := none) E.w b1
        b2 (fun _ => rfl) rfl h1 (by omega) (Nat.le_refl _)
      have := run_sliceSlice (P := P) (t := t) (isN := false) E.w ((E.L b).g.map fun g => ⟨g, 0, none⟩) n (E.L b).c l h (E.L b).c hr
      refine ⟨_, by simp only [execOp, hy, Sem.run_bind, Sem.run_pure, Option.map_none, this, Result.andThen_ok]; rfl, ?_⟩
      refine .sb _ _ _ _ _ _ hD (fun hne => ?_) (by omega) (fun k hk => by cases hk) hm
      cases eg : (E.L b).g with
      | none => have h0 := ((hs.own b blk ((hU b (by simp)).trans hb)).2.2.none eg).2; omega
      | some g => exact ⟨g, rfl, by rw [if_neg (by omega)]; simp [addr_at]⟩
end
end Go.Proofs.YtneeclacmhhblaaGreat


namespace Go.Proofs.YtneeclacmhhblaaGreat
open Go.RowKit

def nb (n : UInt64) (k : Nat) : UInt8 := UInt8.ofNat (n.toNat / 256 ^ k)
def nameC (n : UInt64) : Array Value := #[.int .u8 ((nb n 7).toNat : Int), .int .u8 ((nb n 6).toNat : Int), .int .u8 ((nb n 5).toNat : Int), .int .u8 ((nb n 4).toNat : Int), .int .u8 ((nb n 3).toNat : Int), .int .u8 ((nb n 2).toNat : Int), .int .u8 ((nb n 1).toNat : Int), .int .u8 ((nb n 0).toNat : Int)]
def nameB (n : UInt64) : List UInt8 := [nb n 7, nb n 6, nb n 5, nb n 4, nb n 3, nb n 2, nb n 1, nb n 0]
def bytesV (l : List UInt8) : List Value := l.map fun c => .int .u8 (c.toNat : Int)
theorem nameC_size (n : UInt64) : (nameC n).size = 8 := by simp [nameC]
theorem nameB_length (n : UInt64) : (nameB n).length = 8 := rfl
theorem nameC_toList (n : UInt64) : (nameC n).toList = bytesV (nameB n) := rfl
theorem nameC_whole (n : UInt64) : (nameC n).extract 0 8 = nameC n := rfl
theorem nameC_at (n : UInt64) (k : Nat) (h : k < 8) : (nameC n)[k]? = some (.int .u8 ((nb n (7 - k)).toNat : Int)) := by
  match k, h with
  | 0, _ | 1, _ | 2, _ | 3, _ | 4, _ | 5, _ | 6, _ | 7, _ => rfl
theorem nameC_get (n : UInt64) (k : Nat) (h : k < (nameC n).size) : (nameC n)[k]'h = .int .u8 ((nb n (7 - k)).toNat : Int) := by
  have h8 : k < 8 := by rw [nameC_size] at h; exact h
  have := nameC_at n k h8
  rw [Array.getElem?_eq_getElem h] at this
  exact Option.some.inj this
theorem nb_lt (n : UInt64) (k : Nat) : (nb n k).toNat = n.toNat / 256 ^ k % 256 := by
  unfold nb; simp
theorem name_ext (a b : UInt64) (h : ∀ i, i < 8 → (nb a i).toNat = (nb b i).toNat) : a = b := by
  have ha := a.toNat_lt
  have hb := b.toNat_lt
  have h0 := h 0 (by omega); have h1 := h 1 (by omega); have h2 := h 2 (by omega); have h3 := h 3 (by omega)
  have h4 := h 4 (by omega); have h5 := h 5 (by omega); have h6 := h 6 (by omega); have h7 := h 7 (by omega)
  simp only [nb_lt] at h0 h1 h2 h3 h4 h5 h6 h7
  apply UInt64.toNat_inj.1
  simp only [Nat.reducePow] at *
  omega
def topB (b : Nat → UInt8) : Nat → Nat
  | 0 => 0
  | k + 1 => topB b k * 256 + (b k).toNat
theorem topB_lt (b : Nat → UInt8) (k : Nat) : topB b k < 256 ^ k := by
  induction k with
  | zero => simp [topB]
  | succ k ih =>
    have := (b k).toNat_lt
    rw [topB, Nat.pow_succ]
    omega
theorem topB_congr (b c : Nat → UInt8) (k : Nat) (h : ∀ i, i < k → b i = c i) : topB b k = topB c k := by
  induction k with
  | zero => rfl
  | succ k ih => rw [topB, topB, ih (fun i hi => h i (by omega)), h k (by omega)]
theorem topB_zeros (b : Nat → UInt8) (k j : Nat) (h : ∀ i, k ≤ i → b i = 0) : topB b (k + j) = topB b k * 256 ^ j := by
  induction j with
  | zero => simp
  | succ j ih =>
    rw [← Nat.add_assoc, topB, ih, h (k + j) (by omega), Nat.pow_succ, Nat.mul_assoc, show (0 : UInt8).toNat = 0 from rfl, Nat.add_zero]
def nameOf (b : Nat → UInt8) : UInt64 := UInt64.ofNat (topB b 8)
theorem nameOf_topB (b : Nat → UInt8) : (nameOf b).toNat = topB b 8 := by
  have := topB_lt b 8
  unfold nameOf
  rw [UInt64.toNat_ofNat']
  exact Nat.mod_eq_of_lt (by simpa using this)
theorem nameOf_toNat (b : Nat → UInt8) : (nameOf b).toNat = (b 0).toNat * 72057594037927936 + (b 1).toNat * 281474976710656 + (b 2).toNat * 1099511627776 + (b 3).toNat * 4294967296 + (b 4).toNat * 16777216 + (b 5).toNat * 65536 + (b 6).toNat * 256 + (b 7).toNat := by
  rw [nameOf_topB]
  simp only [topB]
  omega
theorem nb_nameOf (b : Nat → UInt8) (k : Nat) (h : k < 8) : nb (nameOf b) k = b (7 - k) := by
  have h0 := (b 0).toNat_lt; have h1 := (b 1).toNat_lt; have h2 := (b 2).toNat_lt; have h3 := (b 3).toNat_lt
  have h4 := (b 4).toNat_lt; have h5 := (b 5).toNat_lt; have h6 := (b 6).toNat_lt; have h7 := (b 7).toNat_lt
  apply UInt8.toNat_inj.1
  rw [nb_lt, nameOf_toNat]
  match k, h with
  | 0, _ | 1, _ | 2, _ | 3, _ | 4, _ | 5, _ | 6, _ | 7, _ => simp only [Nat.reducePow, Nat.reduceSub, Nat.sub_zero]; omega
theorem nameC_nameOf (b : Nat → UInt8) : nameC (nameOf b) = #[.int .u8 ((b 0).toNat : Int), .int .u8 ((b 1).toNat : Int), .int .u8 ((b 2).toNat : Int), .int .u8 ((b 3).toNat : Int), .int .u8 ((b 4).toNat : Int), .int .u8 ((b 5).toNat : Int), .int .u8 ((b 6).toNat : Int), .int .u8 ((b 7).toNat : Int)] := by
  unfold nameC
  rw [nb_nameOf b 7 (by omega), nb_nameOf b 6 (by omega), nb_nameOf b 5 (by omega), nb_nameOf b 4 (by omega), nb_nameOf b 3 (by omega), nb_nameOf b 2 (by omega), nb_nameOf b 1 (by omega), nb_nameOf b 0 (by omega)]

theorem wrap_u64 (n : Int) : IntKind.u64.wrap n = n % 18446744073709551616 := by rw [IntKind.wrap_u64]
theorem bv_u64 (x : UInt64) : BitVec.ofInt 64 (x.toNat : Int) = x.toBitVec := by
  apply BitVec.eq_of_toNat_eq
  have := x.toNat_lt
  rw [BitVec.ofInt_natCast, BitVec.toNat_ofNat, UInt64.toNat_toBitVec]
  omega
def addU (x y : UInt64) : UInt64 := x + y
def mulU (x y : UInt64) : UInt64 := x * y
def xorU (x y : UInt64) : UInt64 := x ^^^ y
def orU (x y : UInt64) : UInt64 := x ||| y
def andU (x y : UInt64) : UInt64 := x &&& y
theorem u64_xor (x y : UInt64) : bits .xor .u64 (x.toNat : Int) (y.toNat : Int) = ((xorU x y).toNat : Int) := by
  unfold xorU
  show IntKind.u64.wrap ((BitVec.ofInt 64 (x.toNat : Int) ^^^ BitVec.ofInt 64 (y.toNat : Int)).toNat : Int) = _
  rw [bv_u64, bv_u64, wrap_u64, ← UInt64.toBitVec_xor, UInt64.toNat_toBitVec]
  have := (x ^^^ y).toNat_lt
  omega
theorem u64_or (x y : UInt64) : bits .or .u64 (x.toNat : Int) (y.toNat : Int) = ((orU x y).toNat : Int) := by
  unfold orU
  show IntKind.u64.wrap ((BitVec.ofInt 64 (x.toNat : Int) ||| BitVec.ofInt 64 (y.toNat : Int)).toNat : Int) = _
  rw [bv_u64, bv_u64, wrap_u64, ← UInt64.toBitVec_or, UInt64.toNat_toBitVec]
  have := (x ||| y).toNat_lt
  omega
theorem u64_and (x y : UInt64) : bits .and .u64 (x.toNat : Int) (y.toNat : Int) = ((andU x y).toNat : Int) := by
  unfold andU
  show IntKind.u64.wrap ((BitVec.ofInt 64 (x.toNat : Int) &&& BitVec.ofInt 64 (y.toNat : Int)).toNat : Int) = _
  rw [bv_u64, bv_u64, wrap_u64, ← UInt64.toBitVec_and, UInt64.toNat_toBitVec]
  have := (x &&& y).toNat_lt
  omega
theorem u64_add (x y : UInt64) : IntKind.u64.wrap ((x.toNat : Int) + (y.toNat : Int)) = ((addU x y).toNat : Int) := by
  unfold addU
  rw [wrap_u64, UInt64.toNat_add]; omega
theorem u64_mul (x y : UInt64) : IntKind.u64.wrap ((x.toNat : Int) * (y.toNat : Int)) = ((mulU x y).toNat : Int) := by
  unfold mulU
  rw [wrap_u64, UInt64.toNat_mul, ← Int.natCast_mul]; omega
theorem u64_add_mod (x y : UInt64) : ((x.toNat : Int) + (y.toNat : Int)) % 18446744073709551616 = ((addU x y).toNat : Int) := by rw [← wrap_u64]; exact u64_add x y
theorem u8_of (v : Int) (h0 : 0 ≤ v) (h1 : v < 256) : ∃ x : UInt8, v = (x.toNat : Int) :=
  ⟨UInt8.ofNat v.toNat, by rw [UInt8.toNat_ofNat']; omega⟩
theorem or_shl8 (v c : Nat) (hv : v * 256 < 18446744073709551616) (hc : c < 256) : bits .or .u64 ((v * 256 : Nat) : Int) (c : Int) = ((v * 256 + c : Nat) : Int) := by
  have e : v * 256 ||| c = v * 256 + c := by
    have := Nat.shiftLeft_add_eq_or_of_lt (b := c) (i := 8) (by omega) v
    rw [Nat.shiftLeft_eq] at this
    exact this.symm
  have h := u64_or (UInt64.ofNat (v * 256)) (UInt64.ofNat c)
  unfold orU at h
  rw [UInt64.toNat_or, UInt64.toNat_ofNat_of_lt' hv, UInt64.toNat_ofNat_of_lt' (show c < 18446744073709551616 by omega), e] at h
  exact h

def rowAt (w : World) (g : Nat) : Option (Array Value) := match w.heap[g]? with | some (.cells cs _ (0, 0)) => some cs | _ => none
theorem rowAt_heap {w : World} {g : Nat} {cs : Array Value} : rowAt w g = some cs ↔ ∃ t, w.heap[g]? = some (.cells cs t (0, 0)) := by
  unfold rowAt
  constructor
  · intro h
    split at h
    · rename_i cs' t hh
      injection h with h
      subst h
      exact ⟨t, hh⟩
    · cases h
  · rintro ⟨t, h⟩
    rw [h]
    rfl
def isRow (n : Nat) (v : Value) (w : World) : Bool := match v with
  | .pointer (some ⟨g, o, none⟩) => match rowAt w g with | some cs => decide (o + n ≤ cs.size) | none => false
  | _ => false
def rowVal (n : Nat) (v : Value) (w : World) : Value := match v with
  | .pointer (some ⟨g, o, none⟩) => .agg (((rowAt w g).getD #[]).extract o (o + n))
  | _ => undef
theorem isRow_ptr (n g o : Nat) (w : World) : isRow n (.pointer (some ⟨g, o, none⟩)) w = match rowAt w g with | some cs => decide (o + n ≤ cs.size) | none => false := rfl
theorem rowVal_ptr (n g o : Nat) (w : World) : rowVal n (.pointer (some ⟨g, o, none⟩)) w = .agg (((rowAt w g).getD #[]).extract o (o + n)) := rfl
theorem rowAt_new (w : World) (cs : Array Value) (t : TypeId) (g : Nat) (h : g = w.heap.size) : rowAt (w.alloc (.cells cs t)) g = some cs := by
  subst h; exact rowAt_heap.2 ⟨t, heap_alloc_new w _⟩
theorem rowAt_alloc (w : World) (o : Obj) (g : Nat) (h : g < w.heap.size) : rowAt (w.alloc o) g = rowAt w g := by
  unfold rowAt; rw [Below.heap_alloc w o g h]
theorem rowAt_drew (w : World) (g : Nat) : rowAt w.drew g = rowAt w g := rfl
theorem rowAt_below {B : Nat} {w w' : World} (h : Below B w w') (g : Nat) (hg : g < B) : rowAt w' g = rowAt w g := by unfold rowAt; rw [h.block g hg]
theorem rowAt_lt {w : World} {g : Nat} {cs : Array Value} (h : rowAt w g = some cs) : g < w.heap.size := by
  unfold rowAt at h
  rcases Nat.lt_or_ge g w.heap.size with h' | h'
  · exact h'
  · rw [Array.getElem?_eq_none h'] at h; cases h
theorem rowAt_cell {w : World} {g : Nat} {cs : Array Value} (h : rowAt w g = some cs) (o : Nat) : w.cell? ⟨g, o, none⟩ = cs[o]? := by
  obtain ⟨t, h⟩ := rowAt_heap.1 h
  exact cell_of_row w g o _ t _ h
theorem rowAt_free {w : World} {g : Nat} {cs : Array Value} (h : rowAt w g = some cs) (o : Nat) : w.frozen? ⟨g, o, none⟩ = false := by
  obtain ⟨t, h⟩ := rowAt_heap.1 h
  exact frozen_of_row w g o _ t h
theorem rowAt_set {w : World} {g : Nat} {cs : Array Value} (h : rowAt w g = some cs) (o : Nat) (v : Value) : rowAt (w.setCell ⟨g, o, none⟩ v) g = some (cs.setIfInBounds o v) := by
  obtain ⟨t, h⟩ := rowAt_heap.1 h
  exact rowAt_heap.2 ⟨t, heap_setCell_same w g o cs t v h⟩
theorem rowAt_far {w : World} {g : Nat} (p : Addr) (v : Value) (h : g ≠ p.block) : rowAt (w.setCell p v) g = rowAt w g := by
  unfold rowAt; rw [heap_setCell_other w p g v h]

theorem cell_row (w : World) (g o : Nat) (h : (rowAt w g).isSome = true) : w.cell? ⟨g, o, none⟩ = ((rowAt w g).getD #[])[o]? := by
  obtain ⟨cs, hcs⟩ := Option.isSome_iff_exists.1 h
  rw [rowAt_cell hcs, hcs]; rfl
theorem free_row (w : World) (g o : Nat) (h : (rowAt w g).isSome = true) : w.frozen? ⟨g, o, none⟩ = false := by
  obtain ⟨cs, hcs⟩ := Option.isSome_iff_exists.1 h
  exact rowAt_free hcs o
theorem rowAt_put (w : World) (g o : Nat) (v : Value) (h : (rowAt w g).isSome = true) : rowAt (w.setCell ⟨g, o, none⟩ v) g = some (((rowAt w g).getD #[]).setIfInBounds o v) := by
  obtain ⟨cs, hcs⟩ := Option.isSome_iff_exists.1 h
  rw [rowAt_set hcs, hcs]; rfl

def spliceA (old : Array Value) (o : Nat) (cs : Array Value) : Array Value := (old.toList.take o ++ cs.toList ++ old.toList.drop (o + cs.size)).toArray
theorem spliceA_whole (old cs : Array Value) (h : old.size = cs.size) : spliceA old 0 cs = cs := by
  unfold spliceA
  rw [List.take_zero, List.nil_append, Nat.zero_add, List.drop_eq_nil_of_le (by simp; omega), List.append_nil, Array.toArray_toList]
theorem spliceA_size (old : Array Value) (o : Nat) (cs : Array Value) (h : o + cs.size ≤ old.size) : (spliceA old o cs).size = old.size := by
  simp [spliceA]; omega
def allOne (cs : Array Value) : Bool := cs.toList.all Value.oneCell'
theorem allOne_lit (l : List Value) : allOne l.toArray = l.all Value.oneCell' := by unfold allOne; rfl
def isAggN (n : Nat) (v : Value) : Bool := match v with | .agg cs => cs.size == n && allOne cs | _ => false
theorem isAggN_agg (n : Nat) (cs : Array Value) : isAggN n (.agg cs) = (cs.size == n && allOne cs) := rfl
theorem nameC_ones (n : UInt64) : allOne (nameC n) = true := by simp [allOne, nameC, Value.oneCell']
theorem one_int (k : IntKind) (n : Int) : (Value.int k n).oneCell' = true := rfl
theorem one_bool (b : Bool) : (Value.bool b).oneCell' = true := rfl
theorem one_string (x : ByteArray) : (Value.string x).oneCell' = true := rfl
theorem one_pointer (a : Option Addr) : (Value.pointer a).oneCell' = true := rfl
theorem one_slice (a : Option Addr) (n c : Nat) : (Value.slice a n c).oneCell' = true := rfl
def putRow (x v : Value) (w : World) : World := match x, v with
  | .pointer (some ⟨g, o, none⟩), .agg cs => w.setRow g (spliceA ((rowAt w g).getD #[]) o cs)
  | _, _ => w
theorem putRow_ptr (g o : Nat) (cs : Array Value) (w : World) : putRow (.pointer (some ⟨g, o, none⟩)) (.agg cs) w = w.setRow g (spliceA ((rowAt w g).getD #[]) o cs) := rfl
theorem setRow_new (w : World) (c c' : Array Value) (t : TypeId) (g : Nat) (h : g = w.heap.size) : (w.alloc (.cells c t)).setRow g c' = w.alloc (.cells c' t) := by
  subst h; exact World.setRow_alloc_new w c c' t
theorem rowAt_setRow (w : World) (g : Nat) (cs : Array Value) (h : (rowAt w g).isSome = true) : rowAt (w.setRow g cs) g = some cs := by
  obtain ⟨old, hcs⟩ := Option.isSome_iff_exists.1 h
  obtain ⟨t, ht⟩ := rowAt_heap.1 hcs
  exact rowAt_heap.2 ⟨t, setRow_heap w g old cs t _ ht⟩
theorem rowAt_setRow_far (w : World) (g k : Nat) (cs : Array Value) (h : k ≠ g) : rowAt (w.setRow g cs) k = rowAt w k := by
  unfold rowAt; rw [setRow_other w g k cs h]
theorem size_setRow (w : World) (g : Nat) (cs : Array Value) : (w.setRow g cs).heap.size = w.heap.size := by simp [World.setRow]

def Ext (w w' : World) : Prop := Below w.heap.size w w'
section
variable {w v u : World}
theorem Ext.refl (w : World) : Ext w w := Below.refl _ _
theorem Ext.trans (h : Ext w v) (k : Ext v u) : Ext w u := Below.trans h (Below.mono k (Below.size h))
theorem Ext.then (h : Ext w v) (k : Below w.heap.size v u) : Ext w u := Below.trans h k
theorem Ext.alloc (h : Ext w v) (o : Obj) : Ext w (v.alloc o) := Below.alloc h (Below.size h) o
theorem Ext.drew (h : Ext w v) : Ext w v.drew := Below.drew h
theorem Ext.drewN (h : Ext w v) (n : Nat) : Ext w (v.drewN n) := ⟨h.os, h.tape, h.output, h.size, h.block⟩
theorem Ext.setCell (h : Ext w v) {p : Addr} (hp : w.heap.size ≤ p.block) (x : Value) : Ext w (v.setCell p x) := Below.setCell h hp x
theorem Ext.setRow (h : Ext w v) {g : Nat} (hg : w.heap.size ≤ g) (cs : Array Value) : Ext w (v.setRow g cs) :=
  Below.trans h ⟨rfl, rfl, rfl, by simp [World.setRow], fun k hk => setRow_other v g k cs (by omega)⟩
theorem Ext.size (h : Ext w v) : w.heap.size ≤ v.heap.size := Below.size h
theorem Ext.grown {row : Option Nat} (h : Ext w v) (hg : v.grownBy u row) (hr : ∀ k, row = some k → w.heap.size ≤ k) : Ext w u := Below.grown h hg (Below.size h) hr
theorem rowAt_keep {g : Nat} {cs : Array Value} (h : rowAt w g = some cs) (hb : Ext w v) : rowAt v g = some cs :=
  (rowAt_below hb g (rowAt_lt h)).trans h
theorem cell_keep {p : Addr} {x : Value} (h : w.cell? p = some x) (hb : Ext w v) : v.cell? p = some x :=
  (Below.cell hb (block_lt_of_cell h)).trans h
end

section
variable {P : Program}
theorem run_loadVar_part (w : World) (t : TypeId) (g o n : Nat) (cs : Array Value) (hu : (match P.underlying t with | some (.struct _) | some (.array _ _) => true | _ => false) = true) (hi : (P.info? t).map (·.size) = some n)
    (h : rowAt w g = some cs) (hn : o + n ≤ cs.size) : (loadVar t ⟨g, o, none⟩).run P w = .ok (.agg (cs.extract o (o + n))) w := by
  obtain ⟨tt, hc⟩ := rowAt_heap.1 h
  have hl : (loadCells ⟨g, o, none⟩ (cs.extract o (o + n)).toList.length).run P w = .ok (cs.extract o (o + n)).toList.toArray w :=
    run_loadCells_list (P := P) w ⟨g, o, none⟩ (cs.extract o (o + n)).toList (fun j v hv => by
      have hadd : (⟨g, o, none⟩ : Addr).add j = ⟨g, o + j, none⟩ := by unfold Addr.add; split <;> simp_all
      rw [hadd, cell_of_row w g (o + j) cs tt _ hc]
      simp only [Array.getElem?_toList, Array.getElem?_extract] at hv
      split at hv
      · exact hv
      · cases hv)
  simp only [Array.length_toList, Array.toArray_toList, Array.size_extract] at hl
  rw [show min (o + n) cs.size - o = n from by omega] at hl
  cases hd : P.underlying t with
  | none => simp [hd] at hu
  | some d =>
    have hagg : (isAgg t).run P w = .ok true w := by
      unfold isAgg
      rw [Sem.run_bind, run_underlying hd w]
      rw [hd] at hu
      cases d <;> simp_all
    cases hq : P.info? t with
    | none => simp [hq] at hi
    | some i =>
      have hs : i.size = n := by simpa [hq] using hi
      simp [loadVar, Sem.run_bind, hagg, sizeOf, typeInfo, hq, hs, hl]

theorem exec_load_agg (t n : Nat) (hu : (match P.underlying t with | some (.struct _) | some (.array _ _) => true | _ => false) = true) (hi : (P.info? t).map (·.size) = some n)
    (dst : Option Tmp) (x : Operand) (ty : TypeId) (pos : String) (after : Array Edge) (gd : Option (Nat × Bool)) (ρ : Operand → Value) (w : World)
    (h : isRow n (ρ x) w = true) : (execOp ρ ⟨dst, .load t x, ty, pos, after, gd⟩).run P w = .ok (.value (rowVal n (ρ x) w)) w := by
  unfold isRow at h
  unfold rowVal
  unfold execOp
  split at h
  · rename_i g o hx
    simp only [hx]
    split at h
    · rename_i cs hcs
      simp only [decide_eq_true_eq] at h
      simp only [Instr.loadAt, Instr.sureAddr, Sem.run_bind, Sem.run_pure, Result.andThen_ok, run_loadVar_part w t g o n cs hu hi hcs h, hcs, Option.getD_some]
    · cases h
  · cases h

theorem exec_store_agg (t n : Nat) (hi : (P.info? t).map (·.size) = some n)
    (dst : Option Tmp) (x y : Operand) (ty : TypeId) (pos : String) (after : Array Edge) (gd : Option (Nat × Bool)) (ρ : Operand → Value) (w : World)
    (h : isRow n (ρ x) w = true) (hv : isAggN n (ρ y) = true) : (execOp ρ ⟨dst, .store t x y, ty, pos, after, gd⟩).run P w = .ok .skip (putRow (ρ x) (ρ y) w) := by
  unfold isRow at h
  unfold isAggN at hv
  unfold execOp
  split at h
  · rename_i g o hx
    simp only [hx]
    split at h
    · rename_i old hcs
      simp only [decide_eq_true_eq] at h
      split at hv
      · rename_i cs hy
        simp only [hy, putRow]
        simp only [Bool.and_eq_true, beq_iff_eq, allOne, List.all_eq_true] at hv
        obtain ⟨hsz, hone⟩ := hv
        obtain ⟨tt, hc⟩ := rowAt_heap.1 hcs
        have hst := run_storeCells_at P g o tt cs.toList 0 old w hc (by simp; omega) (fun v hv => hone v hv)
        cases hq : P.info? t with
        | none => simp [hq] at hi
        | some i =>
          have hs : i.size = n := by simpa [hq] using hi
          simp only [Nat.add_zero, Array.length_toList] at hst
          simp [Instr.storeAt, Instr.sureAddr, storeVar, Sem.run_bind, sizeOf, typeInfo, hq, hs, Value.cells, hsz, hst, hcs, spliceA]
      · cases hv
    · cases h
  · cases h

theorem run_results_cell {fn : Func} {p : Tmp} {t : TypeId} (hr : fn.results = #[.cell p t]) (n : Nat) (hu : (match P.underlying t with | some (.struct _) | some (.array _ _) => true | _ => false) = true) (hi : (P.info? t).map (·.size) = some n)
    (tmps : Array Value) (w : World) (h : isRow n (tmps.getD p undef) w = true) : (results fn tmps).run P w = .ok (rowVal n (tmps.getD p undef) w) w := by
  unfold isRow at h
  unfold rowVal
  split at h
  · rename_i g o hx
    split at h
    · rename_i cs hcs
      simp only [decide_eq_true_eq] at h
      have hx' : tmps[p]?.getD undef = .pointer (some ⟨g, o, none⟩) := by simpa using hx
      simp [results, hr, hx', asAddr, run_loadVar_part w t g o n cs hu hi hcs h, hcs]
    · cases h
  · cases h
theorem run_eqItems_ints (d : Nat) (w : World) {e : TypeId} {k : IntKind} (he : P.underlying e = some (.int k)) (xs ys : Array Value) (A B : Nat → Int) : ∀ is : List Nat,
    (∀ i ∈ is, xs[i]? = some (.int k (A i)) ∧ ys[i]? = some (.int k (B i))) → (Op.eqItems (d + 1) e 1 xs ys is).run P w = .ok (is.all fun i => A i == B i) w
  | [], _ => by simp [Op.eqItems]
  | i :: is, h => by
    have h1 := h i (by simp)
    have hag : (isAgg e).run P w = .ok false w := by unfold isAgg; rw [Sem.run_bind, run_underlying he w]; simp
    have p1 : (part e xs (i * 1)).run P w = .ok (.int k (A i)) w := by simp [part, Sem.run_bind, hag, h1.1]
    have p2 : (part e ys (i * 1)).run P w = .ok (.int k (B i)) w := by simp [part, Sem.run_bind, hag, h1.2]
    simp only [Op.eqItems, Sem.run_bind, p1, p2, Result.andThen_ok, run_equalIn_int w d e k k _ _ he]
    rw [List.all_cons]
    cases hb : (A i == B i)
    · simp
    · simp only [Bool.not_true, Bool.false_eq_true, if_false, Bool.true_and]
      exact run_eqItems_ints d w he xs ys A B is (fun j hj => h j (by simp [hj]))
theorem run_eq_name (w : World) (d : Nat) {t e : TypeId} (hu : P.underlying t = some (.array 8 e)) (hi : (P.info? e).isSome = true) (he : P.underlying e = some (.int .u8)) (hc : P.cellsOf e = 1) (a b : UInt64) :
    (Op.equalIn (d + 2) t (.agg (nameC a)) (.agg (nameC b))).run P w = .ok (a == b) w := by
  obtain ⟨i, hi⟩ := Option.isSome_iff_exists.1 hi
  rw [run_equalIn_array w (d + 1) _ _ hu hi, hc, run_eqItems_ints d w he _ _ (fun i => ((nb a (7 - i)).toNat : Int)) (fun i => ((nb b (7 - i)).toNat : Int)) _ ?_]
  · congr 1
    rw [Bool.eq_iff_iff]
    simp only [List.all_eq_true, List.mem_range, beq_iff_eq]
    constructor
    · intro h
      refine name_ext a b fun i hi => ?_
      have := h (7 - i) (by omega)
      rw [show 7 - (7 - i) = i from by omega] at this
      omega
    · rintro rfl i _; rfl
  · intro i hi
    simp only [List.mem_range] at hi
    exact ⟨nameC_at a i hi, nameC_at b i hi⟩
theorem run_index_name (w : World) {t e : TypeId} (hu : P.underlying t = some (.array 8 e)) (hi : (P.info? e).map (·.size) = some 1) (he : P.underlying e = some (.int .u8)) (n : UInt64) (k : Int) (h0 : 0 ≤ k) (h8 : k < 8) :
    (Instr.index t (.agg (nameC n)) (.int .i64 k)).run P w = .ok (.int .u8 ((nb n (7 - k.toNat)).toNat : Int)) w := by
  have hag : (isAgg e).run P w = .ok false w := by unfold isAgg; rw [Sem.run_bind, run_underlying he w]; simp
  cases hq : P.info? e with
  | none => simp [hq] at hi
  | some i =>
    have hs : i.size = 1 := by simpa [hq] using hi
    have hk := nameC_at n k.toNat (by omega)
    simp [Instr.index, asIntOf, run_underlying hu, h0, h8, sizeOf, typeInfo, hq, hs, part, hag, hk]
end
end Go.Proofs.YtneeclacmhhblaaGreat


namespace Go.Proofs.YtneeclacmhhblaaGreat
open Go.RowKit

def Rd (w : World) (A : Option Addr) (xs : List Value) : Prop := xs = [] ∨ ∃ g o, A = some ⟨g, o, none⟩ ∧ ∀ j u, xs[j]? = some u → w.cell? ⟨g, o + j, none⟩ = some u
def Ones (xs : List Value) : Prop := ∀ u ∈ xs, u.oneCell' = true
theorem ones_nil : Ones [] := fun _ h => by cases h
theorem ones_bytes (l : List UInt8) : Ones (bytesV l) := by
  intro u hu
  simp only [bytesV, List.mem_map] at hu
  obtain ⟨c, _, rfl⟩ := hu
  rfl
theorem ones_cons {u : Value} {l : List Value} (h : u.oneCell' = true) (k : Ones l) : Ones (u :: l) := by
  intro x hx
  rcases List.mem_cons.1 hx with rfl | h'
  · exact h
  · exact k x h'
theorem ones_nameC (n : UInt64) : Ones (nameC n).toList := ones_bytes (nameB n)

section
variable {w w' : World} {A : Option Addr} {xs : List Value}
theorem Rd.nil (w : World) (A : Option Addr) : Rd w A [] := .inl rfl
theorem Rd.keep (h : Rd w A xs) (hb : Ext w w') : Rd w' A xs := by
  rcases h with h | ⟨g, o, rfl, h⟩
  · exact .inl h
  · exact .inr ⟨g, o, rfl, fun j u hu => cell_keep (h j u hu) hb⟩
theorem Rd.drew (h : Rd w A xs) : Rd w.drew A xs := h
theorem Rd.drewN (h : Rd w A xs) (n : Nat) : Rd (w.drewN n) A xs := h
theorem Rd.at (h : Rd w A xs) (hn : xs ≠ []) : ∃ g o, A = some ⟨g, o, none⟩ ∧ ∀ j u, xs[j]? = some u → w.cell? ⟨g, o + j, none⟩ = some u := h.resolve_left hn
theorem Rd.row {g : Nat} {cs : Array Value} (h : rowAt w g = some cs) (o n : Nat) : Rd w (some ⟨g, o, none⟩) ((cs.toList.drop o).take n) := by
  refine .inr ⟨g, o, rfl, fun j u hu => ?_⟩
  rw [rowAt_cell h, ← Array.getElem?_toList, ← List.getElem?_drop]
  rw [List.getElem?_take] at hu
  split at hu
  · exact hu
  · cases hu
theorem Rd.whole {g : Nat} {cs : Array Value} (h : rowAt w g = some cs) : Rd w (some ⟨g, 0, none⟩) cs.toList := by
  have := Rd.row h 0 cs.size
  rwa [List.drop_zero, List.take_of_length_le (by simp)] at this
theorem Rd.drop (h : Rd w A xs) (k c : Nat) (hk : k ≤ xs.length) (hc : xs.length ≤ c) : Rd w (if c = k then A else A.map (·.add k)) (xs.drop k) := by
  rcases h with rfl | ⟨g, o, rfl, h⟩
  · exact .inl (by simp)
  · by_cases e : xs.drop k = []
    · exact .inl e
    · have : k < xs.length := by
        rcases Nat.lt_or_ge k xs.length with h' | h'
        · exact h'
        · exact absurd (List.drop_eq_nil_of_le h') e
      rw [if_neg (by omega)]
      have hadd : (⟨g, o, none⟩ : Addr).add k = ⟨g, o + k, none⟩ := by unfold Addr.add; split <;> simp_all
      refine .inr ⟨g, o + k, by simp [hadd], fun j u hu => ?_⟩
      rw [List.getElem?_drop] at hu
      rw [Nat.add_assoc]
      exact h _ u hu
theorem Rd.take (h : Rd w A xs) (n : Nat) : Rd w A (xs.take n) := by
  rcases h with rfl | ⟨g, o, rfl, h⟩
  · exact .inl (by simp)
  · refine .inr ⟨g, o, rfl, fun j u hu => ?_⟩
    rw [List.getElem?_take] at hu
    split at hu
    · exact h j u hu
    · cases hu
theorem Rd.of_own {base : Nat} {e : TypeId} {size n c : Nat} (h : w.ownsRow base e size (.slice A n c) n xs) : Rd w A xs := by
  rcases h.2 with ⟨hv, hn⟩ | ⟨g, cap, cur, hv, _, hg, _, _, _, ht⟩
  · subst hn
    exact .inl (List.eq_nil_of_length_eq_zero (by simpa using h.1))
  · injection hv with hA
    subst hA
    have := Rd.row (rowAt_heap.2 ⟨e, hg⟩) 0 (n * size)
    rwa [List.drop_zero, ht] at this
theorem own_form {base : Nat} {e : TypeId} {size n : Nat} {v : Value} (h : w.ownsRow base e size v n xs) : ∃ A c, v = .slice A n c := by
  rcases h.2 with ⟨hv, hn⟩ | ⟨g, cap, cur, hv, _⟩
  · subst hn; exact ⟨none, 0, hv⟩
  · exact ⟨_, _, hv⟩
theorem own_cap {base : Nat} {e : TypeId} {size n c : Nat} (h : w.ownsRow base e size (.slice A n c) n xs) : n ≤ c ∧ c ≤ maxLen := by
  rcases h.2 with ⟨hv, hn⟩ | ⟨g, cap, cur, hv, _, _, h1, h2, _⟩
  · injection hv with _ _ hc
    subst hn hc
    exact ⟨Nat.le_refl _, by simp [maxLen]⟩
  · injection hv with _ _ hc
    subst hc
    exact ⟨h1, h2⟩
theorem own_base {base base' : Nat} {e : TypeId} {size n : Nat} {v : Value} (h : w.ownsRow base e size v n xs) (hb : base' ≤ base) : w.ownsRow base' e size v n xs := by
  refine ⟨h.1, ?_⟩
  rcases h.2 with h' | ⟨g, cap, cur, hv, hg, hr⟩
  · exact .inl h'
  · exact .inr ⟨g, cap, cur, hv, Nat.le_trans hb hg, hr⟩
theorem own_empty (w : World) (base : Nat) (e : TypeId) (size : Nat) : w.ownsRow base e size (.slice none 0 0) 0 [] := World.ownsRow_nil w base e size
theorem own_block {base : Nat} {e : TypeId} {size n : Nat} {v : Value} (h : w.ownsRow base e size v n xs) : ∀ k, v.ownBlock = some k → base ≤ k := fun k hk => (h.lt k hk).1
end

structure SlT (P : Program) (t e : TypeId) (size bytes : Nat) (z : Value) : Prop where
  under : P.underlying t = some (.slice e)
  info : (P.info? e).map (fun i => (i.zero, i.size, i.bytes)) = some (some z, size, bytes)
  zs : z.cells.size = size
  pos : 0 < size
  bpos : 0 < bytes

section
variable {P : Program} {t e : TypeId} {size bytes : Nat} {z : Value}
theorem run_app (hT : SlT P t e size bytes z) (ty : TypeId) {w : World} {base : Nat} {v : Value} {n : Nat} {xs : List Value} (hown : w.ownsRow base e size v n xs)
    {A : Option Addr} {m c : Nat} {news : List Value} (hrd : Rd w A news) (hl : news.length = m * size) (h1 : Ones news) (hbytes : (n + m) * bytes ≤ 140737488355328) (hbase : base ≤ w.heap.size) :
    ∃ A' c' w', (Builtin.append_ #[t, t] ty #[v, .slice A m c]).run P w = .ok (.slice A' (n + m) c') w' ∧ w'.ownsRow base e size (.slice A' (n + m) c') (n + m) (xs ++ news) ∧ Below base w w' ∧ w.grownBy w' v.ownBlock ∧
      (Value.ownBlock (.slice A' (n + m) c') = v.ownBlock ∨ Value.ownBlock (.slice A' (n + m) c') = some w.heap.size) := by
  obtain ⟨hu, hi, hz, hp, hb0⟩ := hT
  cases hq : P.info? e with
  | none => simp [hq] at hi
  | some i =>
    simp only [hq, Option.map_some, Option.some.injEq, Prod.mk.injEq] at hi
    obtain ⟨i1, i2, i3⟩ := hi
    have hbel : ∀ w', w.grownBy w' v.ownBlock → Below base w w' := fun w' hg => ⟨hg.os, hg.tape, hg.output, hg.size, fun k hk => hg.block k (by omega) (fun e' => by have := own_block hown k e'.symm; omega)⟩
    have hmax : n + m ≤ maxLen := by
      have := Nat.le_mul_of_pos_right (n + m) hb0
      simp only [maxLen]; omega
    by_cases hm : news = []
    · have m0 : m = 0 := by
        subst hm
        rcases Nat.eq_zero_or_pos m with h | h
        · exact h
        · have := Nat.mul_pos h hp; simp at hl; omega
      subst hm m0
      obtain ⟨A', c', rfl⟩ := own_form hown
      have hr : (Builtin.append_ #[t, t] ty #[.slice A' n c', .slice A 0 c]).run P w = .ok (.slice A' n c') w := by
        have hc := (own_cap hown).1
        cases A <;> cases A' <;> simp [Builtin.append_, run_underlying hu, sizeOf, typeInfo, hq, Builtin.lenOf, Builtin.firstCells, hc, storeCells, loadCells, loadCellsFrom]
      exact ⟨A', c', w, by simpa using hr, by simpa using hown, Below.refl _ _, World.grownBy.refl w _, .inl (by simp [Value.ownBlock])⟩
    · obtain ⟨g, o, rfl, hc⟩ := hrd.at hm
      obtain ⟨v', w', hr, h2, h3, _, h5⟩ := run_append_own_at (P := P) w base t ty e i z size bytes hu hq i1 i2 i3 hz hp v n xs hown ⟨g, o, none⟩ m c news hl (fun j u hu => by
        have hadd : (⟨g, o, none⟩ : Addr).add j = ⟨g, o + j, none⟩ := by unfold Addr.add; split <;> simp_all
        rw [hadd]; exact hc j u hu) h1 hmax hbytes hbase
      obtain ⟨A', c', rfl⟩ := own_form h2
      exact ⟨A', c', w', hr, h2, hbel w' h3, h3, h5⟩

theorem wp_app (hT : SlT P t e size bytes z) {w : World} {base : Nat} {v : Value} {n : Nat} {xs : List Value} (hown : w.ownsRow base e size v n xs)
    {A : Option Addr} {m c : Nat} {news : List Value} (hrd : Rd w A news) (hl : news.length = m * size) (h1 : Ones news) (hbytes : (n + m) * bytes ≤ 140737488355328) (hbase : base ≤ w.heap.size)
    {o : Oper} {a : Act} {K : Act → World → Prop} {Q : Exit → Act → World → Prop} (s x : Operand) (ho : o.op = .call { callee := .builtin .append, args := #[s, x], argTypes := #[t, t] }) (hs : a.eval s = v) (hx : a.eval x = .slice A m c)
    (h : ∀ A' c' w', w'.ownsRow base e size (.slice A' (n + m) c') (n + m) (xs ++ news) → Below base w w' → w.grownBy w' v.ownBlock →
      (Value.ownBlock (.slice A' (n + m) c') = v.ownBlock ∨ Value.ownBlock (.slice A' (n + m) c') = some w.heap.size) → K (a.put o.dst (.slice A' (n + m) c')) w') : o.wp P a w K Q := by
  obtain ⟨A', c', w', hr, h2, h3, h4, h5⟩ := run_app hT o.type hown hrd hl h1 hbytes hbase (c := c)
  unfold Oper.wp execOp
  simp only [ho, resolve, invoke, builtin, Sem.run_bind, Sem.run_pure, Result.andThen_ok, List.map_toArray, List.map_cons, List.map_nil, hs, hx, hr]
  exact h A' c' w' h2 h3 h4 h5
theorem wpList_app (hT : SlT P t e size bytes z) {w : World} {base : Nat} {v : Value} {n : Nat} {xs : List Value} (hown : w.ownsRow base e size v n xs)
    {A : Option Addr} {m c : Nat} {news : List Value} (hrd : Rd w A news) (hl : news.length = m * size) (h1 : Ones news) (hbytes : (n + m) * bytes ≤ 140737488355328) (hbase : base ≤ w.heap.size)
    {ops : Array Oper} {rest : List Oper} {o : Oper} {a : Act} {Q : Exit → Act → World → Prop} (hgd : o.guard = none) (s x : Operand) (ho : o.op = .call { callee := .builtin .append, args := #[s, x], argTypes := #[t, t] }) (hs : a.eval s = v) (hx : a.eval x = .slice A m c)
    (h : ∀ A' c' w', w'.ownsRow base e size (.slice A' (n + m) c') (n + m) (xs ++ news) → Below base w w' → w.grownBy w' v.ownBlock →
      (Value.ownBlock (.slice A' (n + m) c') = v.ownBlock ∨ Value.ownBlock (.slice A' (n + m) c') = some w.heap.size) → wpList P ops Q rest (a.put o.dst (.slice A' (n + m) c')) w') : wpList P ops Q (o :: rest) a w :=
  wpList_plain hgd fun _ hK => wp_app hT hown hrd hl h1 hbytes hbase s x ho hs hx fun A' c' w' a1 a2 a3 a4 => hK _ _ (h A' c' w' a1 a2 a3 a4)
theorem run_mk (hT : SlT P t e size bytes z) (kl kc : IntKind) (l c : Int) (h0 : 0 ≤ l) (hlc : l ≤ c) (hb : (bytes : Int) * c ≤ 281474976710656) (w : World) :
    (Instr.makeSlice t (.int kl l) (.int kc c)).run P w = .ok (.slice (some ⟨w.heap.size, 0, none⟩) l.toNat c.toNat) (w.alloc (.cells (madeCells z.cells (c.toNat * size)) e)) := by
  obtain ⟨hu, hi, hz, hp, hb0⟩ := hT
  cases hq : P.info? e with
  | none => simp [hq] at hi
  | some i =>
    simp only [hq, Option.map_some, Option.some.injEq, Prod.mk.injEq] at hi
    obtain ⟨i1, i2, i3⟩ := hi
    have hc63 : c ≤ 9223372036854775807 := by
      have : c ≤ (bytes : Int) * c := by
        have h1 : (1 : Int) ≤ bytes := by omega
        have := Int.mul_le_mul_of_nonneg_right h1 (show (0 : Int) ≤ c by omega)
        omega
      omega
    have hr := run_make (P := P) w t e i z hu hq i1 kl kc l c h0 hlc (by rw [i3]; exact hb) hc63
    rw [i2] at hr
    exact hr
end

theorem run_cp {P : Program} {w : World} {dT sT ty elem : TypeId} (hu : P.underlying dT = some (.slice elem)) (hs : (P.info? elem).map (·.size) = some 1) {g o dl dc : Nat} {cur : Array Value} (hg : rowAt w g = some cur)
    {A : Option Addr} {n c : Nat} {xs : List Value} (hrd : Rd w A xs) (hl : xs.length = n) (h1 : Ones xs) (hfit : o + dl ≤ cur.size) (X : Array Value) (hX : spliceA cur o (xs.take dl).toArray = X) :
    (Builtin.copy_ #[dT, sT] ty #[.slice (some ⟨g, o, none⟩) dl dc, .slice A n c]).run P w = .ok (goInt (min n dl : Nat)) (w.setRow g X) := by
  obtain ⟨t, hh⟩ := rowAt_heap.1 hg
  subst hX
  subst hl
  have hspl : spliceA cur o (xs.take dl).toArray = (cur.toList.take o ++ xs.take dl ++ cur.toList.drop (o + (xs.take dl).length)).toArray := by
    simp [spliceA]
  by_cases he : xs = []
  · subst he
    have hself : w.setRow g (spliceA cur o (([] : List Value).take dl).toArray) = w := by
      rw [hspl]
      simp only [List.take_nil, List.length_nil, Nat.add_zero, List.append_nil, List.take_append_drop, Array.toArray_toList]
      exact setRow_self w g cur t _ hh
    rw [hself]
    cases hq : P.info? elem with
    | none => simp [hq] at hs
    | some i => cases A <;> simp [Builtin.copy_, run_underlying hu, Builtin.lenOf, Builtin.firstCells, sizeOf, typeInfo, hq, storeCells, loadCells, loadCellsFrom]
  · obtain ⟨g', o', rfl, hc⟩ := hrd.at he
    have := run_copy_row (P := P) w dT sT ty elem g o dl dc ⟨g', o', none⟩ xs.length c cur t (xs.take dl) hu hs hh (by rw [List.length_take]; exact Nat.min_comm _ _) (fun j v hv => by
      have hadd : (⟨g', o', none⟩ : Addr).add j = ⟨g', o' + j, none⟩ := by unfold Addr.add; split <;> simp_all
      rw [hadd]
      rw [List.getElem?_take] at hv
      split at hv
      · exact hc j v hv
      · cases hv) (by rw [List.length_take]; omega) (fun v hv => h1 v (List.mem_of_mem_take hv))
    rw [hspl, this, List.length_take, Nat.min_comm]
def strB (l : List UInt8) : ByteArray := ⟨l.toArray⟩
theorem strB_toList (l : List UInt8) : (strB l).toList = l := by rw [ByteArray.toList_eq]; simp [strB]
theorem strB_size (l : List UInt8) : (strB l).size = l.length := by simp [strB, ByteArray.size]
theorem strB_append (a b : List UInt8) : strB a ++ strB b = strB (a ++ b) := by
  apply ByteArray.ext
  rw [ByteArray.data_append]
  simp [strB]
theorem str_fold (l : List UInt8) (s : ByteArray) : ((l.map fun c => (c.toNat : Int)).foldl (fun r n => r.push (UInt8.ofNat n.toNat)) s) = ⟨s.data ++ l.toArray⟩ := by
  induction l generalizing s with
  | nil => simp
  | cons c l ih =>
    simp only [List.map_cons, List.foldl_cons, Int.toNat_natCast]
    rw [ih, UInt8.ofNat_toNat]
    congr 1
    simp [ByteArray.push]
theorem run_toString {P : Program} (w : World) (src dst e : TypeId) (A : Option Addr) (l c : Nat) (hs : P.underlying src = some (.slice e)) (he : P.underlying e = some (.int .u8)) (hd : P.underlying dst = some .string)
    (bs : List UInt8) (hl : bs.length = l) (hrd : Rd w A (bytesV bs)) : (convert src dst (.slice A l c)).run P w = .ok (.string (strB bs)) w := by
  rw [run_convert_bytes_string w src dst e A l c hs he hd]
  subst hl
  cases A with
  | none =>
    have hb : bs = [] := by
      rcases hrd with h | ⟨g, o, ha, _⟩
      · have := congrArg List.length h
        simpa [bytesV] using this
      · cases ha
    subst hb
    simp [Conv.bytesToString, strB]
    rfl
  | some a =>
    have hcell : ∀ j u, (bytesV bs)[j]? = some u → w.cell? (a.add j) = some u := by
      rcases hrd with h | ⟨g, o, ha, h⟩
      · intro j u hu; rw [h] at hu; simp at hu
      · injection ha with ha
        subst ha
        intro j u hu
        have hadd : (⟨g, o, none⟩ : Addr).add j = ⟨g, o + j, none⟩ := by unfold Addr.add; split <;> simp_all
        rw [hadd]; exact h j u hu
    have hlc := run_loadCells_list (P := P) w a (bytesV bs) hcell
    have e1 : bytesV bs = (bs.map fun c => (c.toNat : Int)).map (Value.int .u8) := by simp [bytesV]
    rw [run_bytesToString w a bs.length c (bs.map fun c => (c.toNat : Int)) (by rw [← e1]; simpa [bytesV] using hlc), str_fold, show ByteArray.empty.data = #[] from rfl]
    simp [strB]

def valB : List UInt8 → Nat
  | [] => 0
  | c :: l => c.toNat * 256 ^ l.length + valB l
theorem valB_lt : ∀ l : List UInt8, valB l < 256 ^ l.length
  | [] => by simp [valB]
  | c :: l => by
    have h := valB_lt l
    have hc := c.toNat_lt
    rw [valB, List.length_cons, Nat.pow_succ]
    have : c.toNat * 256 ^ l.length + 256 ^ l.length ≤ 256 ^ l.length * 256 := by
      rw [← Nat.succ_mul, Nat.mul_comm]
      exact Nat.mul_le_mul_left _ (by omega)
    omega
theorem less_val : ∀ x y : List UInt8, x.length = y.length → Op.bytesLess x y = decide (valB x < valB y)
  | [], [], _ => by simp [Op.bytesLess, valB]
  | [], _ :: _, h => by simp at h
  | _ :: _, [], h => by simp at h
  | a :: x, b :: y, h => by
    have hl : x.length = y.length := by simpa using h
    have hx := valB_lt x
    have hy := valB_lt y
    rw [Op.bytesLess, less_val x y hl, valB, valB, hl]
    rw [hl] at hx
    generalize 256 ^ y.length = q at *
    rcases Nat.lt_trichotomy a.toNat b.toNat with hab | hab | hab
    · have h1 : a < b := UInt8.lt_iff_toNat_lt.2 hab
      have h2 : a.toNat * q + q ≤ b.toNat * q := by rw [← Nat.succ_mul]; exact Nat.mul_le_mul_right _ hab
      have h3 : a.toNat * q + valB x < b.toNat * q + valB y := by omega
      simp [h1, h3]
    · obtain rfl : a = b := UInt8.toNat_inj.1 hab
      simp
    · have h1 : ¬ a < b := fun h => by have := UInt8.lt_iff_toNat_lt.1 h; omega
      have h1' : ¬ a = b := fun h => by subst h; omega
      have h2 : b.toNat * q + q ≤ a.toNat * q := by rw [← Nat.succ_mul]; exact Nat.mul_le_mul_right _ hab
      have h3 : ¬ a.toNat * q + valB x < b.toNat * q + valB y := by omega
      rw [decide_eq_false h3]
      simp [h1, h1']
theorem valB_name (n : UInt64) : valB (nameB n) = n.toNat := by
  have := n.toNat_lt
  simp only [nameB, valB, List.length_cons, List.length_nil, Nat.reduceAdd, Nat.reducePow, nb_lt, Nat.pow_zero, Nat.mul_one, Nat.pow_one, Nat.div_one, Nat.add_zero]
  omega
theorem less_names (a b : UInt64) : Op.bytesLess (nameB a) (nameB b) = decide (a < b) := by
  rw [less_val (nameB a) (nameB b) rfl, valB_name, valB_name]
  simp [UInt64.lt_iff_toNat_lt]
def nameOfC (cs : Array Value) : UInt64 := nameOf fun i => match cs[i]? with | some (.int _ n) => UInt8.ofNat n.toNat | _ => 0
theorem nameOfC_nameC (n : UInt64) : nameOfC (nameC n) = n := by
  refine name_ext _ _ fun i hi => ?_
  unfold nameOfC
  rw [nb_nameOf _ i hi, nameC_at n (7 - i) (by omega)]
  simp only [Int.toNat_natCast, UInt8.ofNat_toNat]
  rw [show 7 - (7 - i) = i from by omega]
theorem run_strName {P : Program} (w : World) (src dst e : TypeId) (hs : P.underlying src = some (.slice e)) (he : P.underlying e = some (.int .u8)) (hd : P.underlying dst = some .string) (g : Nat)
    (h1 : (rowAt w g).isSome = true) (h2 : nameC (nameOfC ((rowAt w g).getD #[])) = (rowAt w g).getD #[]) :
    (convert src dst (.slice (some ⟨g, 0, none⟩) 8 8)).run P w = .ok (.string (strB (nameB (nameOfC ((rowAt w g).getD #[]))))) w := by
  obtain ⟨cs, hcs⟩ := Option.isSome_iff_exists.1 h1
  have hrd := Rd.whole hcs
  rw [hcs] at h2 ⊢
  simp only [Option.getD_some] at h2 ⊢
  rw [← h2, nameC_toList] at hrd
  exact run_toString w src dst e _ _ _ hs he hd _ rfl hrd
end Go.Proofs.YtneeclacmhhblaaGreat


namespace Go.Proofs.YtneeclacmhhblaaGreat
open Go.RowKit

section
variable {P : Program} {k : Nat} {H : AH} {T : AT} {d : Option Tmp} {ty : TypeId} {ps : String} {af : Array Edge} {gd : Option (Nat × Bool)}
variable {t e : TypeId} {size bytes : Nat} {z : Value}

theorem SI.slt (h : SI P t e size bytes z) : SlT P t e size bytes z := ⟨h.under, h.info, h.zs, h.pos, h.bpos⟩
theorem Sta.congr {w0 : World} {M : Mod} {H H' : AH} {E : Env} (h : Sta w0 M H E) (hh : ∀ b, hk H' b = hk H b) : Sta w0 M H' E :=
  ⟨h.os, h.tape, h.output, h.size, h.frame, fun g => by simp only [hh]; exact h.seq g, fun b blk hb => h.own b blk (by rw [← hh]; exact hb), fun b b' k1 k2 g h1 h2 => h.inj b b' k1 k2 g (by rw [← hh]; exact h1) (by rw [← hh]; exact h2), h.hid, h.pin⟩

theorem own_of {w0 : World} {M : Mod} {Hr : AH} {E : Env} (hs : Sta w0 M Hr E) {b n : Nat} {blk : ABlk} (hb : hk Hr b = some blk) (hn : n ≤ (E.L b).c) (hm : (E.L b).c ≤ maxLen) (hl : blk.cells.length = n * size) (he : blk.elem = e) (hz : blk.sz = size) :
    ∃ xs, RVs E blk.cells xs ∧ E.w.ownsRow 0 e size (.slice ((E.L b).g.map fun g => ⟨g, 0, none⟩) n (E.L b).c) n xs := by
  cases eg : (E.L b).g with
  | none =>
    obtain ⟨h0, h1⟩ := (hs.own b blk hb).2.2.none eg
    have : n = 0 := by omega
    subst this
    rw [h1, h0]
    exact ⟨[], RVs.nil E, own_empty _ _ _ _⟩
  | some g =>
    obtain ⟨cs, c1, c2, c3, c4, c5⟩ := (hs.own b blk hb).2.2.at eg hm
    subst he hz
    rw [hl] at c5
    exact ⟨_, c5, by rw [List.length_take]; have := c5.1; simp only [List.length_take, Array.length_toList] at this ⊢; omega, .inr ⟨g, _, cs, rfl, Nat.zero_le _, c1, hn, c2, c3, rfl⟩⟩
theorem loc_of {w' : World} {A : Option Addr} {n c : Nat} {xs : List Value} (h : w'.ownsRow 0 e size (.slice A n c) n xs) :
    ∃ l : Loc, A = (l.g.map fun g => ⟨g, 0, none⟩) ∧ c = l.c ∧ n ≤ l.c ∧ l.c ≤ maxLen ∧ (Value.ownBlock (.slice A n c) = l.g) ∧
      ∀ (E' : Env) (cells : List AV), E'.w = w' → RVs E' cells xs → BOK E' l ⟨cells, e, size⟩ := by
  rcases h.2 with ⟨hv, hn⟩ | ⟨g, cap, cur, hv, _, hg, h1, h2, h3, h4⟩
  · injection hv with hA hn' hc
    subst hA hn hc
    refine ⟨⟨none, 0⟩, rfl, rfl, Nat.le_refl _, Nat.zero_le _, rfl, fun E' cells hw hr => .mk_none rfl ⟨?_, rfl⟩⟩
    have hx := h.1
    simp at hx
    have := hr.1
    rw [hx] at this
    exact List.eq_nil_of_length_eq_zero this.symm
  · injection hv with hA _ hc
    subst hA hc
    refine ⟨⟨some g, c⟩, rfl, rfl, h1, h2, rfl, fun E' cells hw hr => .mk rfl ⟨cur, by rw [hw]; exact hg, h2, h3, ?_, ?_⟩⟩
    · show cells.length ≤ _
      rw [← hr.1, h.1, h3]; exact Nat.mul_le_mul_right _ h1
    · show RVs E' cells (cur.toList.take cells.length)
      rw [← hr.1, h.1, h4]; exact hr

theorem s_app {x y : Operand} {b n m : Nat} {blk : ABlk} {u : AV} {cs : List AV} {U : List Nat} [hS : SI P t e size bytes z] (hx : ev T x = some (.sl b n)) (hb : hk H b = some blk) (hy : ev T y = some u) (hr : Rdv H size u m cs U)
    (hl : blk.cells.length = n * size) (he : blk.elem = e) (hz : blk.sz = size) (h1 : cs.all AV.one = true) (hbytes : (n + m) * bytes ≤ 140737488355328) :
    StepU P ⟨d, .call { callee := .builtin .append, args := #[x, y], argTypes := #[t, t] }, ty, ps, af, gd⟩ k (b :: U) H T (.sl k (n + m)) [(k, some ⟨blk.cells ++ cs, e, size⟩), (b, none)] := by
  refine ⟨fun w0 M Hr E a hs hU hk0 hT K Q hK => ?_⟩
  have hb' := (hU b (by simp)).trans hb
  have hv := hT x (by simp [Op.operands, Call.operands]) _ hx
  obtain ⟨A2, c2, ys, hy2, _, hys, hysl, hrd⟩ := hr w0 M Hr E _ hs (fun b hb => hU b (by simp [hb])) (hT y (by simp [Op.operands, Call.operands]) _ hy)
  generalize hxv : a.eval x = v at hv
  cases hv with
  | sl b n hD hn hm =>
    obtain ⟨xs, hxs, hown⟩ := own_of hs hb' hn hm hl he hz
    refine wp_app hS.slt hown hrd hysl (hys.ones h1) hbytes (Nat.zero_le _) x y rfl hxv hy2 fun A' c' w' hown' _ hgr hor => ?_
    obtain ⟨l, rfl, rfl, hnl, hml, hob, hB⟩ := loc_of hown'
    have hrow : Value.ownBlock (.slice ((E.L b).g.map fun g => ⟨g, 0, none⟩) n (E.L b).c) = (E.L b).g := by cases (E.L b).g <;> rfl
    obtain ⟨E', e1, e2, e3, e4, e5, e6⟩ := hs.move hb' (hk0 k (Nat.le_refl _) (by omega)) w' l ⟨blk.cells ++ cs, e, size⟩ hgr.size
      (fun g hg hne => hgr.block g hg (by rw [hrow]; exact fun e => hne e.symm)) hgr.os hgr.tape hgr.output
      (fun g hg => by
        rw [hob, hrow] at hor
        rcases hor with h | h
        · exact .inl (by rw [← h]; exact hg)
        · rw [hg] at h; injection h with h; exact .inr (by omega))
      (fun E' hw hle => hB E' _ hw ((hxs.mono hle).append (hys.mono hle)))
    have := hK (.slice (l.g.map fun g => ⟨g, 0, none⟩) (n + m) l.c) E' e4 e5 (fun b hb => (e6 b hb).imp id (fun e => ⟨by omega, by omega⟩)) (by rw [← e2] at hnl hml ⊢; exact .sl _ _ e3 hnl hml)
    rw [e1] at this
    exact this
theorem s_appNil {x y : Operand} {m : Nat} {u : AV} {cs : List AV} {U : List Nat} [hS : SI P t e size bytes z] (hx : ev T x = some (.v (.slice none 0 0))) (hy : ev T y = some u) (hr : Rdv H size u m cs U)
    (h1 : cs.all AV.one = true) (hbytes : m * bytes ≤ 140737488355328) :
    StepU P ⟨d, .call { callee := .builtin .append, args := #[x, y], argTypes := #[t, t] }, ty, ps, af, gd⟩ k U H T (.sl k m) [(k, some ⟨cs, e, size⟩)] :=
  .of_new fun w0 M Hr E a hs hU hT => by
    have hv := (hT x (by simp [Op.operands, Call.operands]) _ hx).v_inv
    obtain ⟨A2, c2, ys, hy2, _, hys, hysl, hrd⟩ := hr w0 M Hr E _ hs hU (hT y (by simp [Op.operands, Call.operands]) _ hy)
    obtain ⟨A', c', w', hrun, hown', _, hgr, hor⟩ := run_app hS.slt ty (own_empty E.w 0 e size) hrd hysl (hys.ones h1) (by rw [Nat.zero_add]; exact hbytes) (Nat.zero_le _) (c := c2)
    simp only [Nat.zero_add, List.nil_append] at hrun hown' hor
    obtain ⟨l, rfl, rfl, hnl, hml, hob, hB⟩ := loc_of hown'
    refine ⟨.slice (l.g.map fun g => ⟨g, 0, none⟩) m l.c, w', l, ?_, ⟨hgr.os, hgr.tape, hgr.output, hgr.size, fun g hg => hgr.block g hg (by simp [Value.ownBlock])⟩, fun g hg => ?_, fun E' hw hle => hB E' cs hw (hys.mono hle), fun E' hL hD => ?_⟩
    · simp only [execOp, resolve, invoke, builtin, Sem.run_bind, Sem.run_pure, Result.andThen_ok, List.map_toArray, List.map_cons, List.map_nil, hv, hy2, hrun]
    · rw [hob] at hor
      rcases hor with h | h
      · simp [Value.ownBlock] at h; rw [h] at hg; cases hg
      · rw [hg] at h; injection h with h; omega
    · rw [← hL] at hnl hml ⊢; exact .sl _ _ hD hnl hml
def Flv (u : AV) (n : Nat) : Prop := ∀ (E : Env) (x : Value), RV E u x → ∃ A, x = .slice A n n
theorem fl_sb {b o n : Nat} : Flv (.sb b o n (some n)) n := fun E x h => by
  cases h with | sb b o n c A c' hD hA hn hc hm => exact ⟨A, by rw [hc n rfl]⟩
theorem s_appFull {x y : Operand} {n m : Nat} {u u0 : AV} {cs cs0 : List AV} {U U0 : List Nat} [hS : SI P t e size bytes z] (hx : ev T x = some u0) (hf : Flv u0 n) (hr0 : Rdv H size u0 n cs0 U0) (hy : ev T y = some u) (hr : Rdv H size u m cs U)
    (hm : 0 < m) (hbytes : (n + m) * bytes ≤ 140737488355328) :
    StepU P ⟨d, .call { callee := .builtin .append, args := #[x, y], argTypes := #[t, t] }, ty, ps, af, gd⟩ k (U0 ++ U) H T (.sl k (n + m)) [(k, some ⟨cs0 ++ cs, e, size⟩)] :=
  .of_new fun w0 M Hr E a hs hU hT => by
    have hv := hT x (by simp [Op.operands, Call.operands]) _ hx
    obtain ⟨A0, hv0⟩ := hf E _ hv
    obtain ⟨A1, c1, xs, hx1, _, hxs, hxsl, hrd0⟩ := hr0 w0 M Hr E _ hs (fun b hb => hU b (by simp [hb])) hv
    rw [hv0] at hx1
    injection hx1 with hA _ hc
    subst hA hc
    obtain ⟨A2, c2, ys, hy2, _, hys, hysl, hrd⟩ := hr w0 M Hr E _ hs (fun b hb => hU b (by simp [hb])) (hT y (by simp [Op.operands, Call.operands]) _ hy)
    obtain ⟨hu, hi, hzs, hp, hb0⟩ := hS.slt
    have hmax : n + m ≤ maxLen := by
      have := Nat.le_mul_of_pos_right (n + m) hb0
      simp only [maxLen]; omega
    cases hq : P.info? e with
    | none => simp [hq] at hi
    | some i =>
      simp only [hq, Option.map_some, Option.some.injEq, Prod.mk.injEq] at hi
      obtain ⟨i1, i2, i3⟩ := hi
      subst i2 i3
      have hyn : ys ≠ [] := by
        intro h0
        subst h0
        have := Nat.mul_pos hm hp
        simp at hysl; omega
      obtain ⟨g, o, rfl, hcy⟩ := Or.resolve_left hrd hyn
      have hnews : ∀ (j : Nat) u, ys[j]? = some u → E.w.cell? ((⟨g, o, none⟩ : Addr).add j) = some u := fun j u hu => by rw [addr_at]; exact hcy j u hu
      have hsm : n + m ≤ 9223372036854775807 := by simp only [maxLen] at hmax; omega
      have hge := grownCap_ge E.w (n + m) n e
      have hcm := grownCap_le_maxLen E.w (n + m) n e hmax
      have hrun : (Builtin.append_ #[t, t] ty #[.slice A0 n n, .slice (some ⟨g, o, none⟩) m c2]).run P E.w =
          .ok (.slice (some ⟨E.w.heap.size, 0, none⟩) (n + m) (grownCap E.w (n + m) n e)) (E.w.drew.alloc (.cells (xs.toArray ++ ys.toArray ++ Builtin.zeroCells z.cells (grownCap E.w (n + m) n e - (n + m))) e)) := by
        cases A0 with
        | none =>
          have : xs = [] := by
            rcases hrd0 with h | ⟨_, _, h, _⟩
            · exact h
            · cases h
          subst this
          have hn0 : n = 0 := by
            rcases Nat.eq_zero_or_pos n with h | h
            · exact h
            · have := Nat.mul_pos h hp; simp at hxsl; omega
          subst hn0
          have := run_append_nil (P := P) E.w t ty e i z hu hq i1 ⟨g, o, none⟩ m c2 ys hysl hnews (by omega) (by omega) (by have hb := hbytes; simp only [Nat.zero_add] at hb; omega)
          simpa using this
        | some a0 =>
          have holds : ∀ (j : Nat) u, xs[j]? = some u → E.w.cell? (a0.add j) = some u := by
            rcases hrd0 with h | ⟨g0, o0, h, hc⟩
            · intro j u hu; rw [h] at hu; simp at hu
            · injection h with h; subst h; intro j u hu; rw [addr_at]; exact hc j u hu
          exact run_append_grow (P := P) E.w t ty e i z hu hq i1 a0 n n xs hxsl holds ⟨g, o, none⟩ m c2 ys hysl hnews (by omega) (by omega) (growslice_fits (by omega) hbytes)
      refine ⟨.slice (some ⟨E.w.heap.size, 0, none⟩) (n + m) (grownCap E.w (n + m) n e), E.w.drew.alloc (.cells (xs.toArray ++ ys.toArray ++ Builtin.zeroCells z.cells (grownCap E.w (n + m) n e - (n + m))) e), ⟨some E.w.heap.size, grownCap E.w (n + m) n e⟩,
        by simp only [execOp, resolve, invoke, builtin, Sem.run_bind, Sem.run_pure, Result.andThen_ok, List.map_toArray, List.map_cons, List.map_nil, hv0, hy2, hrun],
        (Below.refl _ _).drew.alloc (Nat.le_refl _) _, fun g hg => by injection hg with hg; omega, fun E' hw hle => .mk rfl ⟨_, by rw [hw]; exact Go.heap_alloc_new E.w.drew _, hcm, ?_, ?_, ?_⟩, fun E' hL hD => ?_⟩
      · show Array.size _ = grownCap E.w (n + m) n e * i.size
        simp only [Array.size_append, List.size_toArray, size_zeroCells, hzs, hxsl, hysl, ← Nat.add_mul]
        congr 1
        omega
      · show (cs0 ++ cs).length ≤ Array.size _
        simp only [Array.size_append, List.size_toArray, List.length_append, hxs.1, hys.1]; omega
      · show RVs E' (cs0 ++ cs) (List.take (cs0 ++ cs).length _)
        have hxy := (hxs.mono hle).append (hys.mono hle)
        have : (xs.toArray ++ ys.toArray ++ Builtin.zeroCells z.cells (grownCap E.w (n + m) n e - (n + m))).toList.take (cs0 ++ cs).length = xs ++ ys := by
          rw [← hxy.1]
          simp only [Array.toList_append, List.append_assoc]
          rw [← List.append_assoc]
          exact List.take_left
        rw [this]
        exact hxy
      · have : RV E' (.sl k (n + m)) (.slice ((E'.L k).g.map fun g => ⟨g, 0, none⟩) (n + m) (E'.L k).c) := .sl _ _ hD (by rw [hL]; exact hge) (by rw [hL]; exact hcm)
        rw [hL] at this
        exact this

theorem copy_key {w0 : World} {M : Mod} {Hr : AH} {E : Env} {t' : TypeId} {b o n m g c' c2 : Nat} {blk : ABlk} {cs : List AV} {A2 : Option Addr} {ys : List Value} (hS : SI P t e 1 bytes z) (hs : Sta w0 M Hr E) (hb : hk Hr b = some blk) (hg : (E.L b).g = some g) (hm : (E.L b).c ≤ maxLen)
    (hys : RVs E cs ys) (hysl : ys.length = m * 1) (hrd : RdC E.w A2 ys) (ho : o + n ≤ blk.cells.length) (h1 : cs.all AV.one = true) :
    ∃ w', (Builtin.copy_ #[t, t'] ty #[.slice (some ⟨g, o, none⟩) n c', .slice A2 m c2]).run P E.w = .ok (.int .i64 ((min m n : Nat) : Int)) w' ∧
      Sta w0 M ((b, some { blk with cells := spl blk.cells o (cs.take n) }) :: Hr) { E with w := w' } ∧ E.le { E with w := w' } := by
  obtain ⟨cur, c1, c2', c3, c4, c5⟩ := (hs.own b blk hb).2.2.at hg hm
  have hcp := run_cp (P := P) (w := E.w) (dT := t) (sT := t') (ty := ty) (elem := e) hS.under (si_size hS) (rowAt_heap.2 ⟨_, c1⟩) (g := g) (o := o) (dl := n) (dc := c') (A := A2) (n := m) (c := c2) hrd (by simpa using hysl) (hys.ones h1) (by omega) _ rfl
  have hspl : spliceA cur o (ys.take n).toArray = (cur.toList.take o ++ ys.take n ++ cur.toList.drop (o + (ys.take n).length)).toArray := by simp [spliceA]
  have hR := RVs.spl (o := o) c4 c5 (hys.take n) (by rw [List.length_take]; omega)
  rw [← hspl] at hR
  have htl : (ys.take n).length ≤ n := by rw [List.length_take]; omega
  have hss : (spliceA cur o (ys.take n).toArray).size = cur.size := spliceA_size _ _ _ (by simp only [List.size_toArray]; omega)
  have hset := hs.set hb hg (E.w.setRow g (spliceA cur o (ys.take n).toArray)) (by simp [World.setRow]) (fun g' hne => setRow_other E.w g g' _ hne) rfl rfl rfl (spl blk.cells o (cs.take n))
    (fun E' hw hle => .mk hg ⟨_, by rw [hw]; exact setRow_heap E.w g cur _ _ _ c1, c2', by rw [hss]; exact c3, by rw [hss]; show (spl blk.cells o (cs.take n)).length ≤ _; rw [spl_length _ _ _ (by rw [List.length_take]; omega)]; exact c4, hR.mono hle⟩)
  exact ⟨_, hcp, hset⟩
theorem s_copyL {x y : Operand} {t' : TypeId} {b n m : Nat} {blk : ABlk} {u : AV} {cs : List AV} {U : List Nat} [hS : SI P t e 1 bytes z] (hx : ev T x = some (.sl b n)) (hb : hk H b = some blk) (hy : ev T y = some u) (hr : Rdv H 1 u m cs U)
    (hl : blk.cells.length = n) (h1 : cs.all AV.one = true) :
    StepU P ⟨d, .call { callee := .builtin .copy, args := #[x, y], argTypes := #[t, t'] }, ty, ps, af, gd⟩ k (b :: U) H T (.v (.int .i64 ((min m n : Nat) : Int))) [(b, some { blk with cells := spl blk.cells 0 (cs.take n) })] := by
  refine ⟨fun w0 M Hr E a hs hU hk0 hT K Q hK => ?_⟩
  have hb' := (hU b (by simp)).trans hb
  have hv := hT x (by simp [Op.operands, Call.operands]) _ hx
  obtain ⟨A2, c2, ys, hy2, _, hys, hysl, hrd⟩ := hr w0 M Hr E _ hs (fun b hb => hU b (by simp [hb])) (hT y (by simp [Op.operands, Call.operands]) _ hy)
  generalize hxv : a.eval x = v at hv
  cases hv with
  | sl b n hD hnc hm =>
    cases eg : (E.L b).g with
    | none =>
      obtain ⟨z1, z2⟩ := (hs.own b blk hb').2.2.none eg
      have n0 : n = 0 := by omega
      subst n0
      have hsame : { blk with cells := spl blk.cells 0 (cs.take 0) } = blk := by cases blk; simp only at z1; subst z1; simp [spl]
      rw [hsame] at hK
      have hcp : (Builtin.copy_ #[t, t'] ty #[.slice none 0 (E.L b).c, .slice A2 m c2]).run P E.w = .ok (goInt 0) E.w := by
        cases A2 <;> simp [Builtin.copy_, run_underlying hS.under, Builtin.lenOf, Builtin.firstCells, run_sizeOf' (si_size hS), loadCells, loadCellsFrom]
      rw [eg] at hxv
      unfold Oper.wp
      have : (execOp a.eval ⟨d, .call { callee := .builtin .copy, args := #[x, y], argTypes := #[t, t'] }, ty, ps, af, gd⟩).run P E.w = .ok (.value (.int .i64 ((min m 0 : Nat) : Int))) E.w := by
        simp only [execOp, resolve, invoke, builtin, Sem.run_bind, Sem.run_pure, Result.andThen_ok, List.map_toArray, List.map_cons, List.map_nil, hxv, hy2, Option.map_none, hcp, goInt]
        simp
      rw [this]
      refine hK _ E (hs.congr fun b2 => ?_) (.refl E) (fun b hb => .inl hb) (.v _)
      show hk ((b, some blk) :: Hr) b2 = _
      rw [hk_cons]
      split
      · rename_i h; subst h; exact hb'.symm
      · rfl
    | some g =>
      rw [eg] at hxv
      obtain ⟨w', hrun, h2, h3⟩ := copy_key (ty := ty) (t' := t') (c' := (E.L b).c) (c2 := c2) (o := 0) (n := n) hS hs hb' eg hm hys hysl hrd (by omega) h1
      unfold Oper.wp
      have : (execOp a.eval ⟨d, .call { callee := .builtin .copy, args := #[x, y], argTypes := #[t, t'] }, ty, ps, af, gd⟩).run P E.w = .ok (.value (.int .i64 ((min m n : Nat) : Int))) w' := by
        simp only [execOp, resolve, invoke, builtin, Sem.run_bind, Sem.run_pure, Result.andThen_ok, List.map_toArray, List.map_cons, List.map_nil, hxv, hy2, Option.map_some, hrun]
      rw [this]
      exact hK _ _ h2 h3 (fun b hb => .inl hb) (.v _)

theorem s_make {x y : Operand} {l c : Nat} {kl kc : IntKind} {z0 : Value} [hS : SI P t e size bytes z] (hx : ev T x = some (.v (.int kl (l : Int)))) (hy : ev T y = some (.v (.int kc (c : Int)))) (hz0 : z.cells = Array.replicate size z0) (hlc : l ≤ c) (hb : bytes * c ≤ 281474976710656) :
    StepU P ⟨d, .makeSlice t x y, ty, ps, af, gd⟩ k [] H T (.sl k l) [(k, some ⟨List.replicate (l * size) (.v z0), e, size⟩)] :=
  .of_alloc fun w0 M Hr E a hs hU hT => by
    have h1 := (hT x (by simp [Op.operands]) _ hx).v_inv
    have h2 := (hT y (by simp [Op.operands]) _ hy).v_inv
    have hp := hS.pos
    have hmk := run_mk hS.slt kl kc (l : Int) (c : Int) (by omega) (by omega) (by have := hb; rw [← Int.natCast_mul]; omega) E.w
    simp only [Int.toNat_natCast] at hmk
    have hcm : c ≤ maxLen := by
      have := Nat.le_mul_of_pos_left c hS.bpos
      simp only [maxLen]; omega
    have hcells : (madeCells z.cells (c * size)).toList = List.replicate (c * size) z0 := by
      rw [hz0]
      apply List.ext_getElem
      · simp [madeCells]
      · intro i h1 h2
        simp only [madeCells, Array.size_replicate, Array.toList_map, List.getElem_map, List.getElem_replicate]
        have : ∀ j, (Array.replicate size z0)[j % size]! = z0 := fun j => by
          have hlt : j % size < size := Nat.mod_lt _ hp
          simp [hlt]
        exact this _
    refine ⟨_, madeCells z.cells (c * size), c, by simp only [execOp, h1, h2, Sem.run_bind, Sem.run_pure, hmk, Result.andThen_ok]; rfl, hcm, by rw [size_madeCells], ?_, ?_, fun E' hL hD => ?_⟩
    · simp only [List.length_replicate, size_madeCells]; exact Nat.mul_le_mul_right _ hlc
    · simp only [List.length_replicate]
      rw [hcells, List.take_replicate, Nat.min_eq_left (Nat.mul_le_mul_right _ hlc)]
      have := RVs.vals (E := E) (List.replicate (l * size) z0)
      simpa using this
    · have : RV E' (.sl k l) (.slice ((E'.L k).g.map fun g => ⟨g, 0, none⟩) l (E'.L k).c) := .sl _ _ hD (by rw [hL]; exact hlc) (by rw [hL]; exact hcm)
      rw [hL] at this
      exact this
def byA (bs : List UInt8) : List AV := bs.map fun c => .v (.int .u8 (c.toNat : Int))
theorem byA_length (bs : List UInt8) : (byA bs).length = bs.length := by simp [byA]
theorem byA_vals (bs : List UInt8) : byA bs = (bytesV bs).map .v := by simp [byA, bytesV]
theorem byA_ones (bs : List UInt8) : (byA bs).all AV.one = true := by simp [byA, AV.one, Value.oneCell']
theorem byA_append (a b : List UInt8) : byA (a ++ b) = byA a ++ byA b := by simp [byA]
theorem byA_drop (a : List UInt8) (n : Nat) : (byA a).drop n = byA (a.drop n) := by simp [byA]
theorem byA_take (a : List UInt8) (n : Nat) : (byA a).take n = byA (a.take n) := by simp [byA]
theorem fill_seq (pl : Nat → Option (Nat × Nat)) (hpl : ∀ i, pl i = some (i, 1)) : ∀ (ps : List (Nat × Value)) (o : Nat) (cs : Array Value), (∀ (j : Nat) (p : Nat × Value), ps[j]? = some p → p.1 = o + j ∧ p.2.oneCell' = true) → cs.size = o + ps.length →
    Instr.fill pl cs ps = some (cs.toList.take o ++ ps.map (·.2)).toArray
  | [], o, cs, _, hs => by
    simp only [Instr.fill, List.map_nil, List.append_nil]
    rw [List.take_of_length_le (by simp at hs ⊢; omega)]
  | (i, v) :: rest, o, cs, h, hs => by
    obtain ⟨h1, h2⟩ := h 0 (i, v) rfl
    simp only [Nat.add_zero] at h1
    subst h1
    have hc : v.cells = #[v] := by cases v <;> first | rfl | cases h2
    simp only [List.length_cons] at hs
    have ih := fill_seq pl hpl rest (i + 1) (cs.setIfInBounds i v) (fun j p hp => by have := h (j + 1) p (by simpa using hp); exact ⟨by omega, this.2⟩) (by simp; omega)
    have hlt : i < cs.size := by omega
    have hng : ¬ (i + 1 > cs.size) := by omega
    have e1 : (#[v].zipIdx.foldl (fun cs (x : Value × Nat) => match x with | (c, j) => cs.setIfInBounds (i + j) c) cs) = cs.setIfInBounds i v := by simp
    simp only [Instr.fill, hpl, hc, e1, ih]
    simp only [List.size_toArray, List.length_cons, List.length_nil, Nat.zero_add, ne_eq, not_true_eq_false, decide_false, Bool.false_or, decide_eq_true_eq, hng, if_false, List.map_cons]
    simp only [gt_iff_lt, Nat.not_lt.2 (Nat.succ_le_of_lt hlt), decide_false, Bool.false_eq_true, if_false, Option.some.injEq]
    congr 1
    apply List.ext_getElem?
    intro j
    simp only [List.getElem?_append, List.length_take, Array.length_toList, Array.size_setIfInBounds, List.getElem?_take, Array.getElem?_toList, Array.getElem?_setIfInBounds]
    have m1 : min (i + 1) cs.size = i + 1 := by omega
    have m2 : min i cs.size = i := by omega
    rw [m1, m2]
    by_cases hj : j < i
    · have h3 : j < i + 1 := by omega
      have h4 : ¬ i = j := by omega
      simp [hj, h3, h4]
    · by_cases hj2 : j = i
      · subst hj2; simp [hlt]
      · have h3 : ¬ j < i + 1 := by omega
        have e2 : j - i = (j - (i + 1)) + 1 := by omega
        simp [hj, h3, e2]
theorem s_bytesLit {l : List (Nat × Operand)} {n : Nat} [hS : SI P t e 1 bytes z] (hp : l.all (fun p => isV T p.2) = true) (hq : ∀ (j : Nat) (p : Nat × Operand), l[j]? = some p → p.1 = j ∧ (evV T p.2).oneCell' = true) (hn : l.length = n) (hsmall : n ≤ 16777216) :
    StepU P ⟨d, .buildSlice t n l.toArray, ty, ps, af, gd⟩ k [] H T (.sl k n) [(k, some ⟨l.map (fun p => .v (evV T p.2)), e, 1⟩)] :=
  .of_alloc fun w0 M Hr E a hs hU hT => by
    have h1 := evV_parts (E := E) (a := a) hp (fun x hx => hT x (by simpa [Op.operands] using hx))
    have hf := fun pl hpl cs => fill_seq pl hpl (l.map fun p => (p.1, evV T p.2)) 0 cs (fun j p hp => by
      rw [List.getElem?_map] at hp
      cases hl : l[j]? with
      | none => rw [hl] at hp; cases hp
      | some q => rw [hl] at hp; simp at hp; subst hp; have := hq j q hl; simpa using this)
    have hsz : ¬ n > 16777216 := by omega
    have hi := hS.info
    refine ⟨.slice (some ⟨E.w.heap.size, 0, none⟩) n n, (l.map fun p => evV T p.2).toArray, n, ?_, by simp only [maxLen]; omega, by simp [hn], by simp, ?_, fun E' hL hD => ?_⟩
    · cases hqi : P.info? e with
      | none => simp [hqi] at hi
      | some i =>
        simp only [hqi, Option.map_some, Option.some.injEq, Prod.mk.injEq] at hi
        obtain ⟨i1, i2, i3⟩ := hi
        have hfz : ∀ zc : Array Value, Instr.fill (fun j => some (j * i.size, i.size)) ((Array.range (n * i.size)).map (zc[· % zc.size]!)) (l.map fun p => (p.1, evV T p.2)) = some (l.map fun p => evV T p.2).toArray := fun zc => by
          rw [hf _ (by intro j; rw [i2, Nat.mul_one]) _ (by simp [hn, i2])]
          simp [List.map_map, Function.comp_def]
        have hb : ¬ n * i.size > 2 ^ 24 := by rw [i2]; omega
        by_cases hn0 : n * i.size = 0
        · have := hfz #[]
          rw [hn0] at this
          simp only [execOp, h1, Instr.buildSlice, run_underlying hS.under, sizeOf, typeInfo, zeroValue, Sem.run_bind, Sem.run_pure, Result.andThen_ok]
          simp [hqi, hn0, newRow] at this ⊢
          simp [this]
        · have := hfz z.cells
          simp only [execOp, h1, Instr.buildSlice, run_underlying hS.under, sizeOf, typeInfo, zeroValue, Sem.run_bind, Sem.run_pure, Result.andThen_ok]
          simp [hqi, hb, hn0, i1, this, newRow]
    · simp only [List.length_map]
      rw [List.take_of_length_le (by simp)]
      have := RVs.vals (E := E) (l.map fun p => evV T p.2)
      simpa [List.map_map, Function.comp_def] using this
    · have : RV E' (.sl k n) (.slice ((E'.L k).g.map fun g => ⟨g, 0, none⟩) n (E'.L k).c) := .sl _ _ hD (by rw [hL]; exact Nat.le_refl _) (by rw [hL]; simp only [maxLen]; omega)
      rw [hL] at this
      exact this
end
end Go.Proofs.YtneeclacmhhblaaGreat


namespace Go.Proofs.YtneeclacmhhblaaGreat
open Go.RowKit

abbrev AQ := Exit → Nat → AH → AT → Prop
def lif (n : Nat) (w0 : World) (M : Mod) (Q : AQ) : Exit → Act → World → Prop := fun e a w => ∃ k H T, St n w0 M k H T a w ∧ Q e k H T
def Gol (P : Program) (n : Nat) (w0 : World) (M : Mod) (c : Code) (k : Nat) (H : AH) (T : AT) (Q : AQ) : Prop := ∀ a w, St n w0 M k H T a w → c.wp P (lif n w0 M Q) a w
def thn (P : Program) (n : Nat) (w0 : World) (M : Mod) (c : Code) (Q : AQ) : AQ
  | .normal, k, H, T => Gol P n w0 M c k H T Q
  | e, k, H, T => Q e k H T
def inBlk (id : Nat) (Q : AQ) : AQ
  | .exit i, k, H, T => if i = id then Q .normal k H T else Q (.exit i) k H T
  | e, k, H, T => Q e k H T
def Le (M : Mod) (k' : Nat) (H' : AH) (T' : AT) (k : Nat) (H : AH) (T : AT) : Prop := ∀ n w0 a w, St n w0 M k' H' T' a w → St n w0 M k H T a w
def rnd {ι : Type} (M : Mod) (I : ι → Prop) (μ : ι → Nat) (kL : Nat) (Hh : ι → AH) (Th : ι → AT) (i : ι) (Q : AQ) : AQ
  | .normal, k, H, T => ∃ j, I j ∧ μ j < μ i ∧ Le M k H T kL (Hh j) (Th j)
  | e, k, H, T => Q e k H T

section
variable {P : Program} {n : Nat} {w0 : World} {M : Mod} {k : Nat} {H : AH} {T : AT} {Q : AQ}
theorem Gol.skip (h : Q .normal k H T) : Gol P n w0 M .skip k H T Q := fun a w hs => wp_skip ⟨k, H, T, hs, h⟩
theorem Gol.exit {id : Nat} (h : Q (.exit id) k H T) : Gol P n w0 M (.exit id) k H T Q := fun a w hs => wp_exit ⟨k, H, T, hs, h⟩
theorem Gol.ret (h : Q .ret k H T) : Gol P n w0 M .ret k H T Q := fun a w hs => wp_ret ⟨k, H, T, hs, h⟩
theorem Gol.seq {x y : Code} (h : Gol P n w0 M x k H T (thn P n w0 M y Q)) : Gol P n w0 M (.seq x y) k H T Q := fun a w hs =>
  wp_seq (wp_mono (h a w hs) fun e a' w' ⟨k', H', T', hs', hq⟩ => by
    cases e with
    | normal => exact hq a' w' hs'
    | _ => exact ⟨k', H', T', hs', hq⟩)
theorem Gol.cond {c : Operand} {x y : Code} {t : Bool} (hc : ev T c = some (.v (.bool t))) (ht : t = true → Gol P n w0 M x k H T Q) (hf : t = false → Gol P n w0 M y k H T Q) : Gol P n w0 M (.cond c x y) k H T Q := fun a w hs => by
  obtain ⟨E, e1, e2, e3, e4, e5, e6⟩ := hs
  have hv := (e4.ev hc).v_inv
  exact wp_cond_split hv (fun h => ht h a w ⟨E, e1, e2, e3, e4, e5, e6⟩) (fun h => hf h a w ⟨E, e1, e2, e3, e4, e5, e6⟩)
theorem Gol.block {id : Nat} {c : Code} (h : Gol P n w0 M c k H T (inBlk id Q)) : Gol P n w0 M (.block id c) k H T Q := fun a w hs =>
  wp_block (wp_mono (h a w hs) fun e a' w' ⟨k', H', T', hs', hq⟩ => by
    cases e with
    | exit i =>
      simp only [inBlk] at hq
      simp only [Exit.inBlock]
      split
      · rename_i hi; rw [if_pos hi] at hq; exact ⟨k', H', T', hs', hq⟩
      · rename_i hi; rw [if_neg hi] at hq; exact ⟨k', H', T', hs', hq⟩
    | _ => exact ⟨k', H', T', hs', hq⟩)
theorem Gol.le {k' : Nat} {H' : AH} {T' : AT} {c : Code} (h : Le M k H T k' H' T') (g : Gol P n w0 M c k' H' T' Q) : Gol P n w0 M c k H T Q := fun a w hs => g a w (h n w0 a w hs)
theorem Gol.mono {c : Code} {Q' : AQ} (h : Gol P n w0 M c k H T Q) (hq : ∀ e k H T, Q e k H T → Q' e k H T) : Gol P n w0 M c k H T Q' := fun a w hs => wp_mono (h a w hs) fun e a' w' ⟨k', H', T', hs', h'⟩ => ⟨k', H', T', hs', hq _ _ _ _ h'⟩

theorem wp_loop_ix {ι : Type} {c : Code} {a : Act} {w : World} {R : Exit → Act → World → Prop} (I : ι → Act → World → Prop) (μ : ι → Nat) (i0 : ι) (h₀ : I i0 a w)
    (round : ∀ i a w, I i a w → c.wp P (Exit.then (fun a' w' => ∃ j, I j a' w' ∧ μ j < μ i) R) a w) : (Code.loop c).wp P R a w := by
  intro b k cs
  have key : ∀ n i a w, μ i = n → I i a w → ∃ e a' w', R e a' w' ∧ Arrives P (lone (b.at a (.code c :: .inLoop c :: k)) cs w) b k cs e a' w' := by
    intro n
    induction n using Nat.strongRecOn with
    | _ n ih =>
      intro i a w hn hI
      obtain ⟨e, a₁, w₁, hq, harr⟩ := round i a w hI b (.inLoop c :: k) cs
      cases e with
      | normal =>
        obtain ⟨j, hI₁, hlt⟩ := hq
        obtain ⟨e₂, a₂, w₂, hq₂, harr₂⟩ := ih (μ j) (hn ▸ hlt) j a₁ w₁ rfl hI₁
        exact ⟨e₂, a₂, w₂, hq₂, .of_steps (Steps.trans harr (.one step_inLoop)) harr₂⟩
      | exit id => exact ⟨_, a₁, w₁, hq, .pass (x := .inLoop c) rfl (fun _ _ => .inl (by simp)) harr⟩
      | goto l => exact ⟨_, a₁, w₁, hq, .pass (x := .inLoop c) rfl (fun _ _ => .inl (by simp)) harr⟩
      | ret => exact ⟨_, a₁, w₁, hq, .pass (x := .inLoop c) rfl (fun _ _ => .inl (by simp)) harr⟩
      | panic ch => exact ⟨_, a₁, w₁, hq, .pass (x := .inLoop c) rfl (fun _ _ => .inl (by simp)) harr⟩
      | outgrown => exact ⟨_, a₁, w₁, hq, .pass (x := .inLoop c) rfl (fun _ _ => .inl (by simp)) harr⟩
  obtain ⟨e, a', w', hq, harr⟩ := key _ i0 a w rfl h₀
  exact ⟨e, a', w', hq, .of_steps (.one step_loop) harr⟩
theorem Gol.loop {ι : Type} {c : Code} (I : ι → Prop) (μ : ι → Nat) (kL : Nat) (Hh : ι → AH) (Th : ι → AT) (i0 : ι) (h0 : I i0) (start : Le M k H T kL (Hh i0) (Th i0))
    (round : ∀ i, I i → Gol P n w0 M c kL (Hh i) (Th i) (rnd M I μ kL Hh Th i Q)) : Gol P n w0 M (.loop c) k H T Q := fun a w hs =>
  wp_loop_ix (fun i a w => I i ∧ St n w0 M kL (Hh i) (Th i) a w) μ i0 ⟨h0, start n w0 a w hs⟩ fun i a w ⟨hI, hs⟩ =>
    wp_mono (round i hI a w hs) fun e a' w' ⟨k', H', T', hs', hq⟩ => by
      cases e with
      | normal => obtain ⟨j, hj, hlt, hle⟩ := hq; exact ⟨j, ⟨hj, hle n w0 a' w' hs'⟩, hlt⟩
      | _ => exact ⟨k', H', T', hs', hq⟩

theorem thn_n {c : Code} (h : Gol P n w0 M c k H T Q) : thn P n w0 M c Q .normal k H T := h
theorem thn_x {c : Code} {i : Nat} (h : Q (.exit i) k H T) : thn P n w0 M c Q (.exit i) k H T := h
theorem thn_r {c : Code} (h : Q .ret k H T) : thn P n w0 M c Q .ret k H T := h
theorem inBlk_n {id : Nat} (h : Q .normal k H T) : inBlk id Q .normal k H T := h
theorem inBlk_r {id : Nat} (h : Q .ret k H T) : inBlk id Q .ret k H T := h
theorem inBlk_hit {id : Nat} (h : Q .normal k H T) : inBlk id Q (.exit id) k H T := by simp only [inBlk, if_true]; exact h
section
variable {ι : Type} {I : ι → Prop} {μ : ι → Nat} {kL : Nat} {Hh : ι → AH} {Th : ι → AT} {i : ι}
theorem rnd_x {j : Nat} (h : Q (.exit j) k H T) : rnd M I μ kL Hh Th i Q (.exit j) k H T := h
theorem rnd_r (h : Q .ret k H T) : rnd M I μ kL Hh Th i Q .ret k H T := h
theorem rnd_n (j : ι) (hj : I j) (hm : μ j < μ i) (hl : Le M k H T kL (Hh j) (Th j)) : rnd M I μ kL Hh Th i Q .normal k H T := ⟨j, hj, hm, hl⟩
end
theorem Gol.cond_t {c : Operand} {x y : Code} {t : Bool} (hc : ev T c = some (.v (.bool t))) (ht : t = true) (h : Gol P n w0 M x k H T Q) : Gol P n w0 M (.cond c x y) k H T Q := Gol.cond hc (fun _ => h) (fun h => by rw [ht] at h; cases h)
theorem Gol.cond_f {c : Operand} {x y : Code} {t : Bool} (hc : ev T c = some (.v (.bool t))) (ht : t = false) (h : Gol P n w0 M y k H T Q) : Gol P n w0 M (.cond c x y) k H T Q := Gol.cond hc (fun h => by rw [ht] at h; cases h) (fun _ => h)

def dstOf (ops : List Oper) (j : Nat) : Option Tmp := (ops[j]?).bind (·.dst)
def gvl (x : Value) (want : Bool) : Bool := match x with
  | .bool b => b == want
  | _ => false
def Wnt (ops : List Oper) (T : AT) (o : Oper) (r : Bool) : Prop := match o.guard with
  | none => r = true
  | some (j, want) => ∃ t x, dstOf ops j = some t ∧ lk T t = some (.v x) ∧ gvl x want = r
theorem wnt_n {ops : List Oper} {T : AT} {o : Oper} (h : o.guard = none) : Wnt ops T o true := by unfold Wnt; rw [h]
theorem wnt_g {ops : List Oper} {T : AT} {o : Oper} {r want b : Bool} {j : Nat} {t : Tmp} (hg : o.guard = some (j, want)) (hd : dstOf ops j = some t) (hl : lk T t = some (.v (.bool b))) (h : (b == want) = r) : Wnt ops T o r := by
  unfold Wnt; rw [hg]; exact ⟨t, .bool b, hd, hl, h⟩
theorem wnt_u {ops : List Oper} {T : AT} {o : Oper} {want : Bool} {j : Nat} {t : Tmp} (hg : o.guard = some (j, want)) (hd : dstOf ops j = some t) (hl : lk T t = some (.v undef)) : Wnt ops T o false := by
  unfold Wnt; rw [hg]; exact ⟨t, undef, hd, hl, rfl⟩
structure Stp where
  U : List Nat
  v : AV
  Hn : AH
  W : List (Nat × Option ABlk × Nat)
inductive Trc (P : Program) (ops : List Oper) : Nat → List Oper → AH → AT → List Stp → AH → AT → Nat → Prop
  | done (k : Nat) (H : AH) (T : AT) : Trc P ops k [] H T [] H T k
  | step {k k' kE : Nat} {o : Oper} {rest : List Oper} {H : AH} {T : AT} {d : Tmp} {U : List Nat} {v : AV} {Hn : AH} {tr : List Stp} {H' : AH} {T' : AT} (hk : k' = k + 8) (hd : o.dst = some d) (hg : Wnt ops T o true) (hs : StepU P o k U H T v Hn)
      (h : Trc P ops k' rest (Hn ++ H) ((d, v) :: T) tr H' T' kE) : Trc P ops k (o :: rest) H T (⟨U, v, Hn, []⟩ :: tr) H' T' kE
  | stepN {k k' kE : Nat} {o : Oper} {rest : List Oper} {H : AH} {T : AT} {U : List Nat} {v : AV} {Hn : AH} {tr : List Stp} {H' : AH} {T' : AT} (hk : k' = k + 8) (hd : o.dst = none) (hg : Wnt ops T o true) (hs : StepU P o k U H T v Hn)
      (h : Trc P ops k' rest (Hn ++ H) T tr H' T' kE) : Trc P ops k (o :: rest) H T (⟨U, v, Hn, []⟩ :: tr) H' T' kE
  | skip {k k' kE : Nat} {o : Oper} {rest : List Oper} {H : AH} {T : AT} {d : Tmp} {tr : List Stp} {H' : AH} {T' : AT} (hk : k' = k + 8) (hd : o.dst = some d) (hg : Wnt ops T o false)
      (h : Trc P ops k' rest H ((d, .v undef) :: T) tr H' T' kE) : Trc P ops k (o :: rest) H T (⟨[], .v undef, [], []⟩ :: tr) H' T' kE
  | skipN {k k' kE : Nat} {o : Oper} {rest : List Oper} {H : AH} {T : AT} {tr : List Stp} {H' : AH} {T' : AT} (hk : k' = k + 8) (hd : o.dst = none) (hg : Wnt ops T o false)
      (h : Trc P ops k' rest H T tr H' T' kE) : Trc P ops k (o :: rest) H T (⟨[], .v undef, [], []⟩ :: tr) H' T' kE
  | soft {k k' kE : Nat} {o : Oper} {rest : List Oper} {H : AH} {T : AT} {d : Tmp} {U : List Nat} {v : AV} {tr : List Stp} {H' : AH} {T' : AT} (b : Nat) (y : Option ABlk) (j : Nat) (hk : k' = k + 8) (hd : o.dst = some d) (hg : Wnt ops T o true) (hs : StepU P o k U H T v []) (hs2 : StepU P o k U ((b, y) :: H) T v [])
      (h : Trc P ops k' rest H ((d, v) :: T) tr H' T' kE) : Trc P ops k (o :: rest) H T (⟨U, v, [], [(b, y, j)]⟩ :: tr) H' T' kE
inductive Trb (P : Program) (ops : List Oper) : Nat → List Oper → AH → AT → List Stp → AH → AT → Nat → Prop
  | done (k : Nat) (H : AH) (T : AT) : Trb P ops k [] H T [] H T k
  | step {k k' kE : Nat} {o : Oper} {rest : List Oper} {H : AH} {T : AT} {U : List Nat} {v : AV} {Hn : AH} {tr : List Stp} {H' : AH} {T' : AT} (hk : k' + 1 = k + 9) (hg : Wnt ops T o true) (hs : StepU P o k U H T v Hn)
      (h : Trb P ops k' rest (Hn ++ H) (putT T o.dst v) tr H' T' kE) : Trb P ops k (o :: rest) H T (⟨U, v, Hn, []⟩ :: tr) H' T' kE
  | soft {k k' kE : Nat} {o : Oper} {rest : List Oper} {H : AH} {T : AT} {U : List Nat} {v : AV} {tr : List Stp} {H' : AH} {T' : AT} {b : Nat} {y : Option ABlk} {j : Nat} (hk : k' + 1 = k + 9) (hg : Wnt ops T o true) (hs : StepU P o k U H T v []) (hs2 : StepU P o k U ((b, y) :: H) T v [])
      (h : Trb P ops k' rest H (putT T o.dst v) tr H' T' kE) : Trb P ops k (o :: rest) H T (⟨U, v, [], [(b, y, j)]⟩ :: tr) H' T' kE
  | skip {k k' kE : Nat} {o : Oper} {rest : List Oper} {H : AH} {T : AT} {tr : List Stp} {H' : AH} {T' : AT} (hk : k' + 1 = k + 9) (hg : Wnt ops T o false)
      (h : Trb P ops k' rest H (putT T o.dst (.v undef)) tr H' T' kE) : Trb P ops k (o :: rest) H T (⟨[], .v undef, [], []⟩ :: tr) H' T' kE
theorem Trc.b {ops rest : List Oper} {tr : List Stp} {H' : AH} {T' : AT} {kE : Nat} (h : Trc P ops k rest H T tr H' T' kE) : Trb P ops k rest H T tr H' T' kE := by
  induction h with
  | done k H T => exact .done k H T
  | step hk hd hg hs _ ih => exact .step (congrArg (· + 1) hk) hg hs (by rw [hd]; exact ih)
  | stepN hk hd hg hs _ ih => exact .step (congrArg (· + 1) hk) hg hs (by rw [hd]; exact ih)
  | soft b y j hk hd hg hs hs2 _ ih => exact .soft (congrArg (· + 1) hk) hg hs hs2 (by rw [hd]; exact ih)
  | skip hk hd hg _ ih => exact .skip (congrArg (· + 1) hk) hg (by rw [hd]; exact ih)
  | skipN hk hd hg _ ih => exact .skip (congrArg (· + 1) hk) hg (by rw [hd]; exact ih)
def dstsOk (n : Nat) (ops : List Oper) : Bool := ops.all fun o => match o.dst with | some d => Nat.blt d n | none => true
theorem St.put {v : AV} {x : Value} {a : Act} {E : Env} {d : Option Tmp} {kE : Nat} (h2 : Sta w0 M H E) (h3 : ∀ b, E.D b → b < kE) (h4 : TR E T a) (h5 : a.tmps.size = n) (h6 : a.defers = []) (hx : RV E v x) (hd : ∀ t, d = some t → t < n) :
    St n w0 M kE H (putT T d v) (a.put d x) E.w := by
  refine ⟨E, rfl, h2, h3, ?_, ?_, ?_⟩
  · cases d with
    | none => exact h4
    | some t => exact h4.put (by rw [h5]; exact hd t rfl) hx
  · cases d <;> simp [Act.put, h5]
  · cases d <;> exact h6
theorem wanted_of {ops : List Oper} {o : Oper} {r : Bool} {E : Env} {a : Act} (hg : Wnt ops T o r) (hT : ∀ t, t ∈ o.looksAt ops.toArray → ∀ u, lk T t = some u → ∃ x, a.tmps[t]? = some x ∧ RV E u x) :
    Region.wanted o (yielded ops.toArray a.tmps) = r := by
  unfold Wnt at hg
  unfold Region.wanted
  split at hg
  · rename_i h; rw [h, hg]
  · rename_i j want h
    obtain ⟨t, b, h1, h2, h3⟩ := hg
    have hd : (ops.toArray[j]?).bind (·.dst) = some t := by simpa [dstOf] using h1
    obtain ⟨x, hx, hr⟩ := hT t (by simp only [Oper.looksAt, h, hd, Option.toList_some, List.mem_append, List.mem_singleton, or_true]) _ h2
    have := hr.v_inv
    subst this
    simp only [h, yielded, hd, Option.bind_some, hx]
    rw [← h3]
    cases x <;> rfl
theorem Trb.seq {ops rest : List Oper} {tr : List Stp} {H' : AH} {T' : AT} {kE : Nat} (h : Trb P ops k rest H T tr H' T' kE) (hd : dstsOk n ops = true) :
    ∀ (i : Nat) (a : Act) (w : World), ops.drop i = rest → St n w0 M k H T a w → Q .normal kE H' T' → wpOps P ops.toArray (lif n w0 M Q) (List.range' i rest.length) a w := by
  induction h with
  | done k H T => intro i a w _ hs hq; exact ⟨k, H, T, hs, hq⟩
  | @step k k' kE o rest H T U v Hn tr H' T' hk hg hs _ ih =>
    intro i a w he ⟨E, e1, e2, e3, e4, e5, e6⟩ hq
    have ho : ops[i]? = some o := by have := congrArg (fun l => l[0]?) he; simpa using this
    have hr : ops.drop (i + 1) = rest := by rw [← List.drop_drop, he]; rfl
    have hdd : ∀ t, o.dst = some t → t < n := fun t ht => by
      have := List.all_eq_true.1 hd o (List.mem_of_getElem? ho)
      rw [ht] at this
      simpa [Nat.blt_eq] using this
    have hw : Region.wanted o (yielded ops.toArray a.tmps) = true := wanted_of hg (fun t _ u hu => e4 t u hu)
    simp only [List.length_cons, List.range'_succ, wpOps, List.getElem?_toArray, ho, hw, if_true]
    subst e1
    refine .inl (hs.run w0 M H E a e2 (fun _ _ => rfl) (fun b hb1 hb2 hD => by have := e3 b hD; omega) (fun x _ u hu => e4.ev hu) _ _ fun x E' h1 h2 h3 h4 => ?_)
    exact ih (i + 1) _ _ hr (St.put h1 (fun b hb => by rcases h3 b hb with h | h; have := e3 b h; omega; omega) (e4.mono h2) e5 e6 h4 hdd) hq
  | @soft k k' kE o rest H T U v tr H' T' b0 y0 j0 hk hg hs hs2 _ ih =>
    intro i a w he ⟨E, e1, e2, e3, e4, e5, e6⟩ hq
    have ho : ops[i]? = some o := by have := congrArg (fun l => l[0]?) he; simpa using this
    have hr : ops.drop (i + 1) = rest := by rw [← List.drop_drop, he]; rfl
    have hdd : ∀ t, o.dst = some t → t < n := fun t ht => by
      have := List.all_eq_true.1 hd o (List.mem_of_getElem? ho)
      rw [ht] at this
      simpa [Nat.blt_eq] using this
    have hw : Region.wanted o (yielded ops.toArray a.tmps) = true := wanted_of hg (fun t _ u hu => e4 t u hu)
    simp only [List.length_cons, List.range'_succ, wpOps, List.getElem?_toArray, ho, hw, if_true]
    subst e1
    refine .inl (hs.run w0 M H E a e2 (fun _ _ => rfl) (fun b hb1 hb2 hD => by have := e3 b hD; omega) (fun x _ u hu => e4.ev hu) _ _ fun x E' h1 h2 h3 h4 => ?_)
    exact ih (i + 1) _ _ hr (St.put h1 (fun b hb => by rcases h3 b hb with h | h; have := e3 b h; omega; omega) (e4.mono h2) e5 e6 h4 hdd) hq
  | @skip k k' kE o rest H T tr H' T' hk hg _ ih =>
    intro i a w he ⟨E, e1, e2, e3, e4, e5, e6⟩ hq
    have ho : ops[i]? = some o := by have := congrArg (fun l => l[0]?) he; simpa using this
    have hr : ops.drop (i + 1) = rest := by rw [← List.drop_drop, he]; rfl
    have hdd : ∀ t, o.dst = some t → t < n := fun t ht => by
      have := List.all_eq_true.1 hd o (List.mem_of_getElem? ho)
      rw [ht] at this
      simpa [Nat.blt_eq] using this
    have hw : Region.wanted o (yielded ops.toArray a.tmps) = false := wanted_of hg (fun t _ u hu => e4 t u hu)
    simp only [List.length_cons, List.range'_succ, wpOps, List.getElem?_toArray, ho, hw, Bool.false_eq_true, if_false]
    subst e1
    exact ih (i + 1) _ _ hr (St.put e2 (fun b hb => by have := e3 b hb; omega) e4 e5 e6 (.v undef) hdd) hq
theorem Gol.region {id : Nat} {ops : List Oper} {tr : List Stp} {H' : AH} {T' : AT} {kE : Nat} (h : Trc P ops k ops H T tr H' T' kE) (hd : dstsOk n ops = true) (hq : Q .normal kE H' T') : Gol P n w0 M (.region id ops.toArray false) k H T Q := fun a w hs =>
  wp_region (by
    have := h.b.seq (w0 := w0) (M := M) (Q := Q) hd 0 a w rfl hs hq
    simpa [List.range_eq_range'] using this)
end
end Go.Proofs.YtneeclacmhhblaaGreat


namespace Go.Proofs.YtneeclacmhhblaaGreat
open Go.RowKit
section
variable {P : Program} {ops rest : List Oper} {k kE : Nat} {d : Tmp} {i : Go.Op} {ty : TypeId} {ps : String} {af : Array Edge} {gd : Option (Nat × Bool)} {H H' Hn : AH} {T T' : AT} {U : List Nat} {v : AV} {tr : List Stp} {b : Nat × Option ABlk}
theorem t0 (hs : StepU P ⟨some d, i, ty, ps, af, none⟩ k U H T v []) (h : Trc P ops (k + 8) rest H ((d, v) :: T) tr H' T' kE) : Trc P ops k (⟨some d, i, ty, ps, af, none⟩ :: rest) H T (⟨U, v, [], []⟩ :: tr) H' T' kE := .step rfl rfl (wnt_n rfl) hs h
theorem t1 (hs : StepU P ⟨some d, i, ty, ps, af, none⟩ k U H T v [b]) (h : Trc P ops (k + 8) rest (b :: H) ((d, v) :: T) tr H' T' kE) : Trc P ops k (⟨some d, i, ty, ps, af, none⟩ :: rest) H T (⟨U, v, [b], []⟩ :: tr) H' T' kE := .step rfl rfl (wnt_n rfl) hs h
theorem tq (hs : StepU P ⟨some d, i, ty, ps, af, none⟩ k U H T v Hn) (h : Trc P ops (k + 8) rest (Hn ++ H) ((d, v) :: T) tr H' T' kE) : Trc P ops k (⟨some d, i, ty, ps, af, none⟩ :: rest) H T (⟨U, v, Hn, []⟩ :: tr) H' T' kE := .step rfl rfl (wnt_n rfl) hs h
theorem n0 (hs : StepU P ⟨none, i, ty, ps, af, none⟩ k U H T v []) (h : Trc P ops (k + 8) rest H T tr H' T' kE) : Trc P ops k (⟨none, i, ty, ps, af, none⟩ :: rest) H T (⟨U, v, [], []⟩ :: tr) H' T' kE := .stepN rfl rfl (wnt_n rfl) hs h
theorem n1 (hs : StepU P ⟨none, i, ty, ps, af, none⟩ k U H T v [b]) (h : Trc P ops (k + 8) rest (b :: H) T tr H' T' kE) : Trc P ops k (⟨none, i, ty, ps, af, none⟩ :: rest) H T (⟨U, v, [b], []⟩ :: tr) H' T' kE := .stepN rfl rfl (wnt_n rfl) hs h
theorem nq (hs : StepU P ⟨none, i, ty, ps, af, none⟩ k U H T v Hn) (h : Trc P ops (k + 8) rest (Hn ++ H) T tr H' T' kE) : Trc P ops k (⟨none, i, ty, ps, af, none⟩ :: rest) H T (⟨U, v, Hn, []⟩ :: tr) H' T' kE := .stepN rfl rfl (wnt_n rfl) hs h
theorem g0 (hg : Wnt ops T ⟨some d, i, ty, ps, af, gd⟩ true) (hs : StepU P ⟨some d, i, ty, ps, af, gd⟩ k U H T v []) (h : Trc P ops (k + 8) rest H ((d, v) :: T) tr H' T' kE) : Trc P ops k (⟨some d, i, ty, ps, af, gd⟩ :: rest) H T (⟨U, v, [], []⟩ :: tr) H' T' kE := .step rfl rfl hg hs h
theorem g1 (hg : Wnt ops T ⟨some d, i, ty, ps, af, gd⟩ true) (hs : StepU P ⟨some d, i, ty, ps, af, gd⟩ k U H T v [b]) (h : Trc P ops (k + 8) rest (b :: H) ((d, v) :: T) tr H' T' kE) : Trc P ops k (⟨some d, i, ty, ps, af, gd⟩ :: rest) H T (⟨U, v, [b], []⟩ :: tr) H' T' kE := .step rfl rfl hg hs h
theorem gq (hg : Wnt ops T ⟨some d, i, ty, ps, af, gd⟩ true) (hs : StepU P ⟨some d, i, ty, ps, af, gd⟩ k U H T v Hn) (h : Trc P ops (k + 8) rest (Hn ++ H) ((d, v) :: T) tr H' T' kE) : Trc P ops k (⟨some d, i, ty, ps, af, gd⟩ :: rest) H T (⟨U, v, Hn, []⟩ :: tr) H' T' kE := .step rfl rfl hg hs h
theorem sk (hg : Wnt ops T ⟨some d, i, ty, ps, af, gd⟩ false) (h : Trc P ops (k + 8) rest H ((d, .v undef) :: T) tr H' T' kE) : Trc P ops k (⟨some d, i, ty, ps, af, gd⟩ :: rest) H T (⟨[], .v undef, [], []⟩ :: tr) H' T' kE := .skip rfl rfl hg h
theorem of {t : TypeId} {x : Operand} {f off b o : Nat} [hf : FI P t f off] (hx : ev T x = some (.pt b o)) (h : Trc P ops (k + 8) rest H ((d, .pt b (o + off)) :: T) tr H' T' kE) : Trc P ops k (⟨some d, .fieldAddr t x f, ty, ps, af, none⟩ :: rest) H T (⟨[], .pt b (o + off), [], []⟩ :: tr) H' T' kE := t0 (sF hx) h
theorem dn : Trc P ops k [] H T [] H T k := .done _ _ _
end
def gv (ops : List Oper) (T : AT) (j : Nat) : Option AV := (dstOf ops j).bind (lk T)
theorem gv_g {P : Program} {ops : List Oper} {T : AT} {d : Option Tmp} {i : Go.Op} {ty : TypeId} {ps : String} {af : Array Edge} {j : Nat} {want r b : Bool} (hl : gv ops T j = some (.v (.bool b))) (h : (b == want) = r) : Wnt ops T ⟨d, i, ty, ps, af, some (j, want)⟩ r := by
  unfold gv at hl
  cases hd : dstOf ops j with
  | none => rw [hd] at hl; cases hl
  | some t => rw [hd] at hl; exact wnt_g rfl hd hl h
section
variable {P : Program} {ops rest : List Oper} {k kE : Nat} {d : Tmp} {i : Go.Op} {ty : TypeId} {ps : String} {af : Array Edge} {j : Nat} {want c : Bool} {H H' Hn : AH} {T T' : AT} {U : List Nat} {v : AV} {tr : List Stp} {b : Nat × Option ABlk}
theorem h0 (hl : gv ops T j = some (.v (.bool c))) (e : (c == want) = true) (hs : StepU P ⟨some d, i, ty, ps, af, some (j, want)⟩ k U H T v []) (h : Trc P ops (k + 8) rest H ((d, v) :: T) tr H' T' kE) : Trc P ops k (⟨some d, i, ty, ps, af, some (j, want)⟩ :: rest) H T (⟨U, v, [], []⟩ :: tr) H' T' kE := g0 (gv_g (P := P) hl e) hs h
theorem h1 (hl : gv ops T j = some (.v (.bool c))) (e : (c == want) = true) (hs : StepU P ⟨some d, i, ty, ps, af, some (j, want)⟩ k U H T v [b]) (h : Trc P ops (k + 8) rest (b :: H) ((d, v) :: T) tr H' T' kE) : Trc P ops k (⟨some d, i, ty, ps, af, some (j, want)⟩ :: rest) H T (⟨U, v, [b], []⟩ :: tr) H' T' kE := g1 (gv_g (P := P) hl e) hs h
theorem hq (hl : gv ops T j = some (.v (.bool c))) (e : (c == want) = true) (hs : StepU P ⟨some d, i, ty, ps, af, some (j, want)⟩ k U H T v Hn) (h : Trc P ops (k + 8) rest (Hn ++ H) ((d, v) :: T) tr H' T' kE) : Trc P ops k (⟨some d, i, ty, ps, af, some (j, want)⟩ :: rest) H T (⟨U, v, Hn, []⟩ :: tr) H' T' kE := gq (gv_g (P := P) hl e) hs h
end
theorem Gol.sr {P : Program} {n : Nat} {w0 : World} {M : Mod} {id k kE : Nat} {ops : List Oper} {tr : List Stp} {y : Code} {H H' : AH} {T T' : AT} {Q : AQ} (h : Trc P ops k ops H T tr H' T' kE) (hd : dstsOk n ops = true) (hq : Gol P n w0 M y kE H' T' Q) : Gol P n w0 M (.seq (.region id ops.toArray false) y) k H T Q := .seq (.region h hd hq)
end Go.Proofs.YtneeclacmhhblaaGreat


namespace Go.Proofs.YtneeclacmhhblaaGreat
open Go.RowKit

def befs : List Oper → Array Nat → Array Nat
  | [], acc => acc
  | o :: os, acc => befs os (acc.push (o.after.toList.foldl (fun s e => if Region.binds .any e then s ||| 2 ^ e.on ||| acc.getD e.on 0 else s) 0))
def Down (ops : List Oper) (S : Nat → Prop) : Prop := ∀ i o e, ops[i]? = some o → e ∈ o.after → Region.binds .any e = true → S i → S e.on
theorem befs_fold {ops : List Oper} {S : Nat → Prop} {acc : Array Nat} {i j : Nat} (hacc : ∀ i j, (acc.getD i 0).testBit j = true → S i → S j) :
    ∀ (l : List Edge) (s : Nat), (∀ e ∈ l, Region.binds .any e = true → S i → S e.on) → (s.testBit j = true → S i → S j) →
      (l.foldl (fun s e => if Region.binds .any e then s ||| 2 ^ e.on ||| acc.getD e.on 0 else s) s).testBit j = true → S i → S j
  | [], s, _, hs, h, hi => hs h hi
  | e :: l, s, hl, hs, h, hi => by
    refine befs_fold (ops := ops) hacc l _ (fun e' he' => hl e' (by simp [he'])) ?_ h hi
    intro hb hi
    dsimp only at hb
    split at hb
    · rename_i hbe
      simp only [Nat.testBit_or, Bool.or_eq_true, Nat.testBit_two_pow, decide_eq_true_eq] at hb
      rcases hb with (hb | hb) | hb
      · exact hs hb hi
      · rw [← hb]; exact hl e (by simp) hbe hi
      · exact hacc _ _ hb (hl e (by simp) hbe hi)
    · exact hs hb hi
theorem befs_down {ops : List Oper} {S : Nat → Prop} (hS : Down ops S) : ∀ (rest : List Oper) (acc : Array Nat), ops.drop acc.size = rest → (∀ i j, (acc.getD i 0).testBit j = true → S i → S j) →
    ∀ i j, ((befs rest acc).getD i 0).testBit j = true → S i → S j
  | [], acc, _, h => h
  | o :: os, acc, he, h => by
    have ho : ops[acc.size]? = some o := by have := congrArg (fun l => l[0]?) he; simpa using this
    have hr : ops.drop (acc.size + 1) = os := by rw [← List.drop_drop, he]; rfl
    refine befs_down hS os _ (by simpa using hr) ?_
    intro i j hb hi
    by_cases hlt : i < acc.size
    · exact h i j (by simpa [Array.getElem?_push, Nat.ne_of_lt hlt] using hb) hi
    · by_cases he' : i = acc.size
      · subst he'
        refine befs_fold (ops := ops) h o.after.toList 0 (fun e he hb hi => hS _ o e ho (by simpa using he) hb hi) (fun h => by simp at h) ?_ hi
        simpa using hb
      · have : (acc.push (o.after.toList.foldl (fun s e => if Region.binds .any e then s ||| 2 ^ e.on ||| acc.getD e.on 0 else s) 0)).getD i 0 = 0 := by
          rw [Array.getD_eq_getD_getElem?, Array.getElem?_eq_none (by simp; omega)]; rfl
        rw [this] at hb
        simp at hb
def ordB (B : Array Nat) (i j : Nat) : Bool := (B.getD i 0).testBit j || (B.getD j 0).testBit i
def softp (s : Stp) (j : Nat) : Bool := s.W.any fun w => Nat.beq w.2.2 j
def pairOk (ops : List Oper) (B : Array Nat) (i j : Nat) (o p : Oper) (s r : Stp) : Bool :=
  ordB B i j ||
  (
 (match p.dst with | some d => !(o.looksAt ops.toArray).contains d && o.dst != some d | none => true) &&
 (match o.dst with | some d => !(p.looksAt ops.toArray).contains d | none => true) &&
 ((s.U ++ s.Hn.map (·.1)).all (fun b => !(r.Hn.map (·.1)).contains b) || softp s j) && ((r.U ++ r.Hn.map (·.1)).all (fun b => !(s.Hn.map (·.1)).contains b) || softp r i))
def okRegS (k0 : Nat) (ops : List Oper) (tr : List Stp) : Bool :=
  let B := befs ops #[]
  let l := (ops.zip tr).zipIdx
  (l.all fun x => x.1.1.after.all fun e => !Region.binds .any e || Nat.blt e.on x.2) &&
  (l.all fun x => l.all fun y => Nat.beq x.2 y.2 || pairOk ops B x.2 y.2 x.1.1 y.1.1 x.1.2 y.1.2) &&
  (l.all fun x => Nat.ble x.1.2.W.length 1 && x.1.2.W.all fun w => Nat.blt x.2 w.2.2)
def okReg (k0 : Nat) (ops : List Oper) (tr : List Stp) : Bool := okRegS k0 ops tr && tr.all fun s => s.W.isEmpty

section
variable {α : Type}
def gk : List (Nat × α) → Nat → Option α
  | [], _ => none
  | (j, v) :: l, i => if j = i then some v else gk l i
def gsum : (Nat → Bool) → List (List (Nat × α)) → List (Nat × α) → List (Nat × α)
  | _, [], B => B
  | L, u :: us, B => gsum (fun j => L (j + 1)) us (if L 0 = true then u ++ B else B)
theorem gk_app (u B : List (Nat × α)) (b : Nat) : gk (u ++ B) b = match gk u b with | some x => some x | none => gk B b := by
  induction u with
  | nil => rfl
  | cons p u ih =>
    obtain ⟨j, v⟩ := p
    simp only [List.cons_append, gk]
    split
    · rfl
    · exact ih
theorem gk_none {u : List (Nat × α)} {b : Nat} : gk u b = none ↔ b ∉ u.map (·.1) := by
  induction u with
  | nil => simp [gk]
  | cons p u ih =>
    obtain ⟨j, v⟩ := p
    simp only [gk, List.map_cons, List.mem_cons, not_or]
    split
    · rename_i e; subst e; simp
    · rename_i e; rw [ih]; exact ⟨fun h => ⟨fun e' => e e'.symm, h⟩, fun h => h.2⟩
theorem gsum_false (us : List (List (Nat × α))) (B : List (Nat × α)) : gsum (fun _ => false) us B = B := by
  induction us generalizing B with
  | nil => rfl
  | cons u us ih => simp only [gsum, Bool.false_eq_true, if_false]; exact ih B
theorem gsum_same {L L' : Nat → Bool} {us : List (List (Nat × α))} {B : List (Nat × α)} (h : ∀ j, j < us.length → L j = L' j) : gsum L us B = gsum L' us B := by
  induction us generalizing L L' B with
  | nil => rfl
  | cons u us ih =>
    simp only [gsum]
    rw [h 0 (by simp)]
    exact ih (fun j hj => h (j + 1) (by simpa using hj))
theorem gsum_congr {b : Nat} {L L' : Nat → Bool} {us : List (List (Nat × α))} {B B' : List (Nat × α)} (h : ∀ (j : Nat) u, us[j]? = some u → gk u b ≠ none → L j = L' j) (hB : gk B b = gk B' b) : gk (gsum L us B) b = gk (gsum L' us B') b := by
  induction us generalizing L L' B B' with
  | nil => exact hB
  | cons u us ih =>
    simp only [gsum]
    refine ih (fun j r hr hn => h (j + 1) r (by simpa using hr) hn) ?_
    by_cases hu : gk u b = none
    · have e : ∀ (c : Bool) (X : List (Nat × α)), gk (if c = true then u ++ X else X) b = gk X b := fun c X => by
        split
        · rw [gk_app, hu]
        · rfl
      rw [e, e]; exact hB
    · rw [h 0 u rfl hu]
      split
      · rw [gk_app, gk_app]; split
        · rfl
        · exact hB
      · exact hB
theorem gsum_last {b i : Nat} {x : α} {L : Nat → Bool} {us : List (List (Nat × α))} {B u : List (Nat × α)} (hi : us[i]? = some u) (hL : L i = true) (hx : gk u b = some x) (hl : ∀ (j : Nat) r, i < j → us[j]? = some r → L j = true → gk r b = none) :
    gk (gsum L us B) b = some x := by
  induction us generalizing L B i with
  | nil => simp at hi
  | cons r us ih =>
    simp only [gsum]
    cases i with
    | zero =>
      simp at hi
      subst hi
      rw [hL, if_pos rfl, gsum_congr (L' := fun _ => false) (B' := r ++ B) (fun j q hq hn => ?_) rfl, gsum_false, gk_app, hx]
      cases hLj : L (j + 1) with
      | false => rfl
      | true => exact absurd (hl (j + 1) q (by omega) (by simpa using hq) hLj) hn
    | succ i => exact ih (L := fun j => L (j + 1)) (by simpa using hi) hL (fun j q hj hq hLj => hl (j + 1) q (by omega) (by simpa using hq) hLj)
end
theorem hk_gk (H : AH) (b : Nat) : hk H b = (gk H b).join := by
  induction H with
  | nil => rfl
  | cons p H ih =>
    obtain ⟨j, v⟩ := p
    rw [hk_cons, gk]
    split
    · rfl
    · exact ih
theorem lk_gk (T : AT) (b : Nat) : lk T b = gk T b := by
  induction T with
  | nil => rfl
  | cons p H ih =>
    obtain ⟨j, v⟩ := p
    rw [lk_cons, gk]
    split
    · rfl
    · exact ih
def tl (d : Option Tmp) (v : AV) : AT := match d with | some d => [(d, v)] | none => []
theorem putT_tl (T : AT) (d : Option Tmp) (v : AV) : putT T d v = tl d v ++ T := by cases d <;> rfl
def ut : List Oper → List Stp → List AT
  | o :: os, s :: tr => tl o.dst s.v :: ut os tr
  | _, _ => []
theorem ut_get {ops : List Oper} {tr : List Stp} {i : Nat} {o : Oper} {s : Stp} (ho : ops[i]? = some o) (hs : tr[i]? = some s) : (ut ops tr)[i]? = some (tl o.dst s.v) := by
  induction ops generalizing tr i with
  | nil => simp at ho
  | cons p ops ih =>
    cases tr with
    | nil => simp at hs
    | cons r tr =>
      cases i with
      | zero => simp at ho hs; subst ho hs; rfl
      | succ i => simp only [ut, List.getElem?_cons_succ]; exact ih (by simpa using ho) (by simpa using hs)
theorem ut_length {ops : List Oper} {tr : List Stp} (h : tr.length = ops.length) : (ut ops tr).length = ops.length := by
  induction ops generalizing tr with
  | nil => cases tr <;> simp_all [ut]
  | cons p ops ih =>
    cases tr with
    | nil => simp at h
    | cons r tr => simp only [ut, List.length_cons]; rw [ih (by simpa using h)]

section
variable {P : Program}
def Inf (P : Program) (ops : List Oper) (k i : Nat) (o : Oper) (s : Stp) (Hi : AH) (Ti : AT) : Prop :=
  (Wnt ops Ti o true ∧ StepU P o (k + 8 * i) s.U Hi Ti s.v s.Hn ∧ ∀ w ∈ s.W, s.Hn = [] ∧ StepU P o (k + 8 * i) s.U ((w.1, w.2.1) :: Hi) Ti s.v []) ∨ (Wnt ops Ti o false ∧ s = ⟨[], .v undef, [], []⟩)
theorem Trb.info {ops rest : List Oper} {k kE : Nat} {H H' : AH} {T T' : AT} {tr : List Stp} (h : Trb P ops k rest H T tr H' T' kE) :
    tr.length = rest.length ∧ kE = k + 8 * rest.length ∧ H' = gsum (fun _ => true) (tr.map (·.Hn)) H ∧ T' = gsum (fun _ => true) (ut rest tr) T ∧
      ∀ (i : Nat) o s, rest[i]? = some o → tr[i]? = some s → Inf P ops k i o s (gsum (fun j => decide (j < i)) (tr.map (·.Hn)) H) (gsum (fun j => decide (j < i)) (ut rest tr) T) := by
  induction h with
  | done k H T => exact ⟨rfl, rfl, rfl, rfl, fun i o s ho => by simp at ho⟩
  | @step k k' kE o rest H T U v Hn tr H' T' hk hg hs _ ih =>
    obtain ⟨h1, h2, h3, h4, h5⟩ := ih
    have hk' : k' = k + 8 := by omega
    subst hk'
    refine ⟨by simp [h1], by simp only [List.length_cons]; omega, by simp only [List.map_cons, gsum, if_true]; exact h3, by simp only [ut, gsum, if_true, ← putT_tl]; exact h4, fun i p s hp hs' => ?_⟩
    cases i with
    | zero =>
      simp at hp hs'
      subst hp hs'
      have e : (fun j => decide (j < 0)) = fun _ : Nat => false := by funext j; simp
      rw [e, gsum_false, gsum_false]
      exact .inl ⟨hg, by simpa using hs, fun w hw => by cases hw⟩
    | succ i =>
      have := h5 i p s (by simpa using hp) (by simpa using hs')
      have e : (fun j => decide (j + 1 < i + 1)) = fun j : Nat => decide (j < i) := by funext j; simp
      simp only [List.map_cons, ut, gsum, Nat.zero_lt_succ, decide_true, if_true, e, ← putT_tl]
      have e2 : k + 8 + 8 * i = k + 8 * (i + 1) := by omega
      unfold Inf at this ⊢
      rw [e2] at this
      exact this
  | @soft k k' kE o rest H T U v tr H' T' b0 y0 j0 hk hg hs hs2 _ ih =>
    obtain ⟨h1, h2, h3, h4, h5⟩ := ih
    have hk' : k' = k + 8 := by omega
    subst hk'
    refine ⟨by simp [h1], by simp only [List.length_cons]; omega, by simp only [List.map_cons, gsum, if_true, List.nil_append]; exact h3, by simp only [ut, gsum, if_true, ← putT_tl]; exact h4, fun i p s hp hs' => ?_⟩
    cases i with
    | zero =>
      simp at hp hs'
      subst hp hs'
      have e : (fun j => decide (j < 0)) = fun _ : Nat => false := by funext j; simp
      rw [e, gsum_false, gsum_false]
      exact .inl ⟨hg, by simpa using hs, fun w hw => by simp at hw; subst hw; exact ⟨rfl, by simpa using hs2⟩⟩
    | succ i =>
      have := h5 i p s (by simpa using hp) (by simpa using hs')
      have e : (fun j => decide (j + 1 < i + 1)) = fun j : Nat => decide (j < i) := by funext j; simp
      simp only [List.map_cons, ut, gsum, Nat.zero_lt_succ, decide_true, if_true, e, ← putT_tl, List.nil_append]
      have e2 : k + 8 + 8 * i = k + 8 * (i + 1) := by omega
      unfold Inf at this ⊢
      rw [e2] at this
      exact this
  | @skip k k' kE o rest H T tr H' T' hk hg _ ih =>
    obtain ⟨h1, h2, h3, h4, h5⟩ := ih
    have hk' : k' = k + 8 := by omega
    subst hk'
    refine ⟨by simp [h1], by simp only [List.length_cons]; omega, by simp only [List.map_cons, gsum, if_true, List.nil_append]; exact h3, by simp only [ut, gsum, if_true, ← putT_tl]; exact h4, fun i p s hp hs' => ?_⟩
    cases i with
    | zero =>
      simp at hp hs'
      subst hp hs'
      have e : (fun j => decide (j < 0)) = fun _ : Nat => false := by funext j; simp
      rw [e, gsum_false, gsum_false]
      exact .inr ⟨hg, rfl⟩
    | succ i =>
      have := h5 i p s (by simpa using hp) (by simpa using hs')
      have e : (fun j => decide (j + 1 < i + 1)) = fun j : Nat => decide (j < i) := by funext j; simp
      simp only [List.map_cons, ut, gsum, Nat.zero_lt_succ, decide_true, if_true, e, ← putT_tl, List.nil_append]
      have e2 : k + 8 + 8 * i = k + 8 * (i + 1) := by omega
      unfold Inf at this ⊢
      rw [e2] at this
      exact this
theorem okReg_pair {k0 : Nat} {ops : List Oper} {tr : List Stp} (h : okRegS k0 ops tr = true) {i j : Nat} {o p : Oper} {s r : Stp} (ho : ops[i]? = some o) (hs : tr[i]? = some s) (hp : ops[j]? = some p) (hr : tr[j]? = some r) (hne : i ≠ j) :
    pairOk ops (befs ops #[]) i j o p s r = true ∧ (∀ e ∈ o.after, Region.binds .any e = true → e.on < i) ∧ s.W.length ≤ 1 ∧ ∀ w ∈ s.W, i < w.2.2 := by
  simp only [okRegS, Bool.and_eq_true] at h
  obtain ⟨⟨h1, h2⟩, h3⟩ := h
  have mem : ∀ (i : Nat) (o : Oper) (s : Stp), ops[i]? = some o → tr[i]? = some s → ((o, s), i) ∈ (ops.zip tr).zipIdx := fun i o s ho hs => by
    rw [List.mem_zipIdx_iff_getElem?]
    simp [List.getElem?_zip_eq_some, ho, hs]
  have a1 := List.all_eq_true.1 (List.all_eq_true.1 h2 _ (mem i o s ho hs)) _ (mem j p r hp hr)
  have a2 := List.all_eq_true.1 h1 _ (mem i o s ho hs)
  simp only [Bool.or_eq_true] at a1
  refine ⟨a1.resolve_left (fun e => hne (Nat.eq_of_beq_eq_true e)), fun e he hb => ?_, ?_⟩
  · have := Array.all_eq_true_iff_forall_mem.1 a2 e he
    simp only [hb, Bool.not_true, Bool.false_or] at this
    simpa [Nat.blt_eq] using this
  have a3 := List.all_eq_true.1 h3 _ (mem i o s ho hs)
  simp only [Bool.and_eq_true] at a3
  exact ⟨Nat.le_of_ble_eq_true a3.1, fun w hw => by simpa [Nat.blt_eq] using List.all_eq_true.1 a3.2 w hw⟩
end
end Go.Proofs.YtneeclacmhhblaaGreat


namespace Go.Proofs.YtneeclacmhhblaaGreat
open Go.RowKit

section
variable {P : Program} {n : Nat} {w0 : World} {M : Mod} {Q : AQ}
def lst (listed : Array Bool) (i : Nat) : Bool := listed.getD i false
theorem lst_set {listed : Array Bool} {i : Nat} (hi : i < listed.size) (j : Nat) : lst (listed.setIfInBounds i true) j = if j = i then true else lst listed j := by
  unfold lst
  by_cases h : j = i
  · subst h; simp [hi]
  · rw [if_neg h, getD_set_ne false (Ne.symm h)]

def StL (n : Nat) (w0 : World) (M : Mod) (k0 : Nat) (ops : List Oper) (tr : List Stp) (H0 : AH) (T0 : AT) (listed : Array Bool) (a : Act) (w : World) : Prop :=
  ∃ E : Env, E.w = w ∧ Sta w0 M (gsum (lst listed) (tr.map (·.Hn)) H0) E ∧ (∀ b, E.D b → b < k0 ∨ ∃ i, lst listed i = true ∧ i < ops.length ∧ k0 + 8 * i ≤ b ∧ b < k0 + 8 * i + 8) ∧
    TR E (gsum (lst listed) (ut ops tr) T0) a ∧ a.tmps.size = n ∧ a.defers = []

theorem ord_lst {ops : List Oper} {tr : List Stp} {listed : Array Bool} (hback : ∀ (i : Nat) o e, ops[i]? = some o → e ∈ o.after → Region.binds .any e = true → e.on < i) (hdn : Down ops (fun i => lst listed i = true)) {i : Nat} {o : Oper} (ho : ops[i]? = some o) (hi : lst listed i = false)
    (hrdy : ∀ e ∈ o.after, Region.binds .any e = true → lst listed e.on = true) {j : Nat} (hne : j ≠ i) (h : ordB (befs ops #[]) i j = true) : lst listed j = decide (j < i) := by
  have base : ∀ (S : Nat → Prop), Down ops S → ∀ i j, ((befs ops #[]).getD i 0).testBit j = true → S i → S j := fun S hS => befs_down hS ops #[] rfl (fun i j h => by simp at h)
  simp only [ordB, Bool.or_eq_true] at h
  rcases h with h | h
  · have h1 : j ≤ i := base (fun x => x ≤ i) (fun x p e hp he hb hx => by have := hback x p e hp he hb; omega) i j h (Nat.le_refl _)
    have h2 : lst listed j = true ∨ j = i := base (fun x => lst listed x = true ∨ x = i) (fun x p e hp he hb hx => by
      rcases hx with hx | hx
      · exact .inl (hdn x p e hp he hb hx)
      · subst hx; rw [ho] at hp; injection hp with hp; subst hp; exact .inl (hrdy e he hb)) i j h (.inr rfl)
    rw [h2.resolve_right hne]
    simp; omega
  · have h1 : i ≤ j := base (fun x => x ≤ j) (fun x p e hp he hb hx => by have := hback x p e hp he hb; omega) j i h (Nat.le_refl _)
    cases hj : lst listed j with
    | true => rw [base _ hdn j i h hj] at hi; cases hi
    | false => simp; omega

theorem any_go {k0 kE : Nat} {ops : List Oper} {tr : List Stp} {H0 H' : AH} {T0 T' : AT} (hlen : tr.length = ops.length) (hkE : kE = k0 + 8 * ops.length) (hH' : H' = gsum (fun _ => true) (tr.map (·.Hn)) H0) (hT' : T' = gsum (fun _ => true) (ut ops tr) T0)
    (hinf : ∀ (i : Nat) o s, ops[i]? = some o → tr[i]? = some s → Inf P ops k0 i o s (gsum (fun j => decide (j < i)) (tr.map (·.Hn)) H0) (gsum (fun j => decide (j < i)) (ut ops tr) T0))
    (hok : okRegS k0 ops tr = true) (hsoft : ∀ (i : Nat) s w, tr[i]? = some s → w ∈ s.W → ∃ r, tr[w.2.2]? = some r ∧ r.Hn = [(w.1, w.2.1)]) (hback : ∀ (i : Nat) o e, ops[i]? = some o → e ∈ o.after → Region.binds .any e = true → e.on < i) (hd : dstsOk n ops = true) (hq : Q .normal kE H' T') :
    ∀ (fuel : Nat) (listed : Array Bool) (a : Act) (w : World), listed.size = ops.length → Down ops (fun i => lst listed i = true) → (List.range ops.length).countP (fun i => !lst listed i) ≤ fuel → StL n w0 M k0 ops tr H0 T0 listed a w →
      wpAny P .any ops.toArray (lif n w0 M Q) fuel listed a w := by
  have fin : ∀ (listed : Array Bool) (a : Act) (w : World), listed.size = ops.length → Region.ready .any ops.toArray listed = [] → StL n w0 M k0 ops tr H0 T0 listed a w → lif n w0 M Q .normal a w := by
    intro listed a w hsz hr ⟨E, e1, e2, e3, e4, e5, e6⟩
    have hall : ∀ i, i < ops.length → lst listed i = true := by
      intro i
      induction i using Nat.strongRecOn with
      | _ i ih =>
        intro hi
        cases hl : lst listed i with
        | true => rfl
        | false =>
          have : i ∈ Region.ready .any ops.toArray listed := by
            rw [mem_ready]
            refine ⟨?_, ops[i], by simp [List.getElem?_eq_getElem hi], fun e he hb => ?_⟩
            · have : i < listed.size := by omega
              simp [lst, this] at hl ⊢
              exact hl
            · have hlt := hback i _ e (List.getElem?_eq_getElem hi) he hb
              exact ih e.on hlt (by omega)
          rw [hr] at this
          cases this
    have s1 : gsum (lst listed) (tr.map (·.Hn)) H0 = H' := by rw [hH']; exact gsum_same (fun j hj => hall j (by simpa [hlen] using hj))
    have s2 : gsum (lst listed) (ut ops tr) T0 = T' := by rw [hT']; exact gsum_same (fun j hj => hall j (by rw [ut_length hlen] at hj; exact hj))
    rw [s1] at e2
    rw [s2] at e4
    exact ⟨kE, H', T', ⟨E, e1, e2, fun b hb => by rcases e3 b hb with h | ⟨i, _, hi, _, h⟩ <;> omega, e4, e5, e6⟩, hq⟩
  intro fuel
  induction fuel with
  | zero =>
    intro listed a w hsz hdn hcnt hst
    have hr : Region.ready .any ops.toArray listed = [] := by
      cases hr : Region.ready .any ops.toArray listed with
      | nil => rfl
      | cons i l =>
        have hi : i ∈ Region.ready .any ops.toArray listed := by rw [hr]; simp
        rw [mem_ready] at hi
        obtain ⟨hl, o, ho, _⟩ := hi
        have hlt : i < ops.length := by have := (Array.getElem?_eq_some_iff.1 ho).1; simpa using this
        have hz : (List.range ops.length).countP (fun i => !lst listed i) = 0 := by omega
        have := List.countP_eq_zero.1 hz i (by simpa using hlt)
        have hs : i < listed.size := by omega
        simp [lst, hs] at this hl
        rw [hl] at this; simp at this
    exact ⟨hr, fin listed a w hsz hr hst⟩
  | succ fuel ih =>
    intro listed a w hsz hdn hcnt hst
    refine ⟨fun hr => fin listed a w hsz hr hst, fun i hi => ?_⟩
    rw [mem_ready] at hi
    obtain ⟨hl, o, ho', hrdy⟩ := hi
    have ho : ops[i]? = some o := by simpa using ho'
    have hlt : i < ops.length := (List.getElem?_eq_some_iff.1 ho).1
    have hil : lst listed i = false := by
      have hs : i < listed.size := by omega
      simp [lst, hs] at hl ⊢
      exact hl
    have hts : tr[i]? = some tr[i] := List.getElem?_eq_getElem (by omega)
    generalize tr[i] = s at hts
    have hord : ∀ (j : Nat) p r, j ≠ i → ops[j]? = some p → tr[j]? = some r → lst listed j = decide (j < i) ∨ pairOk ops #[] i j o p s r = true := by
      intro j p r hne hp hr
      have h := (okReg_pair hok ho hts hp hr (Ne.symm hne)).1
      unfold pairOk at h
      rw [Bool.or_eq_true] at h
      rcases h with h | h
      · exact .inl (ord_lst (tr := tr) hback hdn ho hil hrdy hne h)
      · exact .inr (by unfold pairOk; rw [Bool.or_eq_true]; exact .inr h)
    have hij : lst listed i = decide (i < i) := by simp [hil]
    obtain ⟨E, e1, e2, e3, e4, e5, e6⟩ := hst
    subst e1
    have getTr : ∀ (j : Nat) u, (tr.map (·.Hn))[j]? = some u → ∃ p r, ops[j]? = some p ∧ tr[j]? = some r ∧ u = r.Hn := fun j u hu => by
      rw [List.getElem?_map] at hu
      cases hr : tr[j]? with
      | none => rw [hr] at hu; cases hu
      | some r =>
        rw [hr] at hu; simp at hu
        have hj : j < ops.length := by have := (List.getElem?_eq_some_iff.1 hr).1; omega
        exact ⟨ops[j], r, List.getElem?_eq_getElem hj, rfl, hu.symm⟩
    have getUt : ∀ (j : Nat) u, (ut ops tr)[j]? = some u → ∃ p r, ops[j]? = some p ∧ tr[j]? = some r ∧ u = tl p.dst r.v := fun j u hu => by
      have hj : j < ops.length := by have := (List.getElem?_eq_some_iff.1 hu).1; rw [ut_length hlen] at this; exact this
      have hj2 : tr[j]? = some tr[j] := List.getElem?_eq_getElem (by omega)
      have := ut_get (List.getElem?_eq_getElem hj) hj2
      rw [this] at hu
      injection hu with hu
      exact ⟨ops[j], tr[j], List.getElem?_eq_getElem hj, hj2, hu.symm⟩
    -- what the step needs is as in the text's order
    have hT : ∀ t, t ∈ o.looksAt ops.toArray → lk (gsum (fun j => decide (j < i)) (ut ops tr) T0) t = lk (gsum (lst listed) (ut ops tr) T0) t := by
      intro t ht
      rw [lk_gk, lk_gk]
      refine gsum_congr (fun j u hu hn => ?_) rfl
      obtain ⟨p, r, hp, hr, rfl⟩ := getUt j u hu
      by_cases hji : j = i
      · subst hji; exact hij.symm
      · rcases hord j p r hji hp hr with h | h
        · exact h.symm
        · simp only [pairOk, ordB, Bool.or_eq_true, Bool.and_eq_true] at h
          cases hd : p.dst with
          | none => rw [hd] at hn; exact absurd rfl hn
          | some d =>
            rw [hd] at h hn
            simp only [tl, gk, ne_eq, ite_eq_right_iff, reduceCtorEq, imp_false, Classical.not_not] at hn
            subst hn
            rcases h with h | h
            · simp at h
            · have := h.1.1.1
              simp [ht] at this
    have hWn : ∀ w ∈ s.W, s.Hn = [] := by
      rcases hinf i o s ho hts with ⟨_, _, h⟩ | ⟨_, rfl⟩
      · exact fun w hw => (h w hw).1
      · exact fun w hw => by cases hw
    have hsp : ∀ j, softp s j = true → ∃ w ∈ s.W, w.2.2 = j := fun j h => by
      obtain ⟨w, hw, e⟩ := List.any_eq_true.1 h
      exact ⟨w, hw, Nat.eq_of_beq_eq_true e⟩
    have hWi : s.W.length ≤ 1 ∧ ∀ w ∈ s.W, i < w.2.2 := by
      by_cases h1 : ∃ j, j ≠ i ∧ j < ops.length
      · obtain ⟨j, hj, hjl⟩ := h1
        exact (okReg_pair hok ho hts (List.getElem?_eq_getElem hjl) (List.getElem?_eq_getElem (show j < tr.length by omega)) (Ne.symm hj)).2.2
      · have h2 : s.W = [] := by
          cases hw : s.W with
          | nil => rfl
          | cons w ws =>
            obtain ⟨r, h3, h4⟩ := hsoft i s w hts (by rw [hw]; simp)
            have h5 : w.2.2 < ops.length := by have := (List.getElem?_eq_some_iff.1 h3).1; omega
            have h6 : w.2.2 = i := Classical.byContradiction fun e => h1 ⟨_, e, h5⟩
            rw [h6, hts] at h3
            injection h3 with h3
            subst h3
            have := hWn w (by rw [hw]; simp)
            rw [this] at h4; cases h4
        rw [h2]; exact ⟨Nat.zero_le _, fun w hw => by cases hw⟩
    -- a step that may find things changed
    have hU2 : ∀ w ∈ s.W, lst listed w.2.2 = true → ∀ b ∈ s.U, hk (gsum (lst listed) (tr.map (·.Hn)) H0) b = hk ((w.1, w.2.1) :: gsum (fun j => decide (j < i)) (tr.map (·.Hn)) H0) b := by
      intro w hw hlw b hb
      obtain ⟨r, hr1, hr2⟩ := hsoft i s w hts hw
      have hiw := hWi.2 w hw
      have hone : ∀ j, softp s j = true → j = w.2.2 := fun j h => by
        obtain ⟨w', hw', e⟩ := hsp j h
        have : w' = w := by
          cases hW : s.W with
          | nil => rw [hW] at hw; cases hw
          | cons x xs =>
            have hl := hWi.1
            rw [hW] at hw hw' hl
            have : xs = [] := List.eq_nil_of_length_eq_zero (by simp at hl; exact hl ▸ rfl)
            subst this
            simp at hw hw'
            rw [hw, hw']
        rw [← e, this]
      rw [hk_cons]
      split
      · rename_i hwb
        rw [hk_gk]
        have hgk : gk r.Hn b = some w.2.1 := by rw [hr2]; simp [gk, hwb]
        rw [gsum_last (i := w.2.2) (u := r.Hn) (by rw [List.getElem?_map, hr1]; rfl) hlw hgk fun j u hj hu hlj => ?_]
        · rfl
        · obtain ⟨p, r', hp, hr', rfl⟩ := getTr j u hu
          have hji : j ≠ i := by omega
          rcases hord j p r' hji hp hr' with h | h
          · rw [hlj] at h; simp at h; omega
          · simp only [pairOk, ordB, Bool.or_eq_true, Bool.and_eq_true] at h
            rcases h with h | h
            · simp at h
            · rcases h.1.2 with h5 | h5
              · have := List.all_eq_true.1 h5 b (by simp [hb])
                rw [gk_none]
                simpa using this
              · have := hone j h5; omega
      · rename_i hwb
        rw [hk_gk, hk_gk]
        congr 1
        refine gsum_congr (fun j u hu hn => ?_) rfl
        obtain ⟨p, r', hp, hr', rfl⟩ := getTr j u hu
        by_cases hji : j = i
        · subst hji; exact hij
        · rcases hord j p r' hji hp hr' with h | h
          · exact h
          · simp only [pairOk, ordB, Bool.or_eq_true, Bool.and_eq_true] at h
            rcases h with h | h
            · simp at h
            · rcases h.1.2 with h5 | h5
              · have := List.all_eq_true.1 h5 b (by simp [hb])
                rw [ne_eq, gk_none, Classical.not_not] at hn
                simp only [Bool.not_eq_true', List.contains_eq_mem, decide_eq_false_iff_not] at this
                exact absurd hn this
              · have := hone j h5
                subst this
                rw [hr1] at hr'
                injection hr' with hr'
                subst hr'
                rw [hr2] at hn
                simp [gk, hwb] at hn
    have hU : (¬ ∃ w ∈ s.W, lst listed w.2.2 = true) → ∀ b ∈ s.U, hk (gsum (lst listed) (tr.map (·.Hn)) H0) b = hk (gsum (fun j => decide (j < i)) (tr.map (·.Hn)) H0) b := by
      intro hnw b hb
      rw [hk_gk, hk_gk]
      congr 1
      refine gsum_congr (fun j u hu hn => ?_) rfl
      obtain ⟨p, r, hp, hr, rfl⟩ := getTr j u hu
      by_cases hji : j = i
      · subst hji; exact hij
      · rcases hord j p r hji hp hr with h | h
        · exact h
        · simp only [pairOk, ordB, Bool.or_eq_true, Bool.and_eq_true] at h
          rcases h with h | h
          · simp at h
          · rcases h.1.2 with h5 | h5
            · have := List.all_eq_true.1 h5 b (by simp [hb])
              rw [ne_eq, gk_none, Classical.not_not] at hn
              simp only [Bool.not_eq_true', List.contains_eq_mem, decide_eq_false_iff_not] at this
              exact absurd hn this
            · obtain ⟨w, hw, e⟩ := hsp j h5
              have h6 := hWi.2 w hw
              have h7 : lst listed j = false := by
                cases hl2 : lst listed j with
                | false => rfl
                | true => exact absurd ⟨w, hw, by rw [e]; exact hl2⟩ hnw
              rw [h7]; simp; omega
    -- what is so behind the step
    have next : ∀ (x : Value) (E' : Env), Sta w0 M (s.Hn ++ gsum (lst listed) (tr.map (·.Hn)) H0) E' → E.le E' → (∀ b, E'.D b → E.D b ∨ (k0 + 8 * i ≤ b ∧ b < k0 + 8 * i + 8)) → RV E' s.v x →
        wpAny P .any ops.toArray (lif n w0 M Q) fuel (listed.setIfInBounds i true) (a.put o.dst x) E'.w := by
      intro x E' hs' hle hD' hx
      have hset := lst_set (listed := listed) (i := i) (by omega)
      have hlater : ∀ (j : Nat) p r, i < j → ops[j]? = some p → tr[j]? = some r → lst (listed.setIfInBounds i true) j = true → pairOk ops #[] i j o p s r = true := by
        intro j p r hj hp hr hlj
        rw [hset, if_neg (by omega)] at hlj
        rcases hord j p r (by omega) hp hr with h | h
        · rw [hlj] at h; simp at h; omega
        · exact h
      refine ih _ _ _ (by simpa using hsz) ?_ ?_ ⟨E', rfl, hs'.congr fun b => ?_, ?_, ?_, ?_, ?_⟩
      · intro j p e hp he hb hj
        show lst _ e.on = true
        have hj' : lst (listed.setIfInBounds i true) j = true := hj
        rw [hset] at hj' ⊢
        split
        · rfl
        · split at hj'
          · rename_i h; subst h; rw [ho] at hp; injection hp with hp; subst hp; exact hrdy e he hb
          · exact hdn j p e hp he hb hj'
      · have hlt2 : (List.range ops.length).countP (fun j => !lst (listed.setIfInBounds i true) j) < (List.range ops.length).countP (fun j => !lst listed j) := by
          have hmem : i ∈ List.range ops.length := by simpa using hlt
          obtain ⟨l1, l2, he⟩ := List.append_of_mem hmem
          have nd : (List.range ops.length).Nodup := List.nodup_range
          rw [he] at nd ⊢
          have hni : ∀ j ∈ l1 ++ l2, j ≠ i := by
            intro j hj e
            subst e
            rw [List.nodup_append] at nd
            simp only [List.nodup_cons, List.mem_cons] at nd
            rcases List.mem_append.1 hj with h | h
            · exact nd.2.2 j h j (.inl rfl) rfl
            · exact nd.2.1.1 h
          have ceq : ∀ l : List Nat, (∀ j ∈ l, j ≠ i) → l.countP (fun j => !lst (listed.setIfInBounds i true) j) = l.countP (fun j => !lst listed j) := fun l hl => List.countP_congr fun j hj => by rw [hset, if_neg (hl j hj)]
          simp only [List.countP_append, List.countP_cons]
          rw [ceq l1 (fun j hj => hni j (by simp [hj])), ceq l2 (fun j hj => hni j (by simp [hj])), hset, if_pos rfl, hil]
          simp
        omega
      · rw [hk_gk, hk_gk]
        congr 1
        rw [gk_app]
        cases hg : gk s.Hn b with
        | some y =>
          refine gsum_last (i := i) (u := s.Hn) (by rw [List.getElem?_map, hts]; rfl) (by rw [hset, if_pos rfl]) hg fun j r hj hr hlj => ?_
          obtain ⟨p, r', hp, hr', rfl⟩ := getTr j r hr
          have h := hlater j p r' hj hp hr' hlj
          simp only [pairOk, ordB, Bool.or_eq_true, Bool.and_eq_true] at h
          rcases h with h | h
          · simp at h
          · have hbm : b ∈ s.Hn.map (·.1) := by
              cases hm : decide (b ∈ s.Hn.map (·.1)) with
              | true => exact of_decide_eq_true hm
              | false => rw [gk_none.2 (of_decide_eq_false hm)] at hg; cases hg
            rcases h.1.2 with h5 | h5
            · have := List.all_eq_true.1 h5 b (List.mem_append_right _ hbm)
              rw [gk_none]
              simpa using this
            · obtain ⟨w, hw, _⟩ := hsp j h5
              rw [hWn w hw] at hbm; cases hbm
        | none =>
          refine gsum_congr (fun j u hu hn => ?_) rfl
          rw [hset]
          split
          · rename_i h; subst h
            rw [List.getElem?_map, hts] at hu; simp at hu; subst hu
            exact absurd hg hn
          · rfl
      · intro b hb
        rcases hD' b hb with h | h
        · rcases e3 b h with h | ⟨j, h1, h2⟩
          · exact .inl h
          · refine .inr ⟨j, ?_, h2⟩
            rw [hset]; split
            · rfl
            · exact h1
        · exact .inr ⟨i, by rw [hset, if_pos rfl], hlt, h⟩
      · have hdd : ∀ t, o.dst = some t → t < n := fun t ht => by
          have := List.all_eq_true.1 hd o (List.mem_of_getElem? ho)
          rw [ht] at this
          simpa [Nat.blt_eq] using this
        have hput : TR E' (tl o.dst s.v ++ gsum (lst listed) (ut ops tr) T0) (a.put o.dst x) := by
          have h4 := e4.mono hle
          cases hdst : o.dst with
          | none => exact h4
          | some t => exact h4.put (by rw [e5]; exact hdd t hdst) hx
        intro t u hu
        refine hput t u ?_
        rw [← hu, lk_gk, lk_gk, gk_app]
        cases hg : gk (tl o.dst s.v) t with
        | some y =>
          refine (gsum_last (i := i) (u := tl o.dst s.v) (ut_get ho hts) (by rw [hset, if_pos rfl]) hg fun j r hj hr hlj => ?_).symm
          obtain ⟨p, r', hp, hr', rfl⟩ := getUt j r hr
          have h := hlater j p r' hj hp hr' hlj
          simp only [pairOk, ordB, Bool.or_eq_true, Bool.and_eq_true] at h
          rcases h with h | h
          · simp at h
          · cases hp2 : p.dst with
            | none => rfl
            | some d =>
              cases ho2 : o.dst with
              | none => rw [ho2] at hg; cases hg
              | some d' =>
                rw [hp2, ho2] at h
                rw [ho2] at hg
                simp only [tl, gk] at hg ⊢
                split at hg
                · rename_i e; subst e
                  have h3 := h.1.1.1
                  rw [if_neg]
                  intro e; subst e; simp at h3
                · cases hg
        | none =>
          refine (gsum_congr (fun j u' hu' hn => ?_) rfl).symm
          rw [hset]
          split
          · rename_i h; subst h
            rw [ut_get ho hts] at hu'; injection hu' with hu'; subst hu'
            exact absurd hg hn
          · rfl
      · cases o.dst <;> simp [Act.put, e5]
      · cases o.dst <;> exact e6
    unfold wpOp
    rw [ho']
    simp only []
    rcases hinf i o s ho hts with ⟨hg, hs, hsw⟩ | ⟨hg, rfl⟩
    · have hD0 : ∀ b, k0 + 8 * i ≤ b → b < k0 + 8 * i + 8 → ¬ E.D b := fun b h1 h2 hD => by
        rcases e3 b hD with h | ⟨j, hj, _, h3, h4⟩
        · omega
        · have : j = i := by omega
          subst this; rw [hil] at hj; cases hj
      have hTx : ∀ x ∈ o.op.operands, ∀ u, ev (gsum (fun j => decide (j < i)) (ut ops tr) T0) x = some u → RV E u (a.eval x) := fun x hx u hu => by
        cases x with
        | tmp t =>
          refine e4.ev (x := .tmp t) ?_
          show lk _ t = some u
          rw [← hT t (List.mem_append_left _ (List.mem_filterMap.2 ⟨.tmp t, by simpa using hx, rfl⟩))]
          exact hu
        | const c => exact e4.ev (x := .const c) hu
        | global g => exact e4.ev (x := .global g) hu
        | func f => exact e4.ev (x := .func f) hu
      have hw := wanted_of (E := E) (a := a) hg (fun t ht u hu => e4 t u (by rw [← hT t ht]; exact hu))
      rw [if_pos hw]
      by_cases hnw : ∃ w ∈ s.W, lst listed w.2.2 = true
      · obtain ⟨w, hw1, hw2⟩ := hnw
        obtain ⟨h8, h9⟩ := hsw w hw1
        rw [h8] at next
        exact .inl (h9.run w0 M _ E a e2 (hU2 w hw1 hw2) hD0 hTx _ _ fun x E' h1 h2 h3 h4 => next x E' h1 h2 h3 h4)
      · exact .inl (hs.run w0 M _ E a e2 (hU hnw) hD0 hTx _ _ fun x E' h1 h2 h3 h4 => next x E' h1 h2 h3 h4)
    · have hw := wanted_of (E := E) (a := a) hg (fun t ht u hu => e4 t u (by rw [← hT t ht]; exact hu))
      rw [if_neg (by rw [hw]; simp)]
      exact next undef E e2 (.refl E) (fun b hb => .inl hb) (.v _)

theorem Gol.anyS {k0 kE : Nat} {id : Nat} {ops : List Oper} {tr : List Stp} {H H' : AH} {T T' : AT} (hm : P.follows .mixedOrders = true) (h : Trc P ops k0 ops H T tr H' T' kE) (hok : okRegS k0 ops tr = true) (hsoft : ∀ (i : Nat) s w, tr[i]? = some s → w ∈ s.W → ∃ r, tr[w.2.2]? = some r ∧ r.Hn = [(w.1, w.2.1)]) (hd : dstsOk n ops = true) (hq : Q .normal kE H' T') :
    Gol P n w0 M (.region id ops.toArray true) k0 H T Q := fun a w ⟨E, e1, e2, e3, e4, e5, e6⟩ => by
  obtain ⟨h1, h2, h3, h4, h5⟩ := h.b.info
  subst e1
  have hback : ∀ (i : Nat) o e, ops[i]? = some o → e ∈ o.after → Region.binds .any e = true → e.on < i := by
    intro i o e ho he hb
    have hi : i < ops.length := (List.getElem?_eq_some_iff.1 ho).1
    have hs : tr[i]? = some tr[i] := List.getElem?_eq_getElem (by omega)
    have hok0 := hok
    simp only [okRegS, Bool.and_eq_true] at hok0
    have mem : ((o, tr[i]), i) ∈ (ops.zip tr).zipIdx := by
      rw [List.mem_zipIdx_iff_getElem?]
      simp [List.getElem?_zip_eq_some, ho]
    have a2 := List.all_eq_true.1 hok0.1.1 _ mem
    have := Array.all_eq_true_iff_forall_mem.1 a2 e he
    simp only [hb, Bool.not_true, Bool.false_or] at this
    simpa [Nat.blt_eq] using this
  refine wp_region_any hm ?_
  obtain ⟨t1, t2⟩ := e2.tick { E.w with drawn := E.w.drawn + 1 } rfl rfl rfl rfl
  have hl0 : ∀ i, lst (Array.replicate ops.length false) i = false := fun i => by
    unfold lst
    rw [Array.getD_eq_getD_getElem?, Array.getElem?_replicate]
    split <;> rfl
  have hf : lst (Array.replicate ops.length false) = fun _ => false := funext hl0
  have := any_go (w0 := w0) (M := M) (Q := Q) (n := n) h1 h2 h3 h4 h5 hok hsoft hback hd hq ops.length (Array.replicate ops.length false) a { E.w with drawn := E.w.drawn + 1 } (by simp)
    (fun i o e _ _ _ (hi : lst (Array.replicate ops.length false) i = true) => by rw [hl0] at hi; cases hi) (Nat.le_trans List.countP_le_length (by simp))
    ⟨{ E with w := { E.w with drawn := E.w.drawn + 1 } }, rfl, by rw [hf, gsum_false]; exact t1, fun b hb => .inl (e3 b hb), by rw [hf, gsum_false]; exact e4.mono t2, e5, e6⟩
  simpa using this
theorem Gol.any {k0 kE : Nat} {id : Nat} {ops : List Oper} {tr : List Stp} {H H' : AH} {T T' : AT} (hm : P.follows .mixedOrders = true) (h : Trc P ops k0 ops H T tr H' T' kE) (hok : okReg k0 ops tr = true) (hd : dstsOk n ops = true) (hq : Q .normal kE H' T') :
    Gol P n w0 M (.region id ops.toArray true) k0 H T Q := by
  simp only [okReg, Bool.and_eq_true] at hok
  refine Gol.anyS hm h hok.1 (fun i s w hs hw => ?_) hd hq
  have := List.all_eq_true.1 hok.2 s (List.mem_of_getElem? hs)
  rw [List.isEmpty_iff] at this
  rw [this] at hw; cases hw
end
end Go.Proofs.YtneeclacmhhblaaGreat


namespace Go.Proofs.YtneeclacmhhblaaGreat
open Go.RowKit

structure Env.sees (E E' : Env) : Prop where
  size : E.w.heap.size ≤ E'.w.heap.size
  keep : ∀ g, g < E.w.heap.size → ¬ E.S g → E'.w.heap[g]? = E.w.heap[g]?
  sub : ∀ g, g < E.w.heap.size → E'.S g → E.S g
class Clo (u : AV) : Prop where
  cl : ∀ (E E' : Env) (x : Value), E.sees E' → RV E u x → RV E' u x
class CloL (cs : List AV) : Prop where
  cl : ∀ c ∈ cs, Clo c
class OneL (cs : List AV) : Prop where
  one : cs.all AV.one = true
theorem CloL.rvs {cs : List AV} [h : CloL cs] {E E' : Env} {xs : List Value} (hE : E.sees E') (k : RVs E cs xs) : RVs E' cs xs :=
  ⟨k.1, fun j c x hc hx => (h.cl c (List.mem_of_getElem? hc)).cl E E' x hE (k.2 j c x hc hx)⟩
theorem CloL.all {cs : List AV} [h : CloL cs] {E E' : Env} (hE : E.sees E') {xs : List Value} (hl : xs.length = cs.length) (k : ∀ (j : Nat) c x, cs[j]? = some c → xs[j]? = some x → RV E c x) :
    ∀ (j : Nat) c x, cs[j]? = some c → xs[j]? = some x → RV E' c x := (CloL.rvs hE ⟨hl, k⟩).2
instance (x : Value) : Clo (.v x) := ⟨fun E E' y _ h => by rw [h.v_inv]; exact .v x⟩
instance (cs : List AV) [h : CloL cs] : Clo (.ag cs) := ⟨fun E E' y hE k => by
  cases k with | ag cs xs hl k => exact .ag cs xs hl (fun j c x hc hx => CloL.all (h := h) hE (xs := xs.toList) (by simpa using hl) (fun j c x hc hx => k j c x hc (by simpa using hx)) j c x hc (by simpa using hx))⟩
instance (cs : List AV) [h : CloL cs] : Clo (.tp cs) := ⟨fun E E' y hE k => by
  cases k with | tp cs xs hl k => exact .tp cs xs hl (fun j c x hc hx => CloL.all (h := h) hE (xs := xs.toList) (by simpa using hl) (fun j c x hc hx => k j c x hc (by simpa using hx)) j c x hc (by simpa using hx))⟩
instance (f : FuncId) (cs : List AV) [h : CloL cs] : Clo (.fn f cs) := ⟨fun E E' y hE k => by
  cases k with | fn f cs xs hl k => exact .fn f cs xs hl (fun j c x hc hx => CloL.all (h := h) hE (xs := xs.toList) (by simpa using hl) (fun j c x hc hx => k j c x hc (by simpa using hx)) j c x hc (by simpa using hx))⟩
theorem sees_cell {E E' : Env} (hE : E.sees E') {g o : Nat} {x : Value} (hg : g < E.w.heap.size) (hS : ¬ E.S g) (h : E.w.cell? ⟨g, o, none⟩ = some x) : E'.w.cell? ⟨g, o, none⟩ = some x := (World.cell?_of_block (hE.keep g hg hS)).trans h
instance (n : Nat) (f : Bool) (cs : List AV) [h : CloL cs] : Clo (.ex n f cs) := ⟨fun E E' y hE k => by
  cases k with
  | ex0 n f A c hn hf => exact .ex0 n f A c hn hf
  | ex n f cs g o c xs hn hf hg hS hl hx k => exact .ex n f cs g o c xs hn hf (Nat.lt_of_lt_of_le hg hE.size) (fun h' => hS (hE.sub g hg h')) hl (fun j x hj => sees_cell hE hg hS (hx j x hj)) (CloL.all (h := h) hE hl k)⟩
instance (cs : List AV) [h : CloL cs] : Clo (.ep cs) := ⟨fun E E' y hE k => by
  cases k with
  | ep cs g o xs hg hS hl hx k => exact .ep cs g o xs (Nat.lt_of_lt_of_le hg hE.size) (fun h' => hS (hE.sub g hg h')) hl (fun j x hj => sees_cell hE hg hS (hx j x hj)) (CloL.all (h := h) hE hl k)⟩
instance : CloL [] := ⟨fun c h => by cases h⟩
instance (c : AV) (cs : List AV) [h : Clo c] [k : CloL cs] : CloL (c :: cs) := ⟨fun d hd => by rcases List.mem_cons.1 hd with rfl | hd; exact h; exact k.cl d hd⟩
instance (a b : List AV) [h : CloL a] [k : CloL b] : CloL (a ++ b) := ⟨fun d hd => by rcases List.mem_append.1 hd with hd | hd; exact h.cl d hd; exact k.cl d hd⟩
instance (a : List AV) (n : Nat) [h : CloL a] : CloL (a.take n) := ⟨fun d hd => h.cl d (List.mem_of_mem_take hd)⟩
instance (a : List AV) (n : Nat) [h : CloL a] : CloL (a.drop n) := ⟨fun d hd => h.cl d (List.mem_of_mem_drop hd)⟩
instance (n : Nat) (u : AV) [h : Clo u] : CloL (List.replicate n u) := ⟨fun d hd => by rw [List.eq_of_mem_replicate hd]; exact h⟩
theorem CloL.vals (vs : List Value) : CloL (vs.map .v) := ⟨fun d hd => by obtain ⟨x, _, rfl⟩ := List.mem_map.1 hd; infer_instance⟩
instance (vs : List Value) : CloL (vs.map .v) := CloL.vals vs
instance (x : Value) : CloL (cu (.v x)) := CloL.vals _
instance (bs : List UInt8) : CloL (byA bs) := by rw [byA_vals]; infer_instance
instance (a : List AV) (n : Nat) (b : List AV) [CloL a] [CloL b] : CloL (spl a n b) := by unfold spl; infer_instance
instance : OneL [] := ⟨rfl⟩
instance (a b : List AV) [h : OneL a] [k : OneL b] : OneL (a ++ b) := ⟨by rw [List.all_append, h.one, k.one]; rfl⟩
instance (bs : List UInt8) : OneL (byA bs) := ⟨byA_ones bs⟩
instance (k : IntKind) (n : Int) (cs : List AV) [h : OneL cs] : OneL (.v (.int k n) :: cs) := ⟨by rw [List.all_cons, h.one]; rfl⟩
instance (a : List AV) (n : Nat) [h : OneL a] : OneL (a.take n) := ⟨List.all_eq_true.2 fun d hd => List.all_eq_true.1 h.one d (List.mem_of_mem_take hd)⟩
instance (a : List AV) (n : Nat) [h : OneL a] : OneL (a.drop n) := ⟨List.all_eq_true.2 fun d hd => List.all_eq_true.1 h.one d (List.mem_of_mem_drop hd)⟩

def Arg (H : AH) (u c : AV) (U : List Nat) : Prop := ∀ (w0 : World) (M : Mod) (Hr : AH) (E : Env) (x : Value), Sta w0 M Hr E → (∀ b ∈ U, hk Hr b = hk H b) → RV E u x → ∀ E0 : Env, E0.w = E.w → (∀ g, ¬ E0.S g) → RV E0 c x
theorem sees_free {E E0 : Env} (hw : E0.w = E.w) (hS : ∀ g, ¬ E0.S g) : E.sees E0 := ⟨by rw [hw]; exact Nat.le_refl _, fun g _ _ => by rw [hw], fun g _ h => absurd h (hS g)⟩
section
variable {H : AH}
theorem aL {u : AV} [h : Clo u] : Arg H u u [] := fun _ _ _ E x _ _ hx E0 hw hS => h.cl E E0 x (sees_free hw hS) hx
theorem arg_sl {b n : Nat} {blk : ABlk} (hb : hk H b = some blk) [h : CloL blk.cells] : Arg H (.sl b n) (.ex n false blk.cells) [b] := fun _ _ Hr E x hs hU hx E0 hw hS => by
  have hb' := (hU b (by simp)).trans hb
  cases hx with
  | sl b n hD hn hm =>
    cases eg : (E.L b).g with
    | none => rw [((hs.own b blk hb').2.2.none eg).1]; exact .ex0 _ _ _ _ hn (fun h => by cases h)
    | some g =>
      obtain ⟨xs, h1, h2⟩ := own_read hs hb' eg hm
      have h3 := CloL.rvs (h := h) (sees_free hw hS) h1
      exact .ex _ _ _ g 0 _ xs hn (fun h => by cases h) (by rw [hw]; exact hs.lt hb' eg) (hS g) h3.1 (fun j y hy => by rw [hw, Nat.zero_add]; exact h2 j y hy) h3.2
theorem arg_sb' {b o n m : Nat} {c : Option Nat} {f : Bool} {blk : ABlk} (hb : hk H b = some blk) [h : CloL blk.cells] (ho : o + m ≤ blk.cells.length) (hm : n = 0 → m = 0) (hf : f = true → c = some n) :
    Arg H (.sb b o n c) (.ex n f ((blk.cells.drop o).take m)) [b] := fun _ _ Hr E x hs hU hx E0 hw hS => by
  have hb' := (hU b (by simp)).trans hb
  cases hx with
  | sb b o n c A c' hD hA hn hc hm =>
    have hf' : f = true → c' = n := fun h => hc n (hf h)
    by_cases h0 : n = 0
    · subst h0; rw [hm rfl]; simp only [List.take_zero]; exact .ex0 _ _ _ _ hn hf'
    · obtain ⟨g, eg, rfl⟩ := hA h0
      obtain ⟨xs, h1, h2⟩ := own_read hs hb' eg hm
      have h3 := ((CloL.rvs (h := h) (sees_free hw hS) h1).drop o).take m
      refine .ex _ _ _ g o _ _ hn hf' (by rw [hw]; exact hs.lt hb' eg) (hS g) h3.1 (fun j y hy => ?_) h3.2
      rw [List.getElem?_take] at hy
      split at hy
      · rw [List.getElem?_drop] at hy; rw [hw]; exact h2 _ y hy
      · cases hy
theorem arg_sb {b o n m : Nat} {c : Option Nat} {blk : ABlk} (hb : hk H b = some blk) [h : CloL blk.cells] (ho : o + m ≤ blk.cells.length) (hm : n = 0 → m = 0) : Arg H (.sb b o n c) (.ex n false ((blk.cells.drop o).take m)) [b] :=
  arg_sb' hb ho hm (fun h => by cases h)
inductive ArgL (H : AH) : List AV → List AV → List Nat → Prop
  | nil : ArgL H [] [] []
  | cons {u c : AV} {us cs : List AV} {U V : List Nat} (h : Arg H u c U) (k : ArgL H us cs V) : ArgL H (u :: us) (c :: cs) (U ++ V)
theorem aC {H : AH} {u c : AV} {us cs : List AV} {U V : List Nat} (h : Arg H u c U) (k : ArgL H us cs V) : ArgL H (u :: us) (c :: cs) (U ++ V) := .cons h k
theorem aN {H : AH} : ArgL H [] [] [] := .nil
theorem ArgL.rvs {us cs : List AV} {U : List Nat} (h : ArgL H us cs U) {w0 : World} {M : Mod} {Hr : AH} {E : Env} (hs : Sta w0 M Hr E) (hU : ∀ b ∈ U, hk Hr b = hk H b) {xs : List Value} (hx : RVs E us xs) {E0 : Env} (hw : E0.w = E.w) (hS : ∀ g, ¬ E0.S g) : RVs E0 cs xs := by
  induction h generalizing xs with
  | nil => rw [hx.nil_inv]; exact RVs.nil E0
  | cons h k ih =>
    obtain ⟨x, ys, rfl, h1, h2⟩ := hx.cons_inv
    exact RVs.cons (h w0 M Hr E x hs (fun b hb => hU b (by simp [hb])) h1 E0 hw hS) (ih (fun b hb => hU b (by simp [hb])) h2)
end

def Fresh (P : Program) (f : FuncId) (args : List AV) (v : Nat → AV) (bs : List ABlk) : Prop :=
  ∀ (E0 : Env) (xs : List Value), (∀ g, ¬ E0.S g) → (∀ b, ¬ E0.D b) → RVs E0 args xs → Calls P f xs.toArray E0.w fun e w' => ∃ (x : Value) (ls : Nat → Loc), e = .returned x ∧ Below E0.w.heap.size E0.w w' ∧
    (∀ j g, j < bs.length → (ls j).g = some g → E0.w.heap.size ≤ g) ∧ (∀ i j g, i < bs.length → j < bs.length → (ls i).g = some g → (ls j).g = some g → i = j) ∧
    ∀ (k : Nat) (E' : Env), E'.w = w' → (∀ g, E'.S g → g < E0.w.heap.size ∨ ∃ j, j < bs.length ∧ (ls j).g = some g) → (∀ j, j < bs.length → E'.D (k + j) ∧ E'.L (k + j) = ls j) →
      (∀ j blk, bs[j]? = some blk → BOK E' (ls j) blk) ∧ RV E' (v k) x
class FnI (P : Program) (f : FuncId) : Prop where
  hc : ∀ args w, (callFunc f args).run P w = .ok (.enter f args) w
def nbk (k : Nat) : List ABlk → AH
  | [] => []
  | b :: bs => (k, some b) :: nbk (k + 1) bs
theorem hk_nbk (bs : List ABlk) : ∀ (k : Nat) (H : AH) (b : Nat), hk (nbk k bs ++ H) b = if k ≤ b ∧ b < k + bs.length then bs[b - k]? else hk H b := by
  induction bs with
  | nil => intro k H b; rw [if_neg (by simp)]; rfl
  | cons x bs ih =>
    intro k H b
    simp only [nbk, List.cons_append, hk_cons, ih, List.length_cons]
    by_cases h : k = b
    · subst h; rw [if_pos rfl, if_pos (by omega)]; simp
    · rw [if_neg h]
      by_cases h2 : k + 1 ≤ b ∧ b < k + 1 + bs.length
      · rw [if_pos h2, if_pos (by omega)]
        have : b - k = (b - (k + 1)) + 1 := by omega
        rw [this]; simp
      · rw [if_neg h2, if_neg (by omega)]
theorem Sta.news {w0 : World} {M : Mod} {H : AH} {E : Env} (h : Sta w0 M H E) {k : Nat} {bs : List ABlk} (hk0 : ∀ b, k ≤ b → b < k + bs.length → ¬ E.D b) (w' : World) (ls : Nat → Loc) (hb : Below E.w.heap.size E.w w')
    (hl : ∀ j g, j < bs.length → (ls j).g = some g → E.w.heap.size ≤ g) (hinj : ∀ i j g, i < bs.length → j < bs.length → (ls i).g = some g → (ls j).g = some g → i = j)
    (hB : ∀ E' : Env, E'.w = w' → (∀ g, E'.S g → g < E.w.heap.size ∨ ∃ j, j < bs.length ∧ (ls j).g = some g) → (∀ j, j < bs.length → E'.D (k + j) ∧ E'.L (k + j) = ls j) → (∀ j blk, bs[j]? = some blk → BOK E' (ls j) blk)) :
    ∃ E' : Env, E'.w = w' ∧ Sta w0 M (nbk k bs ++ H) E' ∧ E.le E' ∧ (∀ b, E'.D b → E.D b ∨ (k ≤ b ∧ b < k + bs.length)) ∧ (∀ g, E'.S g → g < E.w.heap.size ∨ ∃ j, j < bs.length ∧ (ls j).g = some g) ∧ (∀ j, j < bs.length → E'.D (k + j) ∧ E'.L (k + j) = ls j) := by
  let E' : Env := { w := w', S := fun g => E.S g ∨ ∃ j, j < bs.length ∧ (ls j).g = some g, L := fun b => if k ≤ b ∧ b < k + bs.length then ls (b - k) else E.L b, D := fun b => E.D b ∨ (k ≤ b ∧ b < k + bs.length) }
  have hne : ∀ b, E.D b → ¬ (k ≤ b ∧ b < k + bs.length) := fun b hb h => hk0 b h.1 h.2 hb
  have hle : E.le E' := ⟨hb.size, fun g hg _ => hb.block g hg, fun g hg hS => hS.resolve_right (fun ⟨j, hj, e⟩ => by have := hl j g hj e; omega), fun b hb => ⟨.inl hb, by show (if _ then _ else _) = _; rw [if_neg (hne b hb)]⟩⟩
  have hS' : ∀ g, E'.S g → g < E.w.heap.size ∨ ∃ j, j < bs.length ∧ (ls j).g = some g := fun g hg => hg.imp h.S_lt id
  have hnew : ∀ j, j < bs.length → E'.D (k + j) ∧ E'.L (k + j) = ls j := fun j hj => ⟨.inr ⟨by omega, by omega⟩, by show (if _ then _ else _) = _; rw [if_pos ⟨by omega, by omega⟩, Nat.add_sub_cancel_left]⟩
  have hH : ∀ b blk, hk (nbk k bs ++ H) b = some blk → (∃ j, b = k + j ∧ bs[j]? = some blk ∧ j < bs.length) ∨ (¬ (k ≤ b ∧ b < k + bs.length) ∧ hk H b = some blk) := by
    intro b blk hb
    rw [hk_nbk] at hb
    split at hb
    · rename_i h; exact .inl ⟨b - k, by omega, hb, by omega⟩
    · rename_i h; exact .inr ⟨h, hb⟩
  have hLo : ∀ b blk, hk H b = some blk → E'.L b = E.L b := fun b blk hb => (hle.dl b (h.own b blk hb).1).2
  have hin : ∀ j blk, bs[j]? = some blk → hk (nbk k bs ++ H) (k + j) = some blk := fun j blk hj => by
    have hlt := (List.getElem?_eq_some_iff.1 hj).1
    rw [hk_nbk, if_pos ⟨by omega, by omega⟩, Nat.add_sub_cancel_left]; exact hj
  refine ⟨E', rfl, ⟨hb.os.trans h.os, hb.tape.trans h.tape, hb.output.trans h.output, Nat.le_trans h.size hb.size, fun g hg hM => (hb.block g (Nat.lt_of_lt_of_le hg h.size)).trans (h.frame g hg hM), fun g => ⟨?_, ?_⟩, ?_, ?_, h.hid, h.pin_le hle⟩, hle, fun b hb => hb, hS', hnew⟩
  · rintro (hS | ⟨j, hj, e⟩)
    · rcases (h.seq g).1 hS with ⟨b, blk, hb, e⟩ | hh
      · exact .inl ⟨b, blk, by rw [hk_nbk, if_neg (hne b (h.own b blk hb).1)]; exact hb, by rw [hLo b blk hb]; exact e⟩
      · exact .inr hh
    · exact .inl ⟨k + j, bs[j], hin j _ (List.getElem?_eq_getElem hj), by rw [(hnew j hj).2]; exact e⟩
  · rintro (⟨b, blk, hb, e⟩ | hh)
    case' inr => exact .inl ((h.seq g).2 (.inr hh))
    rcases hH b blk hb with ⟨j, rfl, hj, hlt⟩ | ⟨hn, hb'⟩
    · rw [(hnew j hlt).2] at e; exact .inr ⟨j, hlt, e⟩
    · rw [hLo b blk hb'] at e; exact .inl (h.S_of hb' e)
  · intro b blk hb'
    rcases hH b blk hb' with ⟨j, rfl, hj, hlt⟩ | ⟨hn, hb'⟩
    · rw [(hnew j hlt).2]
      exact ⟨(hnew j hlt).1, fun g e => .inl (Nat.le_trans h.size (hl j g hlt e)), hB E' rfl hS' hnew j blk hj⟩
    · rw [hLo b blk hb']
      obtain ⟨h1, h2, h3⟩ := h.own b blk hb'
      exact ⟨.inl h1, h2, h3.mono hle (fun g e => hb.block g (h.lt hb' e))⟩
  · intro b b' k1 k2 g h1 h2 e1 e2
    rcases hH b k1 h1 with ⟨i, rfl, hi, hli⟩ | ⟨hn, h1'⟩ <;> rcases hH b' k2 h2 with ⟨j, rfl, hj, hlj⟩ | ⟨hn', h2'⟩
    · rw [(hnew i hli).2] at e1; rw [(hnew j hlj).2] at e2; rw [hinj i j g hli hlj e1 e2]
    · rw [(hnew i hli).2] at e1; rw [hLo _ _ h2'] at e2; have := hl i g hli e1; have := h.lt h2' e2; omega
    · rw [(hnew j hlj).2] at e2; rw [hLo _ _ h1'] at e1; have := hl j g hlj e2; have := h.lt h1' e1; omega
    · rw [hLo _ _ h1'] at e1; rw [hLo _ _ h2'] at e2; exact h.inj b b' k1 k2 g h1' h2' e1 e2

section
variable {P : Program} {k : Nat} {H : AH} {T : AT} {d : Option Tmp} {ty : TypeId} {ps : String} {af : Array Edge} {gd : Option (Nat × Bool)}
inductive evs (T : AT) : List Operand → List AV → Prop
  | nil : evs T [] []
  | cons {x : Operand} {u : AV} {xs : List Operand} {us : List AV} (h : ev T x = some u) (k : evs T xs us) : evs T (x :: xs) (u :: us)
theorem eC {T : AT} {x : Operand} {u : AV} {xs : List Operand} {us : List AV} (h : ev T x = some u) (k : evs T xs us) : evs T (x :: xs) (u :: us) := .cons h k
theorem eN {T : AT} : evs T [] [] := .nil
theorem evs_rvs {E : Env} {a : Act} {ops : List Operand} {us : List AV} (h : evs T ops us) (hT : ∀ x ∈ ops, ∀ u, ev T x = some u → RV E u (a.eval x)) : RVs E us (ops.map a.eval) := by
  induction h with
  | nil => exact RVs.nil E
  | cons h k ih => exact RVs.cons (hT _ (by simp) _ h) (ih (fun y hy => hT y (by simp [hy])))
theorem s_call {f : FuncId} {fo : Operand} {ops : List Operand} {ts : Array TypeId} {us cs : List AV} {U : List Nat} {v : Nat → AV} {bs : List ABlk} [hF : FnI P f] (hf : ev T fo = some (.fn f [])) (hu : evs T ops us) (ha : ArgL H us cs U) (hc : Fresh P f cs v bs) (hb8 : bs.length ≤ 8) :
    StepU P ⟨d, .call { callee := .value fo, args := ops.toArray, argTypes := ts }, ty, ps, af, gd⟩ k U H T (v k) (nbk k bs) := by
  refine ⟨fun w0 M Hr E a hs hU hk0 hT K Q hK => ?_⟩
  have hfv := hT fo (by simp [Op.operands, Call.operands]) _ hf
  have hxs := evs_rvs (E := E) (a := a) hu (fun x hx => hT x (by simp [Op.operands, Call.operands, hx]))
  let E0 : Env := { w := E.w, S := fun _ => False, L := E.L, D := fun _ => False }
  have h0 := ha.rvs hs hU hxs (E0 := E0) rfl (fun g h => h)
  have hcall := hc E0 (ops.map a.eval) (fun g h => h) (fun b h => h) h0
  have hrun : (execOp a.eval ⟨d, .call { callee := .value fo, args := ops.toArray, argTypes := ts }, ty, ps, af, gd⟩).run P E.w = .ok (.enter f (ops.map a.eval).toArray) E.w := by
    generalize hfe : a.eval fo = fv at hfv
    cases hfv with
    | fn f cs xs hl h =>
      have : xs = #[] := Array.eq_empty_of_size_eq_zero (by simpa using hl)
      subst this
      simp only [execOp, resolve, hfe, Deferred.ofValue, invoke, Sem.run_bind, Sem.run_pure, Result.andThen_ok, Array.empty_append, Array.append_empty, hF.hc]
      simp
  unfold Oper.wp
  rw [hrun]
  simp only [Oper.upon]
  refine hcall.mono ?_
  rintro e w' ⟨x, ls, rfl, h1, h2, h3, h4⟩
  obtain ⟨E', e1, e2, e3, e4, e5, e6⟩ := hs.news (k := k) (bs := bs) (fun b hb1 hb2 => hk0 b hb1 (by omega)) w' ls h1 h2 h3 (fun E' hw hS hD => (h4 k E' hw hS hD).1)
  have := hK x E' e2 e3 (fun b hb => (e4 b hb).imp id (fun h => ⟨h.1, by omega⟩)) (h4 k E' e1 e5 e6).2
  rw [e1] at this
  exact this
end
end Go.Proofs.YtneeclacmhhblaaGreat


namespace Go.Proofs.YtneeclacmhhblaaGreat
open Go.RowKit

def slots : List AV → AT
  | [] => []
  | [a] => [(0, a)]
  | [a, b] => [(0, a), (1, b)]
  | [a, b, c] => [(0, a), (1, b), (2, c)]
  | [a, b, c, d] => [(0, a), (1, b), (2, c), (3, d)]
  | [a, b, c, d, e] => [(0, a), (1, b), (2, c), (3, d), (4, e)]
  | [a, b, c, d, e, f] => [(0, a), (1, b), (2, c), (3, d), (4, e), (5, f)]
  | [a, b, c, d, e, f, g] => [(0, a), (1, b), (2, c), (3, d), (4, e), (5, f), (6, g)]
  | _ => []
theorem slots_get (args : List AV) (t : Nat) (u : AV) (h : lk (slots args) t = some u) : args[t]? = some u := by
  unfold slots at h
  split at h <;> simp only [lk_cons, show ∀ t, lk [] t = none from fun _ => rfl] at h <;> (try cases h)
  all_goals
    repeat' split at h
    all_goals first
      | (rename_i e; subst e; exact h)
      | (subst_vars; exact h)
      | (cases h)

section
variable {P : Program}
def ResV (P : Program) (fn : Func) (H : AH) (T : AT) (u : AV) : Prop :=
  ∀ (w0 : World) (M : Mod) (E : Env) (a : Act), Sta w0 M H E → TR E T a → ∃ x, (results fn a.tmps).run P E.w = .ok x E.w ∧ RV E u x
def rvSem (tmps : Array Value) : ResultVar → Sem Value
  | .tmp t => pure (tmps.getD t undef)
  | .cell p t => do loadVar t (← asAddr (tmps.getD p undef))
theorem results_eq (fn : Func) (tmps : Array Value) : results fn tmps = (do let vs ← fn.results.mapM (rvSem tmps); pure (if h : vs.size = 1 then vs[0] else .tuple vs)) := by
  unfold results
  congr 1
def Res1 (P : Program) (r : ResultVar) (H : AH) (T : AT) (u : AV) : Prop :=
  ∀ (w0 : World) (M : Mod) (E : Env) (a : Act), Sta w0 M H E → TR E T a → ∃ x, (rvSem a.tmps r).run P E.w = .ok x E.w ∧ RV E u x
theorem res_tmp {H : AH} {T : AT} {t : Tmp} {u : AV} (h : lk T t = some u) : Res1 P (.tmp t) H T u := fun _ _ E a _ hT => by
  obtain ⟨x, hx, hr⟩ := hT t u h
  exact ⟨x, by simp [rvSem, hx], hr⟩
theorem res_cell {H : AH} {T : AT} {p : Tmp} {t : TypeId} {n b : Nat} {blk : ABlk} {u : AV} [ht : TI P t true n] (h : lk T p = some (.pt b 0)) (hb : hk H b = some blk) (hn : blk.cells.length = n) (hu : agu u blk.cells) : Res1 P (.cell p t) H T u := fun _ _ E a hs hT => by
  obtain ⟨x, hx, hr⟩ := hT p _ h
  obtain ⟨g, rfl, hD, hg, hm⟩ := hr.pt_inv
  obtain ⟨xs, h1, h2⟩ := own_read hs hb hg hm
  have hl := loadVar_cells (P := P) (t := t) (w := E.w) (g := g) (o := 0) (xs := xs) (by rw [h1.1]; exact hn) (fun j y hy => by rw [Nat.zero_add]; exact h2 j y hy)
  refine ⟨_, ?_, hu E _ h1⟩
  simp only [Instr.loadAt, Instr.sureAddr, Sem.run_bind, Sem.run_pure, Result.andThen_ok] at hl
  simp [rvSem, hx, asAddr, hl]
theorem res_0 {fn : Func} {H : AH} {T : AT} (hr : fn.results = #[]) : ResV P fn H T (.tp []) := fun _ _ E a hs hT =>
  ⟨.tuple #[], by rw [results_eq, hr]; simp, .tp [] #[] rfl (fun j c x hc => by simp at hc)⟩
theorem res_1 {fn : Func} {r : ResultVar} {H : AH} {T : AT} {u : AV} (hr : fn.results = #[r]) (h : Res1 P r H T u) : ResV P fn H T u := fun w0 M E a hs hT => by
  obtain ⟨x, h1, h2⟩ := h w0 M E a hs hT
  refine ⟨x, ?_, h2⟩
  rw [results_eq, hr]; simp [h1]
theorem res_2 {fn : Func} {r s : ResultVar} {H : AH} {T : AT} {u v : AV} (hr : fn.results = #[r, s]) (h : Res1 P r H T u) (h' : Res1 P s H T v) : ResV P fn H T (.tp [u, v]) := fun w0 M E a hs hT => by
  obtain ⟨x, h1, h2⟩ := h w0 M E a hs hT
  obtain ⟨y, k1, k2⟩ := h' w0 M E a hs hT
  have hv := RVs.cons h2 (RVs.cons k2 (RVs.nil E))
  refine ⟨.tuple #[x, y], ?_, .tp _ _ rfl (fun j c z hc hz => hv.2 j c z hc (by simpa using hz))⟩
  rw [results_eq, hr]; simp [h1, k1]
def Outv (H : AH) (u : AV) (v : Nat → AV) (bs : List ABlk) : Prop :=
  ∀ (w0 : World) (E : Env) (x : Value), Sta w0 Mod.no H E → RV E u x → ∃ ls : Nat → Loc, (∀ j g, j < bs.length → (ls j).g = some g → w0.heap.size ≤ g) ∧ (∀ i j g, i < bs.length → j < bs.length → (ls i).g = some g → (ls j).g = some g → i = j) ∧
    ∀ (k : Nat) (E' : Env), E'.w = E.w → (∀ g, E'.S g → g < w0.heap.size ∨ ∃ j, j < bs.length ∧ (ls j).g = some g) → (∀ j, j < bs.length → E'.D (k + j) ∧ E'.L (k + j) = ls j) → (∀ j blk, bs[j]? = some blk → BOK E' (ls j) blk) ∧ RV E' (v k) x
class Val (u : AV) : Prop where
  val : ∀ (E E' : Env) (x : Value), RV E u x → RV E' u x
class ValL (cs : List AV) : Prop where
  val : ∀ (E E' : Env) (xs : List Value), RVs E cs xs → RVs E' cs xs
instance (x : Value) : Val (.v x) := ⟨fun E E' y h => by rw [h.v_inv]; exact .v x⟩
instance : ValL [] := ⟨fun E E' xs h => by rw [h.nil_inv]; exact RVs.nil E'⟩
instance (c : AV) (cs : List AV) [h : Val c] [k : ValL cs] : ValL (c :: cs) := ⟨fun E E' xs hx => by obtain ⟨y, ys, rfl, h1, h2⟩ := hx.cons_inv; exact RVs.cons (h.val E E' y h1) (k.val E E' ys h2)⟩
theorem ValL.vals (vs : List Value) : ValL (vs.map .v) := ⟨fun E E' xs hx => by rw [hx.vals_inv]; exact RVs.vals vs⟩
instance (vs : List Value) : ValL (vs.map .v) := ValL.vals vs
instance (bs : List UInt8) : ValL (byA bs) := by rw [byA_vals]; infer_instance
theorem RVs.split {E : Env} {a b : List AV} {xs : List Value} (h : RVs E (a ++ b) xs) : RVs E a (xs.take a.length) ∧ RVs E b (xs.drop a.length) := by
  have h1 := h.take a.length
  have h2 := h.drop a.length
  rw [List.take_left] at h1
  rw [List.drop_left] at h2
  exact ⟨h1, h2⟩
instance (a b : List AV) [h : ValL a] [k : ValL b] : ValL (a ++ b) := ⟨fun E E' xs hx => by
  have := (h.val E E' _ hx.split.1).append (k.val E E' _ hx.split.2)
  rwa [List.take_append_drop] at this⟩
theorem replicate_map (n : Nat) (x : Value) : List.replicate n (AV.v x) = (List.replicate n x).map .v := by simp
instance (n : Nat) (x : Value) : ValL (List.replicate n (.v x)) := by rw [replicate_map]; infer_instance
theorem tp_vals {E E' : Env} {cs : List AV} [h : ValL cs] {x : Value} (k : RV E (.tp cs) x) : RV E' (.tp cs) x := by
  cases k with
  | tp cs xs hl k =>
    have := h.val E E' xs.toList ⟨by simpa using hl, fun j c x hc hx => k j c x hc (by simpa using hx)⟩
    exact .tp cs xs hl (fun j c x hc hx => this.2 j c x hc (by simpa using hx))
instance (cs : List AV) [h : ValL cs] : Val (.tp cs) := ⟨fun E E' x k => tp_vals k⟩
instance (cs : List AV) [h : ValL cs] : Val (.ag cs) := ⟨fun E E' x k => by
  cases k with
  | ag cs xs hl k =>
    have := h.val E E' xs.toList ⟨by simpa using hl, fun j c x hc hx => k j c x hc (by simpa using hx)⟩
    exact .ag cs xs hl (fun j c x hc hx => this.2 j c x hc (by simpa using hx))⟩
theorem out_val {H : AH} {u : AV} [h : Val u] : Outv H u (fun _ => u) [] := fun w0 E x hs hx =>
  ⟨fun _ => ⟨none, 0⟩, fun j g hj => by simp at hj, fun i j g hi => by simp at hi, fun k E' _ _ _ => ⟨fun j blk hj => by simp at hj, h.val E E' x hx⟩⟩
theorem bok_out {w0 : World} {E E' : Env} {H : AH} (hs : Sta w0 Mod.no H E) {b : Nat} {blk : ABlk} (hb : hk H b = some blk) [h : ValL blk.cells] (hw : E'.w = E.w) : BOK E' (E.L b) blk := by
  obtain ⟨_, _, h3⟩ := hs.own b blk hb
  cases eg : (E.L b).g with
  | none => exact .mk_none eg (h3.none eg)
  | some g =>
    by_cases hm : (E.L b).c ≤ maxLen
    · obtain ⟨cs, c1, c2, c3, c4, c5⟩ := h3.at eg hm
      exact .mk eg ⟨cs, by rw [hw]; exact c1, c2, c3, c4, h.val E E' _ c5⟩
    · obtain ⟨es, ck, c1, c2⟩ := h3.atM eg hm
      exact .mkM eg hm (h3.szM eg hm) (by rw [hw]; exact h3.stM eg hm) ⟨es, ck, by rw [hw]; exact c1, h.val E E' _ c2⟩
theorem out_sl {H : AH} {b n : Nat} {blk : ABlk} (hb : hk H b = some blk) [h : ValL blk.cells] : Outv H (.sl b n) (fun k => .sl k n) [blk] := fun w0 E x hs hx => by
  obtain ⟨h1, h2, _⟩ := hs.own b blk hb
  refine ⟨fun _ => E.L b, fun j g _ e => (h2 g e).resolve_right id, fun i j g hi hj _ _ => by simp at hi hj; omega, fun k E' hw _ hD => ⟨fun j blk' hj => ?_, ?_⟩⟩
  · have : blk' = blk := by
      cases j with
      | zero => simpa using hj.symm
      | succ j => simp at hj
    subst this
    exact bok_out hs hb hw
  · cases hx with
    | sl b n hb hn hm =>
      obtain ⟨d1, d2⟩ := hD 0 (by simp)
      simp only [Nat.add_zero] at d1 d2
      rw [← d2] at hn hm ⊢
      exact .sl _ _ d1 hn hm
def RetQ (P : Program) (fn : Func) (v : Nat → AV) (bs : List ABlk) : AQ := fun e _ H T => (e = .normal ∨ e = .ret) ∧ ∃ u, ResV P fn H T u ∧ Outv H u v bs
theorem RetQ.mk {fn : Func} {v : Nat → AV} {bs : List ABlk} {e : Exit} {k : Nat} {H : AH} {T : AT} {u : AV} (he : e = .normal ∨ e = .ret) (hr : ResV P fn H T u) (ho : Outv H u v bs) : RetQ P fn v bs e k H T := ⟨he, u, hr, ho⟩
theorem Fresh.of {f : FuncId} {fn : Func} {c : Code} {args : List AV} {v : Nat → AV} {bs : List ABlk} (hf : P.funcs[f]? = some fn) (hb : fn.body = some c) (hn : args.length ≤ fn.ntmps)
    (h : ∀ w, Gol P fn.ntmps w Mod.no c 0 [] (slots args) (RetQ P fn v bs)) : Fresh P f args v bs := by
  intro E0 xs hS hD hx
  refine calls_of_wp hf hb ?_
  have hx' : ∀ (t : Nat) u, args[t]? = some u → ∃ x, xs[t]? = some x ∧ RV E0 u x := fun t u hu => hx.at hu
  have hl := hx.1
  have hst : St fn.ntmps E0.w Mod.no 0 [] (slots args) { tmps := xs.toArray ++ Array.replicate (fn.ntmps - xs.toArray.size) undef, defers := [] } E0.w := by
    refine ⟨E0, rfl, ⟨rfl, rfl, rfl, Nat.le_refl _, fun _ _ _ => rfl, fun g => ⟨fun h => absurd h (hS g), fun h => (by rcases h with ⟨b, blk, h, _⟩ | h; cases h; exact h.elim)⟩, fun b blk h => (by cases h), fun b b' k1 k2 g h => (by cases h), fun g h => h.elim, fun b hb => absurd hb (Nat.not_lt_zero b)⟩, fun b hb => absurd hb (hD b), fun t u hu => ?_, by simp; omega, rfl⟩
    obtain ⟨x, h1, h2⟩ := hx' t u (slots_get args t u hu)
    have hlt : t < xs.length := (List.getElem?_eq_some_iff.1 h1).1
    exact ⟨x, by rw [Array.getElem?_append_left (by simpa using hlt)]; simpa using h1, h2⟩
  refine wp_mono (h E0.w _ _ hst) ?_
  rintro e a' w' ⟨k', H', T', ⟨E, e1, e2, e3, e4, e5, e6⟩, he, u, hr, ho⟩
  obtain ⟨x, hrun, hxu⟩ := hr _ _ E a' e2 e4
  obtain ⟨ls, l1, l2, l3⟩ := ho _ E x e2 hxu
  subst e1
  have hbel : Below E0.w.heap.size E0.w E.w := ⟨e2.os, e2.tape, e2.output, e2.size, fun g hg => e2.frame g hg (fun h => h)⟩
  rcases he with rfl | rfl
  · exact ⟨e6, x, hrun, x, ls, rfl, hbel, l1, l2, fun k E' hw hS hD => l3 k E' hw hS hD⟩
  · exact ⟨e6, x, hrun, x, ls, rfl, hbel, l1, l2, fun k E' hw hS hD => l3 k E' hw hS hD⟩

def rmap : List (Nat × Nat) → Nat → Nat
  | [], b => b
  | (i, j) :: l, b => bif Nat.beq i b then j else rmap l b
inductive Rn (ρ : Nat → Nat) : AV → AV → Prop
  | v {x y : Value} (h : x = y) : Rn ρ (.v x) (.v y)
  | pt {b b' o o' : Nat} (hb : ρ b = b') (ho : o' = o) : Rn ρ (.pt b' o') (.pt b o)
  | sl {b b' n n' : Nat} (hb : ρ b = b') (hn : n' = n) : Rn ρ (.sl b' n') (.sl b n)
  | sb {b b' o o' n n' : Nat} {c c' : Option Nat} (hb : ρ b = b') (ho : o' = o) (hn : n' = n) (hc : c' = c) : Rn ρ (.sb b' o' n' c') (.sb b o n c)
  | sc {b b' n n' c c' : Nat} (hb : ρ b = b') (hn : n' = n) (hc : c' = c) : Rn ρ (.sc b' n' c') (.sc b n c)
  | mp {b b' : Nat} (hb : ρ b = b') : Rn ρ (.mp b') (.mp b)
  | clo {u u' : AV} (h : Clo u) (e : u' = u) : Rn ρ u' u
def RnT (ρ : Nat → Nat) (T' : AT) : AT → Prop
  | [] => True
  | (i, u) :: T => (∃ u', lk T' i = some u' ∧ Rn ρ u' u) ∧ RnT ρ T' T
def RnH (ρ : Nat → Nat) (k : Nat) (H' : AH) : AH → Prop
  | [] => True
  | (_, none) :: H => RnH ρ k H' H
  | (b, some blk) :: H => (b < k ∧ ∃ blk', hk H' (ρ b) = some blk' ∧ blk'.cells = blk.cells ∧ blk'.elem = blk.elem ∧ blk'.sz = blk.sz ∧ CloL blk.cells) ∧ RnH ρ k H' H
theorem RnT.n {ρ : Nat → Nat} {T' : AT} : RnT ρ T' [] := trivial
theorem RnT.c {ρ : Nat → Nat} {T' T : AT} {i : Nat} {u u' : AV} (h : lk T' i = some u') (hr : Rn ρ u' u) (ht : RnT ρ T' T) : RnT ρ T' ((i, u) :: T) := ⟨⟨u', h, hr⟩, ht⟩
theorem RnH.n {ρ : Nat → Nat} {k : Nat} {H' : AH} : RnH ρ k H' [] := trivial
theorem RnH.c {ρ : Nat → Nat} {k : Nat} {H' H : AH} {b : Nat} {blk blk' : ABlk} [hc : CloL blk.cells] (hb : Nat.blt b k = true) (h : hk H' (ρ b) = some blk') (h1 : blk'.cells = blk.cells) (h2 : blk'.elem = blk.elem) (h3 : blk'.sz = blk.sz) (ht : RnH ρ k H' H) : RnH ρ k H' ((b, some blk) :: H) :=
  ⟨⟨by simpa [Nat.blt_eq] using hb, blk', h, h1, h2, h3, hc⟩, ht⟩
def rmp (k' : Nat) (l : List (Nat × Nat)) (k b : Nat) : Nat := if k ≤ b then k' + b else rmap l b
def pinOk (np : Nat) (l : List (Nat × Nat)) (k : Nat) : Bool := Nat.ble np k && (List.range np).all fun b => Nat.beq (rmap l b) b
theorem pin_rmp {np k' k : Nat} {l : List (Nat × Nat)} (h : pinOk np l k = true) : ∀ b, b < np → rmp k' l k b = b := fun b hb => by
  simp only [pinOk, Bool.and_eq_true, List.all_eq_true, List.mem_range] at h
  have h1 := Nat.le_of_ble_eq_true h.1
  unfold rmp
  rw [if_neg (by omega)]
  exact Nat.eq_of_beq_eq_true (h.2 b hb)
theorem rmp_ge (k' k : Nat) (l : List (Nat × Nat)) (b : Nat) (h : k ≤ b) : k' ≤ rmp k' l k b := by unfold rmp; rw [if_pos h]; omega
theorem RnT.get {ρ : Nat → Nat} {T' : AT} : ∀ {T : AT}, RnT ρ T' T → ∀ t u, lk T t = some u → ∃ u', lk T' t = some u' ∧ Rn ρ u' u
  | [], _, t, u, h => by cases h
  | (i, w) :: T, hr, t, u, h => by
    rw [lk_cons] at h
    split at h
    · rename_i e; subst e; injection h with h; subst h; exact hr.1
    · exact RnT.get hr.2 t u h
theorem RnH.get {ρ : Nat → Nat} {k : Nat} {H' : AH} : ∀ {H : AH}, RnH ρ k H' H → ∀ b blk, hk H b = some blk → b < k ∧ ∃ blk', hk H' (ρ b) = some blk' ∧ blk'.cells = blk.cells ∧ blk'.elem = blk.elem ∧ blk'.sz = blk.sz ∧ CloL blk.cells
  | [], _, b, blk, h => by cases h
  | (i, none) :: H, hr, b, blk, h => by
    rw [hk_cons] at h
    split at h
    · cases h
    · exact RnH.get (H := H) hr b blk h
  | (i, some w) :: H, hr, b, blk, h => by
    rw [hk_cons] at h
    split at h
    · rename_i e; subst e; injection h with h; subst h; exact hr.1
    · exact RnH.get (H := H) hr.2 b blk h
def inj1 (ρ : Nat → Nat) (H : AH) : Bool := H.all fun p => H.all fun q => Nat.beq p.1 q.1 || !Nat.beq (ρ p.1) (ρ q.1)
theorem hk_mem {H : AH} {b : Nat} {blk : ABlk} (h : hk H b = some blk) : (b, some blk) ∈ H := by
  induction H with
  | nil => cases h
  | cons p H ih =>
    obtain ⟨j, v⟩ := p
    rw [hk_cons] at h
    split at h
    · rename_i e; subst e; subst h; exact List.mem_cons_self
    · exact List.mem_cons_of_mem _ (ih h)
theorem Le.mk (ρ : Nat → Nat) {M : Mod} {k' k : Nat} {H' H : AH} {T' T : AT} (hT : RnT ρ T' T) (hH : RnH ρ k H' H) (hi : inj1 ρ H = true) (hp : ∀ b, b < M.np → ρ b = b) (hk : ∀ b, k ≤ b → k' ≤ ρ b) : Le M k' H' T' k H T := by
  rintro n w0 a w ⟨E, e1, e2, e3, e4, e5, e6⟩
  let F : Env := { w := E.w, S := fun g => (∃ b blk, Proofs.YtneeclacmhhblaaGreat.hk H b = some blk ∧ (E.L (ρ b)).g = some g) ∨ M.hid g, L := fun b => E.L (ρ b), D := fun b => E.D (ρ b) }
  have hsee : E.sees F := ⟨Nat.le_refl _, fun _ _ _ => rfl, fun g _ h => by
    rcases h with ⟨b, blk, hb, e⟩ | hh
    · obtain ⟨_, blk', h1, _⟩ := hH.get b blk hb
      exact e2.S_of h1 e
    · exact (e2.seq g).2 (.inr hh)⟩
  refine ⟨F, e1, ⟨e2.os, e2.tape, e2.output, e2.size, e2.frame, fun g => Iff.rfl, fun b blk hb => ?_, fun b b' k1 k2 g h1 h2 x1 x2 => ?_, e2.hid, fun b hb => by show E.D (ρ b) ∧ E.L (ρ b) = _; rw [hp b hb]; exact e2.pin b hb⟩, fun b hb => ?_, fun t u hu => ?_, e5, e6⟩
  · obtain ⟨_, blk', h1, h2, h3, h4, h5⟩ := hH.get b blk hb
    obtain ⟨o1, o2, o3⟩ := e2.own (ρ b) blk' h1
    refine ⟨o1, o2, ?_⟩
    cases eg : (E.L (ρ b)).g with
    | none => exact .mk_none eg (by have := o3.none eg; rw [h2] at this; exact this)
    | some g =>
      by_cases hm : (E.L (ρ b)).c ≤ maxLen
      · obtain ⟨cs, c1, c2, c3, c4, c5⟩ := o3.at eg hm
        rw [h2] at c4 c5
        rw [h3] at c1
        rw [h4] at c3
        exact .mk eg ⟨cs, c1, c2, c3, c4, CloL.rvs (h := h5) hsee c5⟩
      · obtain ⟨es, ck, c1, c2⟩ := o3.atM eg hm
        rw [h2] at c2
        exact .mkM eg hm (h4 ▸ o3.szM eg hm) (o3.stM eg hm) ⟨es, ck, c1, CloL.rvs (h := h5) hsee c2⟩
  · obtain ⟨_, b1, h3, _⟩ := hH.get b k1 h1
    obtain ⟨_, b2, h4, _⟩ := hH.get b' k2 h2
    have := e2.inj (ρ b) (ρ b') b1 b2 g h3 h4 x1 x2
    have hh := List.all_eq_true.1 (List.all_eq_true.1 hi _ (hk_mem h1)) _ (hk_mem h2)
    simp only [Bool.or_eq_true] at hh
    rcases hh with hh | hh
    · exact Nat.eq_of_beq_eq_true hh
    · simp [this] at hh
  · have hb' : E.D (ρ b) := hb
    have := e3 _ hb'
    rcases Nat.lt_or_ge b k with h | h
    · exact h
    · have := hk b h; omega
  · obtain ⟨u', h1, h2⟩ := hT.get t u hu
    obtain ⟨x, hx, hr⟩ := e4 t u' h1
    refine ⟨x, hx, ?_⟩
    cases h2 with
    | v h => subst h; rw [hr.v_inv]; exact .v _
    | pt hb ho => subst hb ho; obtain ⟨g, rfl, hD, hg, hm⟩ := hr.pt_inv; exact .pt _ _ g hD hg hm
    | sl hb hn => subst hb hn; cases hr with | sl b n hD hn hm => exact RV.sl (E := F) _ _ hD hn hm
    | sb hb ho hn hc => subst hb ho hn hc; cases hr with | sb b o n c A c' hD hA hn hc hm => exact RV.sb (E := F) _ _ _ _ _ _ hD hA hn hc hm
    | sc hb hn hc => subst hb hn hc; cases hr with | sc b n c hD hc hn hm => exact RV.sc (E := F) _ _ _ hD hc hn hm
    | mp hb => subst hb; cases hr with | mp b g hD hg hm => exact RV.mp (E := F) _ g hD hg hm
    | clo h e => subst e; exact h.cl E F x hsee hr
theorem Le.mk' (l : List (Nat × Nat)) {M : Mod} {k' k : Nat} {H' H : AH} {T' T : AT} (hT : RnT (rmp k' l k) T' T) (hH : RnH (rmp k' l k) k H' H) (hi : inj1 (rmp k' l k) H = true) (hp : pinOk M.np l k = true) : Le M k' H' T' k H T := Le.mk _ hT hH hi (pin_rmp hp) (rmp_ge k' k l)
theorem Le.nilOwn {M : Mod} {k : Nat} {H : AH} {T : AT} {i : Nat} (e : TypeId) (sz : Nat) (h : lk T i = some (.v (.slice none 0 0))) : Le M k H T (k + 8) ((k, some ⟨[], e, sz⟩) :: H) ((i, .sl k 0) :: T) := by
  rintro n w0 a w ⟨E, e1, e2, e3, e4, e5, e6⟩
  have hk0 : ¬ E.D k := fun h => by have := e3 k h; omega
  obtain ⟨h1, h2⟩ := e2.new hk0 E.w ⟨none, 0⟩ ⟨[], e, sz⟩ (Nat.le_refl _) (fun _ _ => rfl) rfl rfl rfl (fun g hg => by cases hg) (fun E' _ _ => .mk_none rfl ⟨rfl, rfl⟩)
  refine ⟨E.new k E.w ⟨none, 0⟩, e1, h1, fun b hb => ?_, fun t u hu => ?_, e5, e6⟩
  · rcases hb with hb | hb
    · have := e3 b hb; omega
    · omega
  · rw [lk_cons] at hu
    split at hu
    · rename_i ei; subst ei; injection hu with hu; subst hu
      obtain ⟨x, hx, hr⟩ := e4 i _ h
      refine ⟨x, hx, ?_⟩
      rw [hr.v_inv]
      have : RV (E.new k E.w ⟨none, 0⟩) (.sl k 0) (.slice (((E.new k E.w ⟨none, 0⟩).L k).g.map fun g => ⟨g, 0, none⟩) 0 ((E.new k E.w ⟨none, 0⟩).L k).c) := .sl _ _ (.inr rfl) (Nat.zero_le _) (by simp [Env.new])
      simpa [Env.new] using this
    · obtain ⟨x, hx, hr⟩ := e4 t u hu; exact ⟨x, hx, hr.mono h2⟩
end
end Go.Proofs.YtneeclacmhhblaaGreat


namespace Go.Proofs.YtneeclacmhhblaaGreat
open Go.RowKit

section
variable {P : Program} {k : Nat} {H : AH} {T : AT} {d : Option Tmp} {ty t t' : TypeId} {ps : String} {af : Array Edge} {gd : Option (Nat × Bool)} {x y : Operand}
theorem guard_int (op : BinOp) (x y : Operand) (k1 k2 : IntKind) (a b : Int) (w : World) : (eqGuard op t x y (.int k1 a) (.int k2 b)).run P w = .ok () w := by
  cases op <;> simp [eqGuard]
theorem i64w {n : Int} (h : -9223372036854775808 ≤ n ∧ n ≤ 9223372036854775807) : IntKind.i64.wrap n = n := by rw [IntKind.wrap_i64]; omega

theorem s_addn {i j : Nat} (hx : ev T x = some (.v (.int .i64 (i : Int)))) (hy : ev T y = some (.v (.int .i64 (j : Int)))) (h : i + j ≤ 9223372036854775807) : StepU P ⟨d, .binOp .add t x y t', ty, ps, af, gd⟩ k [] H T (.v (.int .i64 ((i + j : Nat) : Int))) [] :=
  s_bin hx hy fun w => by simp [guard_int, binOp, Op.intArith, Sem.run_bind]; rw [i64w (by omega)]
theorem s_add {a b : Int} (hx : ev T x = some (.v (.int .i64 a))) (hy : ev T y = some (.v (.int .i64 b))) (h : -9223372036854775808 ≤ a + b ∧ a + b ≤ 9223372036854775807) : StepU P ⟨d, .binOp .add t x y t', ty, ps, af, gd⟩ k [] H T (.v (.int .i64 (a + b))) [] :=
  s_bin hx hy fun w => by simp [guard_int, binOp, Op.intArith, Sem.run_bind, i64w h]
theorem s_subn {i j : Nat} (hx : ev T x = some (.v (.int .i64 (i : Int)))) (hy : ev T y = some (.v (.int .i64 (j : Int)))) (h : j ≤ i) (h2 : i ≤ 9223372036854775807) : StepU P ⟨d, .binOp .sub t x y t', ty, ps, af, gd⟩ k [] H T (.v (.int .i64 ((i - j : Nat) : Int))) [] :=
  s_bin hx hy fun w => by simp [guard_int, binOp, Op.intArith, Sem.run_bind]; rw [i64w (by omega)]; omega
theorem s_sub {a b : Int} (hx : ev T x = some (.v (.int .i64 a))) (hy : ev T y = some (.v (.int .i64 b))) (h : -9223372036854775808 ≤ a - b ∧ a - b ≤ 9223372036854775807) : StepU P ⟨d, .binOp .sub t x y t', ty, ps, af, gd⟩ k [] H T (.v (.int .i64 (a - b))) [] :=
  s_bin hx hy fun w => by simp [guard_int, binOp, Op.intArith, Sem.run_bind, i64w h]
theorem s_muln {i j : Nat} (hx : ev T x = some (.v (.int .i64 (i : Int)))) (hy : ev T y = some (.v (.int .i64 (j : Int)))) (h : i * j ≤ 9223372036854775807) : StepU P ⟨d, .binOp .mul t x y t', ty, ps, af, gd⟩ k [] H T (.v (.int .i64 ((i * j : Nat) : Int))) [] :=
  s_bin hx hy fun w => by simp [guard_int, binOp, Op.intArith, Sem.run_bind]; rw [← Int.natCast_mul, i64w (by omega)]
theorem s_ltn {k1 : IntKind} {i j : Nat} (hx : ev T x = some (.v (.int k1 (i : Int)))) (hy : ev T y = some (.v (.int k1 (j : Int)))) : StepU P ⟨d, .binOp .lss t x y t', ty, ps, af, gd⟩ k [] H T (.v (.bool (decide (i < j)))) [] :=
  s_bin hx hy fun w => by simp [guard_int, binOp, Op.intCmp, Sem.run_bind]
theorem s_lt {k1 : IntKind} {a b : Int} (hx : ev T x = some (.v (.int k1 a))) (hy : ev T y = some (.v (.int k1 b))) : StepU P ⟨d, .binOp .lss t x y t', ty, ps, af, gd⟩ k [] H T (.v (.bool (decide (a < b)))) [] :=
  s_bin hx hy fun w => by simp [guard_int, binOp, Op.intCmp, Sem.run_bind]
theorem s_len' {k1 : IntKind} {i j : Nat} (hx : ev T x = some (.v (.int k1 (i : Int)))) (hy : ev T y = some (.v (.int k1 (j : Int)))) : StepU P ⟨d, .binOp .leq t x y t', ty, ps, af, gd⟩ k [] H T (.v (.bool (decide (i ≤ j)))) [] :=
  s_bin hx hy fun w => by simp [guard_int, binOp, Op.intCmp, Sem.run_bind]
theorem s_le {k1 : IntKind} {a b : Int} (hx : ev T x = some (.v (.int k1 a))) (hy : ev T y = some (.v (.int k1 b))) : StepU P ⟨d, .binOp .leq t x y t', ty, ps, af, gd⟩ k [] H T (.v (.bool (decide (a ≤ b)))) [] :=
  s_bin hx hy fun w => by simp [guard_int, binOp, Op.intCmp, Sem.run_bind]
theorem s_gtn {k1 : IntKind} {i j : Nat} (hx : ev T x = some (.v (.int k1 (i : Int)))) (hy : ev T y = some (.v (.int k1 (j : Int)))) : StepU P ⟨d, .binOp .gtr t x y t', ty, ps, af, gd⟩ k [] H T (.v (.bool (decide (j < i)))) [] :=
  s_bin hx hy fun w => by simp [guard_int, binOp, Op.intCmp, Sem.run_bind]
theorem s_gt {k1 : IntKind} {a b : Int} (hx : ev T x = some (.v (.int k1 a))) (hy : ev T y = some (.v (.int k1 b))) : StepU P ⟨d, .binOp .gtr t x y t', ty, ps, af, gd⟩ k [] H T (.v (.bool (decide (b < a)))) [] :=
  s_bin hx hy fun w => by simp [guard_int, binOp, Op.intCmp, Sem.run_bind]
theorem s_gen {k1 : IntKind} {i j : Nat} (hx : ev T x = some (.v (.int k1 (i : Int)))) (hy : ev T y = some (.v (.int k1 (j : Int)))) : StepU P ⟨d, .binOp .geq t x y t', ty, ps, af, gd⟩ k [] H T (.v (.bool (decide (j ≤ i)))) [] :=
  s_bin hx hy fun w => by simp [guard_int, binOp, Op.intCmp, Sem.run_bind]
theorem s_ge {k1 : IntKind} {a b : Int} (hx : ev T x = some (.v (.int k1 a))) (hy : ev T y = some (.v (.int k1 b))) : StepU P ⟨d, .binOp .geq t x y t', ty, ps, af, gd⟩ k [] H T (.v (.bool (decide (b ≤ a)))) [] :=
  s_bin hx hy fun w => by simp [guard_int, binOp, Op.intCmp, Sem.run_bind]
theorem s_eqn {k1 : IntKind} {i j : Nat} (hx : ev T x = some (.v (.int k1 (i : Int)))) (hy : ev T y = some (.v (.int k1 (j : Int)))) : StepU P ⟨d, .binOp .eql t x y t', ty, ps, af, gd⟩ k [] H T (.v (.bool (decide (i = j)))) [] :=
  s_bin hx hy fun w => by
    simp only [guard_int, binOp, Op.intCmp, Sem.run_bind, Result.andThen_ok, ne_eq, not_true_eq_false, if_false, Sem.run_pure]
    by_cases h : i = j
    · simp [h]
    · simp [h]; omega
theorem s_eq {k1 : IntKind} {a b : Int} (hx : ev T x = some (.v (.int k1 a))) (hy : ev T y = some (.v (.int k1 b))) : StepU P ⟨d, .binOp .eql t x y t', ty, ps, af, gd⟩ k [] H T (.v (.bool (decide (a = b)))) [] :=
  s_bin hx hy fun w => by
    simp only [guard_int, binOp, Op.intCmp, Sem.run_bind, Result.andThen_ok, ne_eq, not_true_eq_false, if_false, Sem.run_pure]
    by_cases h : a = b <;> simp [h]
theorem s_nen {k1 : IntKind} {i j : Nat} (hx : ev T x = some (.v (.int k1 (i : Int)))) (hy : ev T y = some (.v (.int k1 (j : Int)))) : StepU P ⟨d, .binOp .neq t x y t', ty, ps, af, gd⟩ k [] H T (.v (.bool (!decide (i = j)))) [] :=
  s_bin hx hy fun w => by
    simp only [guard_int, binOp, Op.intCmp, Sem.run_bind, Result.andThen_ok, ne_eq, not_true_eq_false, if_false, Sem.run_pure]
    by_cases h : i = j
    · simp [h]
    · simp [h]; omega
theorem s_ne {k1 : IntKind} {a b : Int} (hx : ev T x = some (.v (.int k1 a))) (hy : ev T y = some (.v (.int k1 b))) : StepU P ⟨d, .binOp .neq t x y t', ty, ps, af, gd⟩ k [] H T (.v (.bool (!decide (a = b)))) [] :=
  s_bin hx hy fun w => by
    simp only [guard_int, binOp, Op.intCmp, Sem.run_bind, Result.andThen_ok, ne_eq, not_true_eq_false, if_false, Sem.run_pure]
    by_cases h : a = b <;> simp [h]
theorem run_eqb (n : Nat) (hu : P.underlying t = some .bool) (a b : Bool) (w : World) : (Op.equalIn (n + 1) t (.bool a) (.bool b)).run P w = .ok (a == b) w := by
  simp only [Op.equalIn, Sem.run_bind, run_underlying hu, Result.andThen_ok, Sem.run_pure]
theorem s_eqb {a b : Bool} [hu : UI P t .bool] (hx : ev T x = some (.v (.bool a))) (hy : ev T y = some (.v (.bool b))) : StepU P ⟨d, .binOp .eql t x y t', ty, ps, af, gd⟩ k [] H T (.v (.bool (a == b))) [] :=
  s_bin hx hy fun w => by
    have h1 : (eqGuard .eql t x y (.bool a) (.bool b)).run P w = .ok () w := by simp [eqGuard]
    have h2 : (Op.equal t (.bool a) (.bool b)).run P w = .ok (a == b) w := run_eqb 9999 hu.u a b w
    simp only [h1, h2, binOp, Sem.run_bind, Result.andThen_ok, Sem.run_pure]
theorem s_not {a : Bool} (hx : ev T x = some (.v (.bool a))) : StepU P ⟨d, .unOp .not t x, ty, ps, af, gd⟩ k [] H T (.v (.bool (!a))) [] :=
  s_un hx fun w => by simp [Op.unary]
theorem guard_name (op : BinOp) (x y : Operand) (a b : UInt64) (hg : P.eqGuardType P.depth t = false) (w : World) : (eqGuard op t x y (.agg (nameC a)) (.agg (nameC b))).run P w = .ok () w := by
  cases op <;> simp [eqGuard, program, Sem.run, hg]
theorem eqA {e : TypeId} (hu : P.underlying t = some (.array 8 e)) (hi : (P.info? e).isSome = true) (he : P.underlying e = some (.int .u8)) (hc : P.cellsOf e = 1) (a b : UInt64) (w : World) : (Op.equal t (.agg (nameC a)) (.agg (nameC b))).run P w = .ok (a == b) w :=
  run_eq_name (P := P) w 9998 hu hi he hc a b
class NI (P : Program) (t : TypeId) : Prop where
  h : P.eqGuardType P.depth t = false ∧ ∃ e, P.underlying t = some (.array 8 e) ∧ (P.info? e).isSome = true ∧ P.underlying e = some (.int .u8) ∧ P.cellsOf e = 1
theorem s_eqN {a b : UInt64} [hN : NI P t] (hx : ev T x = some (.v (.agg (nameC a)))) (hy : ev T y = some (.v (.agg (nameC b)))) : StepU P ⟨d, .binOp .eql t x y t', ty, ps, af, gd⟩ k [] H T (.v (.bool (a == b))) [] :=
  s_bin hx hy fun w => by
    obtain ⟨hg, e, h1, h2, h3, h4⟩ := hN.h
    have := eqA h1 h2 h3 h4 a b w
    simp only [guard_name (P := P) .eql x y a b hg, binOp, Sem.run_bind, this, Result.andThen_ok, Sem.run_pure]
def toU8 (n : Int) : UInt8 := UInt8.ofNat (n % 256).toNat
def toU64 (n : Int) : UInt64 := UInt64.ofNat (n % 18446744073709551616).toNat
theorem wrap_toU8 (n : Int) : IntKind.u8.wrap n = ((toU8 n).toNat : Int) := by
  rw [IntKind.wrap_u8, toU8, UInt8.toNat_ofNat']; omega
theorem wrap_toU64 (n : Int) : IntKind.u64.wrap n = ((toU64 n).toNat : Int) := by
  rw [IntKind.wrap_u64, toU64, UInt64.toNat_ofNat']; omega
theorem s_cu8 {s : TypeId} {k1 : IntKind} {n : Int} {ds : TypeDesc} [hu : UI P t (.int .u8)] [hs : UI P s ds] (hx : ev T x = some (.v (.int k1 n))) : StepU P ⟨d, .convert s t x, ty, ps, af, gd⟩ k [] H T (.v (.int .u8 ((toU8 n).toNat : Int))) [] :=
  s_conv hx fun w => by
    simp only [convert, Sem.run_bind, run_underlying hu.u, run_underlying hs.u, Result.andThen_ok, Conv.intToInt, wrap_toU8, Sem.run_pure]
theorem s_cu64 {s : TypeId} {k1 : IntKind} {n : Int} {ds : TypeDesc} [hu : UI P t (.int .u64)] [hs : UI P s ds] (hx : ev T x = some (.v (.int k1 n))) : StepU P ⟨d, .convert s t x, ty, ps, af, gd⟩ k [] H T (.v (.int .u64 ((toU64 n).toNat : Int))) [] :=
  s_conv hx fun w => by
    simp only [convert, Sem.run_bind, run_underlying hu.u, run_underlying hs.u, Result.andThen_ok, Conv.intToInt, wrap_toU64, Sem.run_pure]
theorem s_ci64 {s : TypeId} {k1 : IntKind} {n : Int} {ds : TypeDesc} [hu : UI P t (.int .i64)] [hs : UI P s ds] (hx : ev T x = some (.v (.int k1 n))) (h : -9223372036854775808 ≤ n ∧ n ≤ 9223372036854775807) : StepU P ⟨d, .convert s t x, ty, ps, af, gd⟩ k [] H T (.v (.int .i64 n)) [] :=
  s_conv hx fun w => by
    simp only [convert, Sem.run_bind, run_underlying hu.u, run_underlying hs.u, Result.andThen_ok, Conv.intToInt, i64w h, Sem.run_pure]
def partsOk (T : AT) : List (Nat × Operand) → Nat → Bool
  | [], _ => true
  | p :: l, i => Nat.beq p.1 i && (evV T p.2).oneCell' && partsOk T l (i + 1)
theorem partsOk_get : ∀ (l : List (Nat × Operand)) (i : Nat), partsOk T l i = true → ∀ (j : Nat) (p : Nat × Operand), l[j]? = some p → p.1 = i + j ∧ (evV T p.2).oneCell' = true
  | [], _, _, j, p, hp => by simp at hp
  | q :: l, i, h, j, p, hp => by
    simp only [partsOk, Bool.and_eq_true] at h
    cases j with
    | zero => simp at hp; subst hp; exact ⟨Nat.eq_of_beq_eq_true h.1.1, h.1.2⟩
    | succ j => have := partsOk_get l (i + 1) h.2 j p (by simpa using hp); exact ⟨by omega, this.2⟩
theorem s_bytesL {l : List (Nat × Operand)} {n bytes : Nat} {e : TypeId} {z : Value} [hS : SI P t e 1 bytes z] (hp : l.all (fun p => isV T p.2) = true) (hq : partsOk T l 0 = true) (hn : l.length = n) (hsmall : n ≤ 16777216) :
    StepU P ⟨d, .buildSlice t n l.toArray, ty, ps, af, gd⟩ k [] H T (.sl k n) [(k, some ⟨l.map (fun p => .v (evV T p.2)), e, 1⟩)] :=
  s_bytesLit hp (fun j p h => by have := partsOk_get l 0 hq j p h; simpa using this) hn hsmall
inductive PV (T : AT) : Nat → List (Nat × Operand) → List AV → Prop
  | nil {i : Nat} : PV T i [] []
  | cons {i i' : Nat} {x : Operand} {X : Value} {l : List (Nat × Operand)} {cs : List AV} (hi : i' = i) (hx : ev T x = some (.v X)) (h1 : X.oneCell' = true) (k : PV T (i + 1) l cs) : PV T i ((i', x) :: l) (.v X :: cs)
theorem PV.all {i : Nat} {l : List (Nat × Operand)} {cs : List AV} (h : PV T i l cs) : l.all (fun p => isV T p.2) = true ∧ partsOk T l i = true ∧ cs = l.map (fun p => .v (evV T p.2)) := by
  induction h with
  | nil => exact ⟨rfl, rfl, rfl⟩
  | cons hi hx h1 _ ih =>
    subst hi
    have e1 : ∀ x X, ev T x = some (.v X) → isV T x = true ∧ evV T x = X := fun x X h => by simp [isV, evV, h]
    obtain ⟨a1, a2⟩ := e1 _ _ hx
    refine ⟨by simp only [List.all_cons, a1, ih.1, Bool.and_self], by simp only [partsOk, a2, h1, ih.2.1, Bool.and_true]; exact Nat.beq_refl _, by simp only [List.map_cons, a2, ← ih.2.2]⟩
theorem s_bytesP {l : List (Nat × Operand)} {cs : List AV} {n bytes : Nat} {e : TypeId} {z : Value} [hS : SI P t e 1 bytes z] (h : PV T 0 l cs) (hn : l.length = n) (hsmall : n ≤ 16777216) :
    StepU P ⟨d, .buildSlice t n l.toArray, ty, ps, af, gd⟩ k [] H T (.sl k n) [(k, some ⟨cs, e, 1⟩)] := by
  obtain ⟨h1, h2, rfl⟩ := h.all
  exact s_bytesL h1 h2 hn hsmall
theorem cu_name (n : UInt64) : cu (.v (.agg (nameC n))) = byA (nameB n) := rfl
theorem rd_name {b n : Nat} {c : Option Nat} {a : UInt64} {e : TypeId} {sz : Nat} (hb : hk H b = some ⟨cu (.v (.agg (nameC a))), e, sz⟩) (hn : n = 8) : Rdv H 1 (.sb b 0 n c) n (byA (nameB a)) [b] := by
  subst hn
  exact rd_sb (sz := 1) hb (by show 0 + 8 * 1 ≤ 8; omega)
theorem arg_name {b n : Nat} {c : Option Nat} {a : UInt64} {e : TypeId} {sz : Nat} (hb : hk H b = some ⟨cu (.v (.agg (nameC a))), e, sz⟩) (hn : n = 8) : Arg H (.sb b 0 n c) (.ex n false (byA (nameB a))) [b] := by
  subst hn
  have := arg_sb (c := c) (o := 0) (n := 8) (m := 8) hb (h := (inferInstance : CloL (cu (.v (.agg (nameC a)))))) (by show 0 + 8 ≤ 8; omega) (fun h => by cases h)
  exact this
end
end Go.Proofs.YtneeclacmhhblaaGreat


namespace Go.Proofs.YtneeclacmhhblaaGreat
open Go.RowKit

def flat (ns : List UInt64) : List UInt8 := ns.flatMap nameB
theorem flat_append (a b : List UInt64) : flat (a ++ b) = flat a ++ flat b := by simp [flat]
theorem flat_one (v : UInt64) : flat [v] = nameB v := by simp [flat]
theorem flat_nil : flat [] = [] := rfl
theorem flat_length (ns : List UInt64) : (flat ns).length = ns.length * 8 := by
  induction ns with
  | nil => rfl
  | cons a ns ih => simp only [flat, List.flatMap_cons, List.length_append, nameB_length, List.length_cons] at ih ⊢; omega
theorem flat_at (ns : List UInt64) (i : Nat) (h : i < ns.length) : ((flat ns).drop (i * 8)).take 8 = nameB (ns.getD i 0) := by
  induction ns generalizing i with
  | nil => simp at h
  | cons a ns ih =>
    cases i with
    | zero => simp only [flat, List.flatMap_cons, Nat.zero_mul, List.drop_zero]; rw [List.take_left' (nameB_length a)]; rfl
    | succ i =>
      have e : (i + 1) * 8 = (nameB a).length + i * 8 := by rw [nameB_length]; omega
      simp only [flat, List.flatMap_cons]
      rw [e, ← List.drop_drop, List.drop_left]
      exact ih i (by simpa using h)
theorem agu_nm {ns : List UInt64} {i : Nat} (h : i < ns.length) : agu (.v (.agg (nameC (ns.getD i 0)))) (((byA (flat ns)).drop (i * 8)).take 8) := by
  rw [byA_drop, byA_take, flat_at ns i h]
  exact agu_v _
theorem agu_nm0 {ns : List UInt64} (h : 0 < ns.length) : agu (.v (.agg (nameC (ns.getD 0 0)))) (((byA (flat ns)).drop 0).take 8) := agu_nm (i := 0) h

def inA (l : List Int) : List AV := (l.map (Value.int .i64)).map .v
instance (l : List Int) : CloL (inA l) := CloL.vals _
instance (l : List Int) : ValL (inA l) := ValL.vals _
theorem inA_length (l : List Int) : (inA l).length = l.length := by simp [inA]
theorem inA_ones (l : List Int) : (inA l).all AV.one = true := by simp [inA, AV.one, Value.oneCell']
instance (l : List Int) : OneL (inA l) := ⟨inA_ones l⟩
theorem in_get {l : List Int} {i : Nat} (h : i < l.length) : (inA l)[i * 1]? = some (.v (.int .i64 (l.getD i 0))) := by
  rw [Nat.mul_one]; simp [inA, List.getElem?_eq_getElem h, List.getD_eq_getElem?_getD]
theorem in_get0 {l : List Int} {i : Nat} (h : i < l.length) : ((inA l).drop (i * 1))[0]? = some (.v (.int .i64 (l.getD i 0))) := by
  rw [List.getElem?_drop, Nat.add_zero]; exact in_get h
theorem byA_ne {bs : List UInt8} (h : 0 < bs.length) : byA bs ≠ [] := fun e => by have := congrArg List.length e; rw [byA_length, List.length_nil] at this; omega
theorem flat_ne {ns : List UInt64} (h : 0 < ns.length) : byA (flat ns) ≠ [] := byA_ne (by rw [flat_length]; omega)
section
variable {P : Program} {k : Nat} {H : AH} {T : AT} {d : Option Tmp} {ty t t' : TypeId} {ps : String} {af : Array Edge} {gd : Option (Nat × Bool)} {x y : Operand}
theorem s_slAE {lo hi mx : Option Operand} {n size l h m : Nat} {cs : List AV} [hA : AI P t n size] (hx : ev T x = some (.ep cs)) (hlo : Bnd T lo l 0) (hhi : Bnd T hi h n) (hmx : Bnd T mx m n) (hhm : hi = none → mx = none)
    (h1 : l ≤ h) (h2 : h ≤ m) (h3 : m ≤ n) : StepU P ⟨d, .slice t x lo hi mx, ty, ps, af, gd⟩ k [] H T (.ex (h - l) (decide (m = h)) ((cs.drop (l * size)).take ((h - l) * size))) [] :=
  .of_pure fun _ _ _ E a hs hU hT => by
    obtain ⟨e, hu, hsz⟩ := hA.hu
    have hv := hT x (by simp [Op.operands]) _ hx
    generalize hy : a.eval x = v at hv
    cases hv with
    | ep cs g o xs hg hS hl hx' hr =>
      have b1 := bnd_map (E := E) (a := a) hlo (l := (Op.slice t x lo hi mx).operands.toList) (fun y hy => by subst hy; simp [Op.operands]) (fun y hy => hT y (by simpa using hy))
      have b2 := bnd_map (E := E) (a := a) hhi (l := (Op.slice t x lo hi mx).operands.toList) (fun y hy => by subst hy; simp [Op.operands]) (fun y hy => hT y (by simpa using hy))
      have b3 := bnd_map (E := E) (a := a) hmx (l := (Op.slice t x lo hi mx).operands.toList) (fun y hy => by subst hy; simp [Op.operands]) (fun y hy => hT y (by simpa using hy))
      have hrb := run_bounds (P := P) (isS := false) (len := n) (cap := n) (l := l) (h := h) (m := m) (lo := lo.map a.eval) (hi := hi.map a.eval) (mx := mx.map a.eval) E.w b1
        b2 (by cases hi with
            | none => have := hhm rfl; subst this; exact fun _ => rfl
            | some y => exact fun h => by cases h) b3 h1 h2 h3
      refine ⟨.slice (some (if m = l then ⟨g, o, none⟩ else ⟨g, o + l * size, none⟩)) (h - l) (m - l), ?_, ?_⟩
      · simp only [execOp, hy, Instr.sliceAt, run_underlying hu, Instr.sureAddr, Sem.run_bind, Sem.run_pure, Result.andThen_ok, hrb, run_sizeOf' hsz, addr_at]
      · have hfull : decide (m = h) = true → m - l = h - l := fun h => by rw [of_decide_eq_true h]
        by_cases hz : (cs.drop (l * size)).take ((h - l) * size) = []
        · rw [hz]; exact .ex0 _ _ _ _ (by omega) hfull
        · have hlh : l < h := by
            rcases Nat.lt_or_ge l h with h'' | h''
            · exact h''
            · exact absurd (by rw [show h - l = 0 by omega]; simp) hz
          rw [if_neg (by omega)]
          have hR : RVs E ((cs.drop (l * size)).take ((h - l) * size)) ((xs.drop (l * size)).take ((h - l) * size)) := (RVs.drop ⟨hl, hr⟩ _).take _
          refine .ex _ _ _ g (o + l * size) _ ((xs.drop (l * size)).take ((h - l) * size)) (by omega) hfull hg hS hR.1 (fun j y hj => ?_) hR.2
          rw [List.getElem?_take] at hj
          split at hj
          · rw [List.getElem?_drop] at hj; rw [Nat.add_assoc]; exact hx' _ y hj
          · cases hj
theorem rd_nmE {n i : Nat} {f : Bool} {ns : List UInt64} {m : Nat} (hn : n = 8) (hm : m = 8) (hi : i < ns.length) : Rdv H 1 (.ex n f ((((byA (flat ns)).drop (i * 8)).drop 0).take m)) n (byA (nameB (ns.getD i 0))) [] := by
  subst hn hm
  rw [List.drop_zero, byA_drop, byA_take, flat_at ns i hi]
  exact rd_ex (by rw [byA_length, nameB_length])

theorem fill_agg (size : Nat) (hp : 0 < size) (pl : Nat → Option (Nat × Nat)) (hpl : ∀ i, pl i = some (i * size, size)) : ∀ (ps : List (Nat × Value)) (o : Nat) (cs : Array Value), (∀ (j : Nat) (p : Nat × Value), ps[j]? = some p → p.1 = o + j ∧ p.2.cells.size = size) → cs.size = (o + ps.length) * size →
    Instr.fill pl cs ps = some (cs.toList.take (o * size) ++ (ps.map fun p => p.2.cells.toList).flatten).toArray
  | [], o, cs, _, hs => by
    simp only [Instr.fill, List.map_nil, List.flatten_nil, List.append_nil]
    rw [List.take_of_length_le (by simp at hs ⊢; omega)]
  | (i, v) :: rest, o, cs, h, hs => by
    obtain ⟨h1, h2⟩ := h 0 (i, v) rfl
    simp only [Nat.add_zero] at h1
    simp only at h2
    subst h1
    simp only [List.length_cons] at hs
    have hroom : i * size + size ≤ cs.size := by rw [hs, Nat.add_mul, Nat.add_mul]; omega
    have hput : ∀ (vs : List Value) (off : Nat) (c0 : Array Value), off + vs.length ≤ c0.size → ((vs.toArray.zipIdx).foldl (fun cs (x : Value × Nat) => match x with | (c, j) => cs.setIfInBounds (off + j) c) c0) = (c0.toList.take off ++ vs ++ c0.toList.drop (off + vs.length)).toArray := by
      intro vs off c0
      have gen : ∀ (vs : List Value) (k : Nat) (c0 : Array Value), off + k + vs.length ≤ c0.size → ((vs.zipIdx k).foldl (fun cs (x : Value × Nat) => match x with | (c, j) => cs.setIfInBounds (off + j) c) c0) = (c0.toList.take (off + k) ++ vs ++ c0.toList.drop (off + k + vs.length)).toArray := by
        intro vs
        induction vs with
        | nil => intro k c0 _; simp
        | cons v vs ih =>
          intro k c0 hc
          simp only [List.length_cons] at hc
          simp only [List.zipIdx_cons, List.foldl_cons]
          rw [ih (k + 1) _ (by simp; omega)]
          have := list_seg_step c0.toList (off + k) v vs (by simp; omega)
          simp only [Array.toList_setIfInBounds, List.length_cons]
          rw [← Nat.add_assoc off k 1, this]
      intro hc
      have := gen vs 0 c0 (by simpa using hc)
      simp only [Nat.add_zero] at this
      rw [← this]
      rw [← Array.foldl_toList]
      simp
    have ih := fill_agg size hp pl hpl rest (i + 1) (cs.toList.take (i * size) ++ v.cells.toList ++ cs.toList.drop (i * size + v.cells.toList.length)).toArray (fun j p hp => by have := h (j + 1) p (by simpa using hp); exact ⟨by omega, this.2⟩) (by
      simp only [List.size_toArray, List.length_append, List.length_take, List.length_drop, Array.length_toList, h2]
      rw [show i + 1 + rest.length = i + (rest.length + 1) by omega, ← hs]; omega)
    have hv := hput v.cells.toList (i * size) cs (by simp [h2]; exact hroom)
    have hng : ¬ (i * size + size > cs.size) := by omega
    simp only [Array.toArray_toList] at hv
    simp only [Instr.fill, hpl, h2, hv, ih]
    simp only [ne_eq, not_true_eq_false, decide_false, Bool.false_or, decide_eq_true_eq, hng, if_false, List.map_cons, List.flatten_cons]
    congr 2
    rw [Nat.succ_mul]
    have hl1 : (cs.toList.take (i * size) ++ v.cells.toList).length = i * size + size := by simp [h2]; omega
    have e1 : (cs.toList.take (i * size) ++ v.cells.toList ++ cs.toList.drop (i * size + v.cells.toList.length)).toArray.toList.take (i * size + size) = cs.toList.take (i * size) ++ v.cells.toList := List.take_left' hl1
    rw [e1, List.append_assoc]
    rfl
inductive PA (T : AT) (size : Nat) : Nat → List (Nat × Operand) → List AV → Prop
  | nil {i : Nat} : PA T size i [] []
  | cons {i i' : Nat} {x : Operand} {u : AV} {l : List (Nat × Operand)} {cs : List AV} (hi : i' = i) (hx : ev T x = some u) (h1 : (cu u).length = size) (k : PA T size (i + 1) l cs) : PA T size i ((i', x) :: l) (cu u ++ cs)
theorem PA.rvs {size i : Nat} {l : List (Nat × Operand)} {cs : List AV} {E : Env} {a : Act} (h : PA T size i l cs) (hT : ∀ x ∈ l.map (·.2), ∀ u, ev T x = some u → RV E u (a.eval x)) :
    RVs E cs ((l.map fun p => (a.eval p.2).cells.toList).flatten) ∧ ∀ (j : Nat) (p : Nat × Operand), l[j]? = some p → p.1 = i + j ∧ (a.eval p.2).cells.size = size := by
  induction h with
  | nil => exact ⟨RVs.nil E, fun j p hp => by simp at hp⟩
  | cons hi hx h1 _ ih =>
    have hr := (hT _ (by simp) _ hx).cu
    obtain ⟨i1, i2⟩ := ih (fun y hy => hT y (by simp at hy ⊢; exact .inr hy))
    refine ⟨by simp only [List.map_cons, List.flatten_cons]; exact hr.append i1, fun j p hp => ?_⟩
    cases j with
    | zero => simp at hp; subst hp; exact ⟨hi, by have := hr.1; rw [Array.length_toList] at this; exact this.trans h1⟩
    | succ j => have := i2 j p (by simpa using hp); exact ⟨by omega, this.2⟩
theorem s_lit {l : List (Nat × Operand)} {cs : List AV} {n size bytes : Nat} {e : TypeId} {z : Value} [hS : SI P t e size bytes z] (h : PA T size 0 l cs) (hn : l.length = n) (hsmall : n * size ≤ 16777216) :
    StepU P ⟨d, .buildSlice t n l.toArray, ty, ps, af, gd⟩ k [] H T (.sl k n) [(k, some ⟨cs, e, size⟩)] :=
  .of_alloc fun w0 M Hr E a hs hU hT => by
    obtain ⟨hR, hq⟩ := h.rvs (E := E) (a := a) (fun x hx => hT x (by simpa [Op.operands] using hx))
    have hi := hS.info
    have hlen : ((l.map fun p => (a.eval p.2).cells.toList).flatten).length = n * size := by
      have : ∀ (l : List (Nat × Operand)), (∀ p ∈ l, (a.eval p.2).cells.size = size) → ((l.map fun p => (a.eval p.2).cells.toList).flatten).length = l.length * size := by
        intro l
        induction l with
        | nil => intro _; simp
        | cons p l ih => intro hp; simp only [List.map_cons, List.flatten_cons, List.length_append, List.length_cons, Array.length_toList, hp p (by simp), ih (fun q hq => hp q (by simp [hq]))]; rw [Nat.succ_mul]; omega
      rw [this l (fun p hp => by obtain ⟨j, hj⟩ := List.getElem?_of_mem hp; exact (hq j p hj).2), hn]
    have hbp := hS.bpos
    have hcm : n ≤ maxLen := by
      have := Nat.le_mul_of_pos_right n hS.pos
      simp only [maxLen]; omega
    refine ⟨.slice (some ⟨E.w.heap.size, 0, none⟩) n n, ((l.map fun p => (a.eval p.2).cells.toList).flatten).toArray, n, ?_, hcm, by simp [hlen], by show cs.length ≤ _; rw [List.size_toArray, hR.1]; exact Nat.le_refl _, ?_, fun E' hL hD => ?_⟩
    · cases hqi : P.info? e with
      | none => simp [hqi] at hi
      | some i =>
        simp only [hqi, Option.map_some, Option.some.injEq, Prod.mk.injEq] at hi
        obtain ⟨i1, i2, i3⟩ := hi
        have hmap : (l.toArray.map fun (i, x) => (i, a.eval x)) = (l.map fun p => (p.1, a.eval p.2)).toArray := by simp
        have hfz : ∀ zc : Array Value, Instr.fill (fun j => some (j * i.size, i.size)) ((Array.range (n * i.size)).map (zc[· % zc.size]!)) (l.map fun p => (p.1, a.eval p.2)) = some ((l.map fun p => (a.eval p.2).cells.toList).flatten).toArray := fun zc => by
          rw [fill_agg i.size (by rw [i2]; exact hS.pos) _ (fun j => rfl) (l.map fun p => (p.1, a.eval p.2)) 0 _ (fun j p hp => by
            rw [List.getElem?_map] at hp
            cases hl : l[j]? with
            | none => rw [hl] at hp; cases hp
            | some q => rw [hl] at hp; simp at hp; subst hp; rw [i2]; exact hq j q hl) (by simp [hn])]
          simp [List.map_map, Function.comp_def]
        have hb : ¬ n * i.size > 2 ^ 24 := by rw [i2]; omega
        by_cases hn0 : n * i.size = 0
        · have := hfz #[]
          rw [hn0] at this
          simp only [execOp, hmap, Instr.buildSlice, run_underlying hS.under, sizeOf, typeInfo, zeroValue, Sem.run_bind, Sem.run_pure, Result.andThen_ok]
          simp [hqi, hn0, newRow] at this ⊢
          simp [this]
        · have := hfz z.cells
          simp only [execOp, hmap, Instr.buildSlice, run_underlying hS.under, sizeOf, typeInfo, zeroValue, Sem.run_bind, Sem.run_pure, Result.andThen_ok]
          simp [hqi, hb, hn0, i1, this, newRow]
    · show RVs E cs (List.take cs.length _)
      rw [List.take_of_length_le (by rw [← hR.1]; simp)]
      exact hR
    · have : RV E' (.sl k n) (.slice ((E'.L k).g.map fun g => ⟨g, 0, none⟩) n (E'.L k).c) := .sl _ _ hD (by rw [hL]; exact Nat.le_refl _) (by rw [hL]; exact hcm)
      rw [hL] at this
      exact this
class BI (P : Program) (t : TypeId) (z : outParam Value) : Prop where
  h : ∀ w, (Instr.build t #[]).run P w = .ok z w
theorem s_zero {z : Value} [h : BI P t z] : StepU P ⟨d, .build t #[], ty, ps, af, gd⟩ k [] H T (.v z) [] :=
  s_build (l := []) rfl (fun w => h.h w)
end
end Go.Proofs.YtneeclacmhhblaaGreat


namespace Go.Proofs.YtneeclacmhhblaaGreat
open Go.RowKit

def jn {ι : Type} (M : Mod) (I : ι → Prop) (kJ : Nat) (Hh : ι → AH) (Th : ι → AT) (Q : AQ) : AQ
  | .normal, k, H, T => ∃ j, I j ∧ Le M k H T kJ (Hh j) (Th j)
  | e, k, H, T => Q e k H T
section
variable {P : Program} {n : Nat} {w0 : World} {M : Mod} {k : Nat} {H : AH} {T : AT} {Q : AQ} {ι : Type}
theorem Gol.join {x y : Code} (I : ι → Prop) (kJ : Nat) (Hh : ι → AH) (Th : ι → AT) (h : Gol P n w0 M x k H T (jn M I kJ Hh Th Q)) (g : ∀ j, I j → Gol P n w0 M y kJ (Hh j) (Th j) Q) : Gol P n w0 M (.seq x y) k H T Q := fun a w hs =>
  wp_seq (wp_mono (h a w hs) fun e a' w' ⟨k', H', T', hs', hq⟩ => by
    cases e with
    | normal => obtain ⟨j, hj, hle⟩ := hq; exact g j hj a' w' (hle n w0 a' w' hs')
    | _ => exact ⟨k', H', T', hs', hq⟩)
variable {I : ι → Prop} {kJ : Nat} {Hh : ι → AH} {Th : ι → AT}
theorem jn_r (h : Q .ret k H T) : jn M I kJ Hh Th Q .ret k H T := h
theorem jn_n (j : ι) (hj : I j) (hl : Le M k H T kJ (Hh j) (Th j)) : jn M I kJ Hh Th Q .normal k H T := ⟨j, hj, hl⟩
end
theorem Fresh.bool {P : Program} {f : FuncId} {args : List AV} {b b' : Bool} {bs : List ABlk} (h : Fresh P f args (fun _ => .v (.bool b')) bs) (e : b' = b) : Fresh P f args (fun _ => .v (.bool b)) bs := e ▸ h

theorem agu_nm8 {n : UInt64} {cs : List AV} (h : cs = (nameC n).toList.map .v) : agu (.v (.agg (nameC n))) cs := h ▸ agu_v _
class EqR (P : Program) (t : TypeId) (x y : Array Value) (r : outParam Bool) : Prop where
  g : P.eqGuardType P.depth t = false
  h : ∀ w, (Op.equal t (.agg x) (.agg y)).run P w = .ok r w
section
variable {P : Program} {k : Nat} {H : AH} {T : AT} {d : Option Tmp} {ty t t' : TypeId} {ps : String} {af : Array Edge} {gd : Option (Nat × Bool)} {x y : Operand}
theorem guard_agg (op : BinOp) (x y : Operand) (a b : Array Value) (hg : P.eqGuardType P.depth t = false) (w : World) : (eqGuard op t x y (.agg a) (.agg b)).run P w = .ok () w := by
  cases op <;> simp [eqGuard, program, Sem.run, hg]
theorem s_eqR {a b : Array Value} {r : Bool} (hx : ev T x = some (.v (.agg a))) (hy : ev T y = some (.v (.agg b))) (h : EqR P t a b r) : StepU P ⟨d, .binOp .eql t x y t', ty, ps, af, gd⟩ k [] H T (.v (.bool r)) [] :=
  s_bin hx hy fun w => by simp only [guard_agg (P := P) .eql x y a b h.g, binOp, Sem.run_bind, h.h, Result.andThen_ok, Sem.run_pure]
inductive EqFs (P : Program) (w : World) (dd : Nat) (xs ys : Array Value) : List Field → List Bool → Prop
  | nil : EqFs P w dd xs ys [] []
  | cons {f : Field} {fs : List Field} {r : Bool} {rs : List Bool} {a b : Value} (hn : f.name ≠ "_") (pa : (part f.type xs f.offset).run P w = .ok a w) (pb : (part f.type ys f.offset).run P w = .ok b w)
      (e : (Op.equalIn dd f.type a b).run P w = .ok r w) (h : EqFs P w dd xs ys fs rs) : EqFs P w dd xs ys (f :: fs) (r :: rs)
theorem EqFs.run {w : World} {dd : Nat} {xs ys : Array Value} {fs : List Field} {rs : List Bool} (h : EqFs P w dd xs ys fs rs) : (Op.eqFields dd xs ys fs).run P w = .ok (rs.all id) w := by
  induction h with
  | nil => simp [Op.eqFields]
  | @cons f fs r rs a b hn pa pb e _ ih =>
    simp only [Op.eqFields, hn, ne_eq, not_false_eq_true, if_true, Sem.run_bind, pa, pb, e, Result.andThen_ok]
    cases r
    · simp
    · simpa using ih
theorem part_int {w : World} {e : TypeId} {kd : IntKind} {xs : Array Value} {o : Nat} {v : Value} (he : P.underlying e = some (.int kd)) (h : xs[o]? = some v) : (part e xs o).run P w = .ok v w := by
  have hag : (isAgg e).run P w = .ok false w := by unfold isAgg; rw [Sem.run_bind, run_underlying he w]; simp
  simp [part, Sem.run_bind, hag, h]
theorem part_name {w : World} {t e : TypeId} {xs : Array Value} {o : Nat} {v : UInt64} (ht : P.underlying t = some (.array 8 e)) (hs : (P.info? t).map (·.size) = some 8) (h : xs.extract o (o + 8) = nameC v) : (part t xs o).run P w = .ok (.agg (nameC v)) w := by
  have hag : (isAgg t).run P w = .ok true w := by unfold isAgg; rw [Sem.run_bind, run_underlying ht w]; simp
  simp [part, Sem.run_bind, hag, run_sizeOf' hs, h]
def andNotI (a b : Int) : Int := IntKind.i64.wrap ((BitVec.ofInt 64 a &&& ~~~BitVec.ofInt 64 b).toNat : Int)
theorem s_andNotI {a b : Int} (hx : ev T x = some (.v (.int .i64 a))) (hy : ev T y = some (.v (.int .i64 b))) : StepU P ⟨d, .binOp .andNot t x y t', ty, ps, af, gd⟩ k [] H T (.v (.int .i64 (andNotI a b))) [] :=
  s_bin hx hy fun w => by simp only [guard_int, binOp, Op.intBits, Sem.run_bind, Result.andThen_ok, ne_eq, not_true_eq_false, if_false, Sem.run_pure]; rfl
end
theorem RetQ.bool {P : Program} {fn : Func} {b b' : Bool} {bs : List ABlk} {e : Exit} {k : Nat} {H : AH} {T : AT} (h : RetQ P fn (fun _ => .v (.bool b')) bs e k H T) (eq : b' = b) : RetQ P fn (fun _ => .v (.bool b)) bs e k H T := eq ▸ h
end Go.Proofs.YtneeclacmhhblaaGreat


namespace Go.Proofs.YtneeclacmhhblaaGreat
open Go.RowKit
section
variable {H : AH}
end
section
variable {P : Program} {t e : TypeId} {size bytes : Nat} {z : Value} {k : Nat} {H : AH} {T : AT} {d : Option Tmp} {ty : TypeId} {ps : String} {af : Array Edge} {gd : Option (Nat × Bool)}
theorem s_slC {x : Operand} {hi : Option Operand} {b n h c : Nat} [hS : SI P t e size bytes z] (hx : ev T x = some (.sc b n c)) (hhi : Bnd T hi h n) (h2 : h ≤ c) {blk : ABlk} (hb : hk H b = some blk) :
    StepU P ⟨d, .slice t x none hi none, ty, ps, af, gd⟩ k [b] H T (.sc b h c) [] :=
  .of_pure fun _ _ _ E a hs hU hT => by
    have hv := hT x (by simp [Op.operands]) _ hx
    have b2 := bnd_map (E := E) (a := a) hhi (l := (Op.slice t x none hi none).operands.toList) (fun y hy => by subst hy; simp [Op.operands]) (fun y hy => hT y (by simpa using hy))
    generalize hy : a.eval x = v at hv
    cases hv with
    | sc b n c hD hcc hn hm =>
      have hr := run_bounds (P := P) (isS := true) (len := n) (cap := c) (l := 0) (h := h) (m := c) (lo := none) (hi := hi.map a.eval) (mx := none) E.w rfl
        b2 (fun _ => rfl) rfl (Nat.zero_le _) h2 (Nat.le_refl _)
      have := run_sliceSlice (P := P) (t := t) (isN := false) E.w ((E.L b).g.map fun g => ⟨g, 0, none⟩) n c 0 h c hr
      refine ⟨_, by simp only [execOp, hy, Sem.run_bind, Sem.run_pure, Option.map_none, this, Result.andThen_ok]; rfl, ?_⟩
      have hg : (if c = 0 then (E.L b).g.map (fun g => (⟨g, 0, none⟩ : Addr)) else ((E.L b).g.map fun g => (⟨g, 0, none⟩ : Addr)).map (·.add (0 * size))) = (E.L b).g.map fun g => (⟨g, 0, none⟩ : Addr) := by
        split
        · rfl
        · cases (E.L b).g <;> simp [addr_at]
      rw [hg, Nat.sub_zero, Nat.sub_zero]
      exact .sc _ _ _ hD hcc h2 hm
end
end Go.Proofs.YtneeclacmhhblaaGreat


namespace Go.Proofs.YtneeclacmhhblaaGreat
open Go.RowKit

def shr6 (x : UInt64) (s : Nat) : UInt64 := UInt64.ofNat (x.toNat / 2 ^ s)
def and6 (x y : UInt64) : UInt64 := x &&& y
theorem ofInt_toNat (x : UInt64) : BitVec.ofInt 64 (x.toNat : Int) = x.toBitVec := by
  apply BitVec.eq_of_toNat_eq
  rw [BitVec.toNat_ofInt]
  have := x.toNat_lt
  simp
  omega
theorem wrap_small (n : Nat) (h : n < 18446744073709551616) : IntKind.u64.wrap (n : Int) = (n : Int) := by rw [IntKind.wrap_u64]; omega
section
variable {P : Program} {k : Nat} {H : AH} {T : AT} {d : Option Tmp} {ty t t' : TypeId} {ps : String} {af : Array Edge} {gd : Option (Nat × Bool)} {x y : Operand}
theorem s_shrU {a : UInt64} {s : Nat} {k1 : IntKind} (hx : ev T x = some (.v (.int .u64 (a.toNat : Int)))) (hy : ev T y = some (.v (.int k1 (s : Int)))) (hs : s ≤ 64) : StepU P ⟨d, .binOp .shr t x y t', ty, ps, af, gd⟩ k [] H T (.v (.int .u64 ((shr6 a s).toNat : Int))) [] :=
  s_bin hx hy fun w => by
    have hn : ¬ ((s : Int) < 0) := by omega
    have hm : min (s : Int).toNat (IntKind.u64.bits) = s := by simp only [IntKind.bits, Int.toNat_natCast]; omega
    have : (a.toNat / 2 ^ s) < 18446744073709551616 := Nat.lt_of_le_of_lt (Nat.div_le_self _ _) a.toNat_lt
    have e : Int.fdiv (a.toNat : Int) (2 ^ s) = ((a.toNat / 2 ^ s : Nat) : Int) := by
      rw [Int.fdiv_eq_ediv_of_nonneg _ (by exact_mod_cast Nat.zero_le (2 ^ s))]; norm_cast
    simp only [guard_int, binOp, Op.shift, Sem.run_bind, Result.andThen_ok, hn, if_false, hm, Sem.run_pure, e, shr6]
    rw [UInt64.toNat_ofNat', Nat.mod_eq_of_lt this]
theorem toU64_small (s : Nat) (h : s ≤ 64) : ((toU64 (s : Int)).toNat : Int) = (s : Int) := by
  rw [toU64, UInt64.toNat_ofNat']; omega
theorem s_shrUc {a : UInt64} {s : Nat} {k1 : IntKind} (hx : ev T x = some (.v (.int .u64 (a.toNat : Int)))) (hy : ev T y = some (.v (.int k1 ((toU64 (s : Int)).toNat : Int)))) (hs : s ≤ 64) : StepU P ⟨d, .binOp .shr t x y t', ty, ps, af, gd⟩ k [] H T (.v (.int .u64 ((shr6 a s).toNat : Int))) [] :=
  s_shrU hx (by rw [hy, toU64_small s hs]) hs
theorem s_andU {a b : UInt64} (hx : ev T x = some (.v (.int .u64 (a.toNat : Int)))) (hy : ev T y = some (.v (.int .u64 (b.toNat : Int)))) : StepU P ⟨d, .binOp .and t x y t', ty, ps, af, gd⟩ k [] H T (.v (.int .u64 ((and6 a b).toNat : Int))) [] :=
  s_bin hx hy fun w => by
    have e : (BitVec.ofInt 64 (a.toNat : Int) &&& BitVec.ofInt 64 (b.toNat : Int)).toNat = (and6 a b).toNat := by rw [ofInt_toNat, ofInt_toNat]; rfl
    simp only [guard_int, binOp, Op.intBits, Sem.run_bind, Result.andThen_ok, ne_eq, not_true_eq_false, if_false, Sem.run_pure]
    show Result.ok (Value.int IntKind.u64 (IntKind.u64.wrap ((BitVec.ofInt 64 (a.toNat : Int) &&& BitVec.ofInt 64 (b.toNat : Int)).toNat : Int))) w = _
    rw [e, wrap_small _ (and6 a b).toNat_lt]
def andI (a b : Int) : Int := IntKind.i64.wrap ((BitVec.ofInt 64 a &&& BitVec.ofInt 64 b).toNat : Int)
def orI (a b : Int) : Int := IntKind.i64.wrap ((BitVec.ofInt 64 a ||| BitVec.ofInt 64 b).toNat : Int)
theorem s_andI {a b : Int} (hx : ev T x = some (.v (.int .i64 a))) (hy : ev T y = some (.v (.int .i64 b))) : StepU P ⟨d, .binOp .and t x y t', ty, ps, af, gd⟩ k [] H T (.v (.int .i64 (andI a b))) [] :=
  s_bin hx hy fun w => by simp only [guard_int, binOp, Op.intBits, Sem.run_bind, Result.andThen_ok, ne_eq, not_true_eq_false, if_false, Sem.run_pure]; rfl
theorem s_orI {a b : Int} (hx : ev T x = some (.v (.int .i64 a))) (hy : ev T y = some (.v (.int .i64 b))) : StepU P ⟨d, .binOp .or t x y t', ty, ps, af, gd⟩ k [] H T (.v (.int .i64 (orI a b))) [] :=
  s_bin hx hy fun w => by simp only [guard_int, binOp, Op.intBits, Sem.run_bind, Result.andThen_ok, ne_eq, not_true_eq_false, if_false, Sem.run_pure]; rfl
def shrI (a : Int) (s : Nat) : Int := a.fdiv (2 ^ (min s 64))
def shlI (a : Int) (s : Nat) : Int := IntKind.i64.wrap (a * 2 ^ (min s 64))
theorem s_shrI {a : Int} {s : Nat} {k1 : IntKind} (hx : ev T x = some (.v (.int .i64 a))) (hy : ev T y = some (.v (.int k1 (s : Int)))) : StepU P ⟨d, .binOp .shr t x y t', ty, ps, af, gd⟩ k [] H T (.v (.int .i64 (shrI a s))) [] :=
  s_bin hx hy fun w => by
    have hn : ¬ ((s : Int) < 0) := by omega
    simp only [guard_int, binOp, Op.shift, Sem.run_bind, Result.andThen_ok, hn, if_false, Sem.run_pure, shrI, Int.toNat_natCast, IntKind.bits]
theorem s_shlI {a : Int} {s : Nat} {k1 : IntKind} (hx : ev T x = some (.v (.int .i64 a))) (hy : ev T y = some (.v (.int k1 (s : Int)))) : StepU P ⟨d, .binOp .shl t x y t', ty, ps, af, gd⟩ k [] H T (.v (.int .i64 (shlI a s))) [] :=
  s_bin hx hy fun w => by
    have hn : ¬ ((s : Int) < 0) := by omega
    simp only [guard_int, binOp, Op.shift, Sem.run_bind, Result.andThen_ok, hn, if_false, Sem.run_pure, shlI, Int.toNat_natCast, IntKind.bits]
theorem s_max {a b : Int} {k1 : IntKind} {ts : Array TypeId} (hx : ev T x = some (.v (.int k1 a))) (hy : ev T y = some (.v (.int k1 b))) : StepU P ⟨d, .call { callee := .builtin .max, args := #[x, y], argTypes := ts }, ty, ps, af, gd⟩ k [] H T (.v (.int k1 (max a b))) [] :=
  s_builtin (l := [x, y]) (by simp [isV, hx, hy]) fun cs w => by
    have e1 : evV T x = .int k1 a := by simp [evV, hx]
    have e2 : evV T y = .int k1 b := by simp [evV, hy]
    simp [builtin, Builtin.max_, Builtin.max2, e1, e2, Int.max_def]
    repeat' split
    all_goals first | rfl | (congr 2; omega) | omega
theorem s_min {a b : Int} {k1 : IntKind} {ts : Array TypeId} (hx : ev T x = some (.v (.int k1 a))) (hy : ev T y = some (.v (.int k1 b))) : StepU P ⟨d, .call { callee := .builtin .min, args := #[x, y], argTypes := ts }, ty, ps, af, gd⟩ k [] H T (.v (.int k1 (min a b))) [] :=
  s_builtin (l := [x, y]) (by simp [isV, hx, hy]) fun cs w => by
    have e1 : evV T x = .int k1 a := by simp [evV, hx]
    have e2 : evV T y = .int k1 b := by simp [evV, hy]
    simp [builtin, Builtin.min_, Builtin.min2, e1, e2, Int.min_def]
    repeat' split
    all_goals first | rfl | (congr 2; omega) | omega
end
end Go.Proofs.YtneeclacmhhblaaGreat


namespace Go.Proofs.YtneeclacmhhblaaGreat
open Go.RowKit
theorem Le.trans {M : Mod} {k k' k'' : Nat} {H H' H'' : AH} {T T' T'' : AT} (h : Le M k H T k' H' T') (g : Le M k' H' T' k'' H'' T'') : Le M k H T k'' H'' T'' := fun n w0 a w hs => g n w0 a w (h n w0 a w hs)
theorem Sta.giveUp {w0 : World} {M : Mod} {H : AH} {E : Env} (h : Sta w0 M H E) (b : Nat) : ∃ E' : Env, E'.w = E.w ∧ E'.L = E.L ∧ E'.D = E.D ∧ E.le E' ∧ Sta w0 M ((b, none) :: H) E' ∧ ∀ blk g, hk H b = some blk → (E.L b).g = some g → ¬ E'.S g := by
  have hne : ∀ b' blk', hk ((b, none) :: H) b' = some blk' → b ≠ b' ∧ hk H b' = some blk' := by
    intro b' blk' hb
    rw [hk_cons] at hb
    split at hb
    · cases hb
    · rename_i e; exact ⟨e, hb⟩
  let E' : Env := { E with S := fun g => (∃ b' blk', hk ((b, none) :: H) b' = some blk' ∧ (E.L b').g = some g) ∨ M.hid g }
  have hle : E.le E' := ⟨Nat.le_refl _, fun _ _ _ => rfl, fun g _ hh => hh.elim (fun ⟨b', blk', hb, e⟩ => h.S_of (hne _ _ hb).2 e) (fun hh => (h.seq g).2 (.inr hh)), fun _ h => ⟨h, rfl⟩⟩
  refine ⟨E', rfl, rfl, rfl, hle, ⟨h.os, h.tape, h.output, h.size, h.frame, fun g => Iff.rfl, fun b' blk' hb => ?_, fun b1 b2 k1 k2 g h1 h2 e1 e2 => h.inj b1 b2 k1 k2 g (hne _ _ h1).2 (hne _ _ h2).2 e1 e2, h.hid, h.pin_le hle⟩, ?_⟩
  · obtain ⟨o1, o2, o3⟩ := h.own b' blk' (hne _ _ hb).2
    exact ⟨o1, o2, o3.mono hle (fun g _ => rfl)⟩
  · rintro blk g hb hg (⟨b', blk', hb', e⟩ | hh)
    case' inr => exact h.nhid hb hg hh
    exact (hne _ _ hb').1 (h.inj b b' blk blk' g hb (hne _ _ hb').2 hg e)
theorem Le.give {M : Mod} {k : Nat} {H : AH} {T : AT} {i b n n' : Nat} {blk : ABlk} {cs : List AV} (h : lk T i = some (.sl b n)) (hb : hk H b = some blk) (hn : n = n') (hc : blk.cells = cs) : Le M k H T k ((b, none) :: H) ((i, .ex n' false cs) :: T) := by
  subst hn hc
  rintro m w0 a w ⟨E, e1, e2, e3, e4, e5, e6⟩
  obtain ⟨E', w1, w2, w3, hle, hs, hg⟩ := e2.giveUp b
  refine ⟨E', w1.trans e1, hs, fun b' hb' => e3 b' (by rw [← w3]; exact hb'), fun t u hu => ?_, e5, e6⟩
  rw [lk_cons] at hu
  split at hu
  · rename_i ei; subst ei; injection hu with hu; subst hu
    obtain ⟨x, hx, hr⟩ := e4 i _ h
    refine ⟨x, hx, ?_⟩
    cases hr with
    | sl b n hD hn hm =>
      cases eg : (E.L b).g with
      | none => rw [((e2.own b blk hb).2.2.none eg).1]; exact .ex0 _ _ _ _ hn (fun h => by cases h)
      | some g =>
        obtain ⟨xs, h1, h2⟩ := own_read e2 hb eg hm
        have h3 := h1.mono hle
        exact .ex _ _ _ g 0 _ xs hn (fun h => by cases h) (by rw [w1]; exact e2.lt hb eg) (hg blk g hb eg) h3.1 (fun j y hy => by rw [w1, Nat.zero_add]; exact h2 j y hy) h3.2
  · obtain ⟨x, hx, hr⟩ := e4 t u hu; exact ⟨x, hx, hr.mono hle⟩
section
variable {P : Program} {t e : TypeId} {size bytes : Nat} {z : Value} {k : Nat} {H : AH} {T : AT} {d : Option Tmp} {ty t' : TypeId} {ps : String} {af : Array Edge} {gd : Option (Nat × Bool)}
theorem s_ixeD {x y : Operand} {n i : Nat} {f : Bool} {cs ds : List AV} {kk : IntKind} [hS : SI P t e size bytes z] (hx : ev T x = some (.ex n f cs)) (hy : ev T y = some (.v (.int kk (i : Int)))) (hi : i < n) (hne : cs ≠ []) (hd : cs.drop (i * size) = ds) :
    StepU P ⟨d, .indexAddr t x y, ty, ps, af, gd⟩ k [] H T (.ep ds) [] := by subst hd; exact s_ixe hx hy hi hne
end
end Go.Proofs.YtneeclacmhhblaaGreat


namespace Go.Proofs.YtneeclacmhhblaaGreat
open Go.RowKit
theorem Rn.rv {ρ : Nat → Nat} {E F : Env} (hw : E.sees F) (hL : ∀ b, F.L b = E.L (ρ b)) (hD : ∀ b, F.D b ↔ E.D (ρ b)) {u' u : AV} (h : Rn ρ u' u) {x : Value} (hr : RV E u' x) : RV F u x := by
  cases h with
  | v h => subst h; rw [hr.v_inv]; exact .v _
  | pt hb ho => subst hb ho; obtain ⟨g, rfl, h1, h2, hm⟩ := hr.pt_inv; exact .pt _ _ g ((hD _).2 h1) (by rw [hL]; exact h2) (by rw [hL]; exact hm)
  | sl hb hn =>
    subst hb hn
    cases hr with
    | sl b n h1 h2 hm => rw [← hL] at h2 hm ⊢; exact RV.sl (E := F) _ _ ((hD _).2 h1) h2 hm
  | sb hb ho hn hc =>
    subst hb ho hn hc
    cases hr with
    | sb b o n c A c' h1 hA hn hc hm => exact RV.sb (E := F) _ _ _ _ _ _ ((hD _).2 h1) (by rw [hL]; exact hA) hn hc (by rw [hL]; exact hm)
  | sc hb hn hc =>
    subst hb hn hc
    cases hr with
    | sc b n c h1 hc hn hm => rw [← hL] at hc hm ⊢; exact RV.sc (E := F) _ _ _ ((hD _).2 h1) hc hn hm
  | mp hb =>
    subst hb
    cases hr with
    | mp b g h1 hg hm => rw [← hL] at hg hm; exact RV.mp (E := F) _ g ((hD _).2 h1) hg hm
  | clo h e => subst e; exact h.cl E F x hw hr
inductive RnL (ρ : Nat → Nat) : List AV → List AV → Prop
  | nil : RnL ρ [] []
  | cons {u' u : AV} {us' us : List AV} (h : Rn ρ u' u) (k : RnL ρ us' us) : RnL ρ (u' :: us') (u :: us)
theorem RnL.rvs {ρ : Nat → Nat} {E F : Env} (hw : E.sees F) (hL : ∀ b, F.L b = E.L (ρ b)) (hD : ∀ b, F.D b ↔ E.D (ρ b)) {us' us : List AV} (h : RnL ρ us' us) : ∀ {xs : List Value}, RVs E us' xs → RVs F us xs := by
  induction h with
  | nil => intro xs hx; rw [hx.nil_inv]; exact RVs.nil F
  | cons h k ih =>
    intro xs hx
    obtain ⟨y, ys, rfl, r1, r2⟩ := hx.cons_inv
    exact RVs.cons (h.rv hw hL hD r1) (ih r2)
inductive Rn2 (ρ : Nat → Nat) : AV → AV → Prop
  | r {u' u : AV} (h : Rn ρ u' u) : Rn2 ρ u' u
  | ag {us' us : List AV} (h : RnL ρ us' us) : Rn2 ρ (.ag us') (.ag us)
def RnT2 (ρ : Nat → Nat) (T' : AT) : AT → Prop
  | [] => True
  | (i, u) :: T => (∃ u', lk T' i = some u' ∧ Rn2 ρ u' u) ∧ RnT2 ρ T' T
theorem RnT2.n {ρ : Nat → Nat} {T' : AT} : RnT2 ρ T' [] := trivial
theorem RnT2.c {ρ : Nat → Nat} {T' T : AT} {i : Nat} {u u' : AV} (h : lk T' i = some u') (hr : Rn2 ρ u' u) (ht : RnT2 ρ T' T) : RnT2 ρ T' ((i, u) :: T) := ⟨⟨u', h, hr⟩, ht⟩
theorem RnT2.get {ρ : Nat → Nat} {T' : AT} : ∀ {T : AT}, RnT2 ρ T' T → ∀ t u, lk T t = some u → ∃ u', lk T' t = some u' ∧ Rn2 ρ u' u
  | [], _, t, u, h => by cases h
  | (i, w) :: T, hr, t, u, h => by
    rw [lk_cons] at h
    split at h
    · rename_i e; subst e; injection h with h; subst h; exact hr.1
    · exact RnT2.get hr.2 t u h
section
variable {P : Program} {t : TypeId} {k : Nat} {H : AH} {T : AT} {d : Option Tmp} {ty t' : TypeId} {ps : String} {af : Array Edge} {gd : Option (Nat × Bool)}
class EI (P : Program) (t : TypeId) (n : outParam Nat) : Prop where
  hu : ∃ e, P.underlying t = some (.array n e) ∧ (∀ w, (isAgg e).run P w = .ok false w) ∧ ∀ w, (sizeOf e).run P w = .ok 1 w
end
end Go.Proofs.YtneeclacmhhblaaGreat


namespace Go.Proofs.YtneeclacmhhblaaGreat
open Go.RowKit
section
variable {H : AH}
theorem ArgL.rvsA {us cs : List AV} {U : List Nat} (ha : ArgL H us cs U) {w0 : World} {M : Mod} {Hr : AH} {E : Env} (hs : Sta w0 M Hr E) (hU : ∀ b ∈ U, hk Hr b = hk H b) {xs : Array Value} (hl : xs.size = us.length) (h : ∀ (j : Nat) c x, us[j]? = some c → xs[j]? = some x → RV E c x) {E0 : Env} (hw : E0.w = E.w) (hS : ∀ g, ¬ E0.S g) :
    xs.size = cs.length ∧ ∀ (j : Nat) c x, cs[j]? = some c → xs[j]? = some x → RV E0 c x := by
  have := ha.rvs hs hU (xs := xs.toList) ⟨by simpa using hl, fun j c x hc hx => h j c x hc (by simpa using hx)⟩ hw hS
  exact ⟨by simpa using this.1, fun j c x hc hx => this.2 j c x hc (by simpa using hx)⟩
theorem arg_ag {us cs : List AV} {U : List Nat} (ha : ArgL H us cs U) : Arg H (.ag us) (.ag cs) U := fun _ _ Hr E x hs hU hx E0 hw hS => by
  cases hx with
  | ag us xs hl h => obtain ⟨h1, h2⟩ := ha.rvsA hs hU hl h hw hS; exact .ag _ _ h1 h2
end
section
variable {P : Program} {k : Nat} {H : AH} {T : AT} {d : Option Tmp} {ty : TypeId} {ps : String} {af : Array Edge} {gd : Option (Nat × Bool)}
theorem s_mkf {f : FuncId} {ops : List Operand} {us : List AV} (hu : evs T ops us) : StepU P ⟨d, .makeFunc (.func f) #[] ops.toArray, ty, ps, af, gd⟩ k [] H T (.fn f us) [] :=
  .of_pure fun _ _ _ E a _ _ hT => by
    have hxs := evs_rvs (E := E) (a := a) hu (fun x hx => hT x (by simp [Op.operands, hx]))
    refine ⟨.func (.func f) #[] (ops.map a.eval).toArray, by simp [execOp, Instr.makeFunc], .fn _ _ _ (by simpa using hxs.1) (fun j c x hc hx => hxs.2 j c x hc (by simpa using hx))⟩
end
end Go.Proofs.YtneeclacmhhblaaGreat

