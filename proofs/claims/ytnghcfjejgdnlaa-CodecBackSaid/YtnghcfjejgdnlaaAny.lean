/-
  The program logic's rule for a region that draws its order: the steps in the text's order, and a check of what hangs on what. No condition.
-/
import Derived.Test.YtnghcfjejgdnlaaGo
set_option linter.unusedSimpArgs false
set_option linter.unusedVariables false
set_option linter.unusedSectionVars false
namespace Go.Proofs.Ytnghcfjejgdnlaa
open Go.RowKit

/-- what comes ahead of each operation, as bits -/
def befs : List Oper → Array Nat → Array Nat
  | [], acc => acc
  | o :: os, acc => befs os (acc.push (o.after.toList.foldl (fun s e => if Region.binds .any e then s ||| 2 ^ e.on ||| acc.getD e.on 0 else s) 0))
/-- a set of operations that holds what its members hang on -/
def Down (ops : List Oper) (S : Nat → Prop) : Prop := ∀ i o e, ops[i]? = some o → e ∈ o.after → Region.binds .any e = true → S i → S e.on
theorem befs_fold {ops : List Oper} {S : Nat → Prop} {acc : Array Nat} {i j : Nat} (hacc : ∀ i j, (acc.getD i 0).testBit j = true → S i → S j) :
    ∀ (l : List Edge) (s : Nat), (∀ e ∈ l, Region.binds .any e = true → S i → S e.on) → (s.testBit j = true → S i → S j) →
      (l.foldl (fun s e => if Region.binds .any e then s ||| 2 ^ e.on ||| acc.getD e.on 0 else s) s).testBit j = true → S i → S j
  | [], s, _, hs, h, hi => hs h hi
  | e :: l, s, hl, hs, h, hi => by
    refine befs_fold (ops := ops) hacc l _ (fun e' he' => hl e' (by simp [he'])) ?_ h hi
    intro hb hi
    dsimp only at hb
    split at hb
    · rename_i hbe
      simp only [Nat.testBit_or, Bool.or_eq_true, Nat.testBit_two_pow, decide_eq_true_eq] at hb
      rcases hb with (hb | hb) | hb
      · exact hs hb hi
      · rw [← hb]; exact hl e (by simp) hbe hi
      · exact hacc _ _ hb (hl e (by simp) hbe hi)
    · exact hs hb hi
theorem befs_down {ops : List Oper} {S : Nat → Prop} (hS : Down ops S) : ∀ (rest : List Oper) (acc : Array Nat), ops.drop acc.size = rest → (∀ i j, (acc.getD i 0).testBit j = true → S i → S j) →
    ∀ i j, ((befs rest acc).getD i 0).testBit j = true → S i → S j
  | [], acc, _, h => h
  | o :: os, acc, he, h => by
    have ho : ops[acc.size]? = some o := by have := congrArg (fun l => l[0]?) he; simpa using this
    have hr : ops.drop (acc.size + 1) = os := by rw [← List.drop_drop, he]; rfl
    refine befs_down hS os _ (by simpa using hr) ?_
    intro i j hb hi
    by_cases hlt : i < acc.size
    · exact h i j (by simpa [Array.getElem?_push, Nat.ne_of_lt hlt] using hb) hi
    · by_cases he' : i = acc.size
      · subst he'
        refine befs_fold (ops := ops) h o.after.toList 0 (fun e he hb hi => hS _ o e ho (by simpa using he) hb hi) (fun h => by simp at h) ?_ hi
        simpa using hb
      · have : (acc.push (o.after.toList.foldl (fun s e => if Region.binds .any e then s ||| 2 ^ e.on ||| acc.getD e.on 0 else s) 0)).getD i 0 = 0 := by
          rw [Array.getD_eq_getD_getElem?, Array.getElem?_eq_none (by simp; omega)]; rfl
        rw [this] at hb
        simp at hb
def ordB (B : Array Nat) (i j : Nat) : Bool := (B.getD i 0).testBit j || (B.getD j 0).testBit i
/-- may these two steps be told in any order that their hangings leave? -/
def pairOk (ops : List Oper) (B : Array Nat) (i j : Nat) (o p : Oper) (s r : Stp) : Bool :=
  ordB B i j ||
  ((match p.dst with | some d => !(o.looksAt ops.toArray).contains d && o.dst != some d | none => true) &&
   (match o.dst with | some d => !(p.looksAt ops.toArray).contains d | none => true) &&
   (s.U ++ s.Hn.map (·.1)).all (fun b => !(r.Hn.map (·.1)).contains b) && (r.U ++ r.Hn.map (·.1)).all (fun b => !(s.Hn.map (·.1)).contains b))
def okReg (k0 : Nat) (ops : List Oper) (tr : List Stp) : Bool :=
  let B := befs ops #[]
  let l := (ops.zip tr).zipIdx
  (l.all fun x => x.1.1.after.all fun e => !Region.binds .any e || Nat.blt e.on x.2) &&
  (l.all fun x => l.all fun y => Nat.beq x.2 y.2 || pairOk ops B x.2 y.2 x.1.1 y.1.1 x.1.2 y.1.2)

/-! ### Updates, some of them made -/
section
variable {α : Type}
def gk : List (Nat × α) → Nat → Option α
  | [], _ => none
  | (j, v) :: l, i => if j = i then some v else gk l i
def gsum : (Nat → Bool) → List (List (Nat × α)) → List (Nat × α) → List (Nat × α)
  | _, [], B => B
  | L, u :: us, B => gsum (fun j => L (j + 1)) us (if L 0 = true then u ++ B else B)
theorem gk_app (u B : List (Nat × α)) (b : Nat) : gk (u ++ B) b = match gk u b with | some x => some x | none => gk B b := by
  induction u with
  | nil => rfl
  | cons p u ih =>
    obtain ⟨j, v⟩ := p
    simp only [List.cons_append, gk]
    split
    · rfl
    · exact ih
theorem gk_none {u : List (Nat × α)} {b : Nat} : gk u b = none ↔ b ∉ u.map (·.1) := by
  induction u with
  | nil => simp [gk]
  | cons p u ih =>
    obtain ⟨j, v⟩ := p
    simp only [gk, List.map_cons, List.mem_cons, not_or]
    split
    · rename_i e; subst e; simp
    · rename_i e; rw [ih]; exact ⟨fun h => ⟨fun e' => e e'.symm, h⟩, fun h => h.2⟩
theorem gsum_false (us : List (List (Nat × α))) (B : List (Nat × α)) : gsum (fun _ => false) us B = B := by
  induction us generalizing B with
  | nil => rfl
  | cons u us ih => simp only [gsum, Bool.false_eq_true, if_false]; exact ih B
theorem gsum_same {L L' : Nat → Bool} {us : List (List (Nat × α))} {B : List (Nat × α)} (h : ∀ j, j < us.length → L j = L' j) : gsum L us B = gsum L' us B := by
  induction us generalizing L L' B with
  | nil => rfl
  | cons u us ih =>
    simp only [gsum]
    rw [h 0 (by simp)]
    exact ih (fun j hj => h (j + 1) (by simpa using hj))
theorem gsum_congr {b : Nat} {L L' : Nat → Bool} {us : List (List (Nat × α))} {B B' : List (Nat × α)} (h : ∀ (j : Nat) u, us[j]? = some u → gk u b ≠ none → L j = L' j) (hB : gk B b = gk B' b) : gk (gsum L us B) b = gk (gsum L' us B') b := by
  induction us generalizing L L' B B' with
  | nil => exact hB
  | cons u us ih =>
    simp only [gsum]
    refine ih (fun j r hr hn => h (j + 1) r (by simpa using hr) hn) ?_
    by_cases hu : gk u b = none
    · have e : ∀ (c : Bool) (X : List (Nat × α)), gk (if c = true then u ++ X else X) b = gk X b := fun c X => by
        split
        · rw [gk_app, hu]
        · rfl
      rw [e, e]; exact hB
    · rw [h 0 u rfl hu]
      split
      · rw [gk_app, gk_app]; split
        · rfl
        · exact hB
      · exact hB
theorem gsum_last {b i : Nat} {x : α} {L : Nat → Bool} {us : List (List (Nat × α))} {B u : List (Nat × α)} (hi : us[i]? = some u) (hL : L i = true) (hx : gk u b = some x) (hl : ∀ (j : Nat) r, i < j → us[j]? = some r → L j = true → gk r b = none) :
    gk (gsum L us B) b = some x := by
  induction us generalizing L B i with
  | nil => simp at hi
  | cons r us ih =>
    simp only [gsum]
    cases i with
    | zero =>
      simp at hi
      subst hi
      rw [hL, if_pos rfl, gsum_congr (L' := fun _ => false) (B' := r ++ B) (fun j q hq hn => ?_) rfl, gsum_false, gk_app, hx]
      cases hLj : L (j + 1) with
      | false => rfl
      | true => exact absurd (hl (j + 1) q (by omega) (by simpa using hq) hLj) hn
    | succ i => exact ih (L := fun j => L (j + 1)) (by simpa using hi) hL (fun j q hj hq hLj => hl (j + 1) q (by omega) (by simpa using hq) hLj)
end
theorem hk_gk (H : AH) (b : Nat) : hk H b = (gk H b).join := by
  induction H with
  | nil => rfl
  | cons p H ih =>
    obtain ⟨j, v⟩ := p
    rw [hk_cons, gk]
    split
    · rfl
    · exact ih
theorem lk_gk (T : AT) (b : Nat) : lk T b = gk T b := by
  induction T with
  | nil => rfl
  | cons p H ih =>
    obtain ⟨j, v⟩ := p
    rw [lk_cons, gk]
    split
    · rfl
    · exact ih
def tl (d : Option Tmp) (v : AV) : AT := match d with | some d => [(d, v)] | none => []
theorem putT_tl (T : AT) (d : Option Tmp) (v : AV) : putT T d v = tl d v ++ T := by cases d <;> rfl
def ut : List Oper → List Stp → List AT
  | o :: os, s :: tr => tl o.dst s.v :: ut os tr
  | _, _ => []
theorem ut_get {ops : List Oper} {tr : List Stp} {i : Nat} {o : Oper} {s : Stp} (ho : ops[i]? = some o) (hs : tr[i]? = some s) : (ut ops tr)[i]? = some (tl o.dst s.v) := by
  induction ops generalizing tr i with
  | nil => simp at ho
  | cons p ops ih =>
    cases tr with
    | nil => simp at hs
    | cons r tr =>
      cases i with
      | zero => simp at ho hs; subst ho hs; rfl
      | succ i => simp only [ut, List.getElem?_cons_succ]; exact ih (by simpa using ho) (by simpa using hs)
theorem ut_length {ops : List Oper} {tr : List Stp} (h : tr.length = ops.length) : (ut ops tr).length = ops.length := by
  induction ops generalizing tr with
  | nil => cases tr <;> simp_all [ut]
  | cons p ops ih =>
    cases tr with
    | nil => simp at h
    | cons r tr => simp only [ut, List.length_cons]; rw [ih (by simpa using h)]

section
variable {P : Program}
/-- what a trace tells of its i-th operation -/
def Inf (P : Program) (ops : List Oper) (k i : Nat) (o : Oper) (s : Stp) (Hi : AH) (Ti : AT) : Prop :=
  (Wnt ops Ti o true ∧ StepU P o (k + 8 * i) s.U Hi Ti s.v s.Hn) ∨ (Wnt ops Ti o false ∧ s = ⟨[], .v undef, []⟩)
theorem Trb.info {ops rest : List Oper} {k kE : Nat} {H H' : AH} {T T' : AT} {tr : List Stp} (h : Trb P ops k rest H T tr H' T' kE) :
    tr.length = rest.length ∧ kE = k + 8 * rest.length ∧ H' = gsum (fun _ => true) (tr.map (·.Hn)) H ∧ T' = gsum (fun _ => true) (ut rest tr) T ∧
      ∀ (i : Nat) o s, rest[i]? = some o → tr[i]? = some s → Inf P ops k i o s (gsum (fun j => decide (j < i)) (tr.map (·.Hn)) H) (gsum (fun j => decide (j < i)) (ut rest tr) T) := by
  induction h with
  | done k H T => exact ⟨rfl, rfl, rfl, rfl, fun i o s ho => by simp at ho⟩
  | @step k k' kE o rest H T U v Hn tr H' T' hk hg hs _ ih =>
    obtain ⟨h1, h2, h3, h4, h5⟩ := ih
    have hk' : k' = k + 8 := by omega
    subst hk'
    refine ⟨by simp [h1], by simp only [List.length_cons]; omega, by simp only [List.map_cons, gsum, if_true]; exact h3, by simp only [ut, gsum, if_true, ← putT_tl]; exact h4, fun i p s hp hs' => ?_⟩
    cases i with
    | zero =>
      simp at hp hs'
      subst hp hs'
      have e : (fun j => decide (j < 0)) = fun _ : Nat => false := by funext j; simp
      rw [e, gsum_false, gsum_false]
      exact .inl ⟨hg, by simpa using hs⟩
    | succ i =>
      have := h5 i p s (by simpa using hp) (by simpa using hs')
      have e : (fun j => decide (j + 1 < i + 1)) = fun j : Nat => decide (j < i) := by funext j; simp
      simp only [List.map_cons, ut, gsum, Nat.zero_lt_succ, decide_true, if_true, e, ← putT_tl]
      have e2 : k + 8 + 8 * i = k + 8 * (i + 1) := by omega
      unfold Inf at this ⊢
      rw [e2] at this
      exact this
  | @skip k k' kE o rest H T tr H' T' hk hg _ ih =>
    obtain ⟨h1, h2, h3, h4, h5⟩ := ih
    have hk' : k' = k + 8 := by omega
    subst hk'
    refine ⟨by simp [h1], by simp only [List.length_cons]; omega, by simp only [List.map_cons, gsum, if_true, List.nil_append]; exact h3, by simp only [ut, gsum, if_true, ← putT_tl]; exact h4, fun i p s hp hs' => ?_⟩
    cases i with
    | zero =>
      simp at hp hs'
      subst hp hs'
      have e : (fun j => decide (j < 0)) = fun _ : Nat => false := by funext j; simp
      rw [e, gsum_false, gsum_false]
      exact .inr ⟨hg, rfl⟩
    | succ i =>
      have := h5 i p s (by simpa using hp) (by simpa using hs')
      have e : (fun j => decide (j + 1 < i + 1)) = fun j : Nat => decide (j < i) := by funext j; simp
      simp only [List.map_cons, ut, gsum, Nat.zero_lt_succ, decide_true, if_true, e, ← putT_tl, List.nil_append]
      have e2 : k + 8 + 8 * i = k + 8 * (i + 1) := by omega
      unfold Inf at this ⊢
      rw [e2] at this
      exact this
theorem okReg_pair {k0 : Nat} {ops : List Oper} {tr : List Stp} (h : okReg k0 ops tr = true) {i j : Nat} {o p : Oper} {s r : Stp} (ho : ops[i]? = some o) (hs : tr[i]? = some s) (hp : ops[j]? = some p) (hr : tr[j]? = some r) (hne : i ≠ j) :
    pairOk ops (befs ops #[]) i j o p s r = true ∧ ∀ e ∈ o.after, Region.binds .any e = true → e.on < i := by
  simp only [okReg, Bool.and_eq_true] at h
  obtain ⟨h1, h2⟩ := h
  have mem : ∀ (i : Nat) (o : Oper) (s : Stp), ops[i]? = some o → tr[i]? = some s → ((o, s), i) ∈ (ops.zip tr).zipIdx := fun i o s ho hs => by
    rw [List.mem_zipIdx_iff_getElem?]
    simp [List.getElem?_zip_eq_some, ho, hs]
  have a1 := List.all_eq_true.1 (List.all_eq_true.1 h2 _ (mem i o s ho hs)) _ (mem j p r hp hr)
  have a2 := List.all_eq_true.1 h1 _ (mem i o s ho hs)
  simp only [Bool.or_eq_true] at a1
  refine ⟨a1.resolve_left (fun e => hne (Nat.eq_of_beq_eq_true e)), fun e he hb => ?_⟩
  have := Array.all_eq_true_iff_forall_mem.1 a2 e he
  simp only [hb, Bool.not_true, Bool.false_or] at this
  simpa [Nat.blt_eq] using this
end
end Go.Proofs.Ytnghcfjejgdnlaa
