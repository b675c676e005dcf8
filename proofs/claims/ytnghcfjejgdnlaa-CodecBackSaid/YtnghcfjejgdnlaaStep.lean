/-
  The program logic's rules for single operations. No condition.
-/
import Derived.Test.YtnghcfjejgdnlaaRel
import Derived.Maps.AppendAt
import Derived.Laws.CopyOwn
import Derived.Laws.BytesString
set_option linter.unusedSimpArgs false
set_option linter.unusedVariables false
set_option linter.unusedSectionVars false
namespace Go.Proofs.Ytnghcfjejgdnlaa
open Go.RowKit

/-! ### How memory goes on -/
section
variable {w0 : World} {M : Nat → Prop} {H : AH} {E : Env}
/-- only draws were made -/
theorem Sta.tick (h : Sta w0 M H E) (w' : World) (hh : w'.heap = E.w.heap) (ho : w'.os = E.w.os) (ht : w'.tape = E.w.tape) (hp : w'.output = E.w.output) :
    Sta w0 M H { E with w := w' } ∧ E.le { E with w := w' } := by
  have hle : E.le { E with w := w' } := ⟨by simp [hh], fun g _ _ => by simp [hh], fun _ _ h => h, fun _ h => ⟨h, rfl⟩⟩
  exact ⟨⟨ho.trans h.os, ht.trans h.tape, hp.trans h.output, by simp only [hh]; exact h.size, fun g hg hM => by simp only [hh]; exact h.frame g hg hM, h.seq,
    fun b blk hb => ⟨(h.own b blk hb).1, (h.own b blk hb).2.1, (h.own b blk hb).2.2.mono hle (fun g _ => by simp only [hh])⟩, h.inj⟩, hle⟩

/-- a new own block k, at a new place or (empty) nowhere -/
def Env.new (E : Env) (k : Nat) (w' : World) (l : Loc) : Env :=
  { w := w', S := fun g => E.S g ∨ l.g = some g, L := fun b => if b = k then l else E.L b, D := fun b => E.D b ∨ b = k }
theorem Sta.new (h : Sta w0 M H E) {k : Nat} (hk0 : ¬ E.D k) (w' : World) (l : Loc) (blk : ABlk) (hsz : E.w.heap.size ≤ w'.heap.size) (hkeep : ∀ g, g < E.w.heap.size → w'.heap[g]? = E.w.heap[g]?)
    (ho : w'.os = E.w.os) (ht : w'.tape = E.w.tape) (hp : w'.output = E.w.output) (hl : ∀ g, l.g = some g → E.w.heap.size ≤ g) (hB : ∀ E' : Env, E'.w = w' → E.le E' → BOK E' l blk) :
    Sta w0 M ((k, some blk) :: H) (E.new k w' l) ∧ E.le (E.new k w' l) := by
  have hne : ∀ b, E.D b → b ≠ k := fun b hb e => hk0 (e ▸ hb)
  have hle : E.le (E.new k w' l) := ⟨hsz, fun g hg _ => hkeep g hg, fun g hg hS => hS.resolve_right (fun e => by have := hl g e; omega), fun b hb => ⟨.inl hb, by simp [Env.new, hne b hb]⟩⟩
  have hL : ∀ b blk', hk H b = some blk' → (E.new k w' l).L b = E.L b ∧ b ≠ k := fun b blk' hb => ⟨(hle.dl b (h.own b blk' hb).1).2, hne b (h.own b blk' hb).1⟩
  have hLk : (E.new k w' l).L k = l := by simp [Env.new]
  refine ⟨⟨ho.trans h.os, ht.trans h.tape, hp.trans h.output, Nat.le_trans h.size hsz, fun g hg hM => (hkeep g (Nat.lt_of_lt_of_le hg h.size)).trans (h.frame g hg hM), fun g => ⟨?_, ?_⟩, ?_, ?_⟩, hle⟩
  · rintro (hS | e)
    · obtain ⟨b, blk', hb, e⟩ := (h.seq g).1 hS
      exact ⟨b, blk', by rw [hk_cons, if_neg (Ne.symm (hL b blk' hb).2)]; exact hb, by rw [(hL b blk' hb).1]; exact e⟩
    · exact ⟨k, blk, by rw [hk_cons, if_pos rfl], by rw [hLk]; exact e⟩
  · rintro ⟨b, blk', hb, e⟩
    rw [hk_cons] at hb
    split at hb
    · rename_i e'; subst e'; rw [hLk] at e; exact .inr e
    · rw [(hL b blk' hb).1] at e; exact .inl ((h.seq g).2 ⟨b, blk', hb, e⟩)
  · intro b blk' hb
    rw [hk_cons] at hb
    split at hb
    · rename_i e'; subst e'
      injection hb with hb; subst hb
      rw [hLk]
      exact ⟨.inr rfl, fun g e => .inl (Nat.le_trans h.size (hl g e)), hB _ rfl hle⟩
    · rw [(hL b blk' hb).1]
      obtain ⟨h1, h2, h3⟩ := h.own b blk' hb
      exact ⟨.inl h1, h2, h3.mono hle (fun g e => hkeep g (h.lt hb e))⟩
  · intro b b' blk1 blk2 g hb hb' e e'
    rw [hk_cons] at hb hb'
    split at hb <;> split at hb'
    · rename_i x y; exact x.symm.trans y
    · rename_i x y; subst x; rw [hLk] at e; rw [(hL b' _ hb').1] at e'; have := h.lt hb' e'; have := hl g e; omega
    · rename_i x y; subst y; rw [hLk] at e'; rw [(hL b _ hb).1] at e; have := h.lt hb e; have := hl g e'; omega
    · rw [(hL b _ hb).1] at e; rw [(hL b' _ hb').1] at e'; exact h.inj b b' blk1 blk2 g hb hb' e e'

/-- own block b has been written -/
theorem Sta.set (h : Sta w0 M H E) {b : Nat} {blk : ABlk} {g : Nat} (hb : hk H b = some blk) (hg : (E.L b).g = some g) (w' : World) (hsz : w'.heap.size = E.w.heap.size) (hkeep : ∀ g', g' ≠ g → w'.heap[g']? = E.w.heap[g']?)
    (ho : w'.os = E.w.os) (ht : w'.tape = E.w.tape) (hp : w'.output = E.w.output) (cells : List AV)
    (hB : ∀ E' : Env, E'.w = w' → E.le E' → BOK E' (E.L b) { blk with cells := cells }) :
    Sta w0 M ((b, some { blk with cells := cells }) :: H) { E with w := w' } ∧ E.le { E with w := w' } := by
  have hSg : E.S g := (h.seq g).2 ⟨b, blk, hb, hg⟩
  have hle : E.le { E with w := w' } := ⟨by simp [hsz], fun g' _ hS => hkeep g' (fun e => hS (e ▸ hSg)), fun _ _ h => h, fun _ h => ⟨h, rfl⟩⟩
  obtain ⟨o1, o2, o3⟩ := h.own b blk hb
  have hex : ∀ b', (∃ blk', hk ((b, some { blk with cells := cells }) :: H) b' = some blk') ↔ ∃ blk', hk H b' = some blk' := by
    intro b'
    rw [hk_cons]
    split
    · rename_i e; subst e; exact ⟨fun _ => ⟨blk, hb⟩, fun _ => ⟨_, rfl⟩⟩
    · exact Iff.rfl
  refine ⟨⟨ho.trans h.os, ht.trans h.tape, hp.trans h.output, by simp only [hsz]; exact h.size, fun g' hg' hM => ?_, fun g' => ?_, ?_, ?_⟩, hle⟩
  · refine (hkeep g' (fun e => ?_)).trans (h.frame g' hg' hM)
    subst e
    rcases o2 g' hg with h1 | h1
    · omega
    · exact hM h1
  · show E.S g' ↔ _
    rw [h.seq g']
    constructor
    · rintro ⟨b', blk', hb', e⟩
      obtain ⟨blk2, h2⟩ := (hex b').2 ⟨blk', hb'⟩
      exact ⟨b', blk2, h2, e⟩
    · rintro ⟨b', blk', hb', e⟩
      obtain ⟨blk2, h2⟩ := (hex b').1 ⟨blk', hb'⟩
      exact ⟨b', blk2, h2, e⟩
  · intro b' blk' hb'
    rw [hk_cons] at hb'
    split at hb'
    · rename_i e; subst e
      injection hb' with hb'; subst hb'
      exact ⟨o1, o2, hB _ rfl hle⟩
    · rename_i ne
      obtain ⟨p1, p2, p3⟩ := h.own b' blk' hb'
      exact ⟨p1, p2, p3.mono hle (fun g' e => hkeep g' (fun e' => ne (h.inj b b' blk blk' g hb hb' hg (e' ▸ e))))⟩
  · intro b1 b2 k1 k2 g' h1 h2 e1 e2
    obtain ⟨k1', h1'⟩ := (hex b1).1 ⟨k1, h1⟩
    obtain ⟨k2', h2'⟩ := (hex b2).1 ⟨k2, h2⟩
    exact h.inj b1 b2 k1' k2' g' h1' h2' e1 e2

/-- own block b has become own block k, where it lay or at a new place -/
theorem Sta.move (h : Sta w0 M H E) {b k : Nat} {blk : ABlk} (hb : hk H b = some blk) (hk0 : ¬ E.D k) (w' : World) (l : Loc) (blk' : ABlk) (hsz : E.w.heap.size ≤ w'.heap.size)
    (hkeep : ∀ g, g < E.w.heap.size → (E.L b).g ≠ some g → w'.heap[g]? = E.w.heap[g]?)
    (ho : w'.os = E.w.os) (ht : w'.tape = E.w.tape) (hp : w'.output = E.w.output) (hl : ∀ g, l.g = some g → (E.L b).g = some g ∨ E.w.heap.size ≤ g) (hB : ∀ E' : Env, E'.w = w' → E.le E' → BOK E' l blk') :
    ∃ E' : Env, E'.w = w' ∧ E'.L k = l ∧ E'.D k ∧ Sta w0 M ((k, some blk') :: (b, none) :: H) E' ∧ E.le E' ∧ ∀ x, E'.D x → E.D x ∨ x = k := by
  have hne : ∀ x, E.D x → x ≠ k := fun x hx e => hk0 (e ▸ hx)
  obtain ⟨o1, o2, o3⟩ := h.own b blk hb
  let E' : Env := { w := w', S := fun g => (∃ b' blk', b' ≠ b ∧ hk H b' = some blk' ∧ (E.L b').g = some g) ∨ l.g = some g, L := fun x => if x = k then l else E.L x, D := fun x => E.D x ∨ x = k }
  have hle : E.le E' := by
    refine ⟨hsz, fun g hg hS => hkeep g hg (fun e => hS ((h.seq g).2 ⟨b, blk, hb, e⟩)), fun g hg hS => ?_, fun x hx => ⟨.inl hx, by simp [E', hne x hx]⟩⟩
    rcases hS with ⟨b', blk2, _, h2, e⟩ | e
    · exact (h.seq g).2 ⟨b', blk2, h2, e⟩
    · rcases hl g e with e' | e'
      · exact (h.seq g).2 ⟨b, blk, hb, e'⟩
      · omega
  have hL : ∀ x blk2, hk H x = some blk2 → E'.L x = E.L x ∧ x ≠ k := fun x blk2 hx => ⟨(hle.dl x (h.own x blk2 hx).1).2, hne x (h.own x blk2 hx).1⟩
  have hLk : E'.L k = l := by simp [E']
  have hH : ∀ x blk2, hk ((k, some blk') :: (b, none) :: H) x = some blk2 → (x = k ∧ blk2 = blk') ∨ (x ≠ k ∧ x ≠ b ∧ hk H x = some blk2) := by
    intro x blk2 hx
    rw [hk_cons, hk_cons] at hx
    split at hx
    · rename_i e; injection hx with hx; exact .inl ⟨e.symm, hx.symm⟩
    · split at hx
      · cases hx
      · rename_i e1 e2; exact .inr ⟨Ne.symm e1, Ne.symm e2, hx⟩
  refine ⟨E', rfl, hLk, .inr rfl, ⟨ho.trans h.os, ht.trans h.tape, hp.trans h.output, Nat.le_trans h.size hsz, fun g hg hM => ?_, fun g => ⟨?_, ?_⟩, ?_, ?_⟩, hle, fun x hx => hx⟩
  · refine (hkeep g (Nat.lt_of_lt_of_le hg h.size) (fun e => ?_)).trans (h.frame g hg hM)
    rcases o2 g e with h1 | h1
    · omega
    · exact hM h1
  · rintro (⟨b', blk2, hb', h2, e⟩ | e)
    · exact ⟨b', blk2, by rw [hk_cons, hk_cons, if_neg (Ne.symm (hL b' blk2 h2).2), if_neg (Ne.symm hb')]; exact h2, by rw [(hL b' blk2 h2).1]; exact e⟩
    · exact ⟨k, blk', by rw [hk_cons, if_pos rfl], by rw [hLk]; exact e⟩
  · rintro ⟨x, blk2, hx, e⟩
    rcases hH x blk2 hx with ⟨rfl, rfl⟩ | ⟨h1, h2, h3⟩
    · rw [hLk] at e; exact .inr e
    · rw [(hL x blk2 h3).1] at e; exact .inl ⟨x, blk2, h2, h3, e⟩
  · intro x blk2 hx
    rcases hH x blk2 hx with ⟨rfl, rfl⟩ | ⟨h1, h2, h3⟩
    · rw [hLk]
      refine ⟨.inr rfl, fun g e => ?_, hB E' rfl hle⟩
      rcases hl g e with e' | e'
      · exact o2 g e'
      · exact .inl (Nat.le_trans h.size e')
    · rw [(hL x blk2 h3).1]
      obtain ⟨p1, p2, p3⟩ := h.own x blk2 h3
      exact ⟨.inl p1, p2, p3.mono hle (fun g e => hkeep g (h.lt h3 e) (fun e' => h2 (h.inj x b blk2 blk g h3 hb e e')))⟩
  · intro x y k1 k2 g hx hy ex ey
    rcases hH x k1 hx with ⟨rfl, rfl⟩ | ⟨h1, h2, h3⟩ <;> rcases hH y k2 hy with ⟨rfl, rfl⟩ | ⟨h1', h2', h3'⟩
    · rfl
    · rw [hLk] at ex; rw [(hL y k2 h3').1] at ey
      rcases hl g ex with e' | e'
      · exact absurd (h.inj y b k2 blk g h3' hb ey e') h2'
      · have := h.lt h3' ey; omega
    · rw [hLk] at ey; rw [(hL x k1 h3).1] at ex
      rcases hl g ey with e' | e'
      · exact absurd (h.inj x b k1 blk g h3 hb ex e') h2
      · have := h.lt h3 ex; omega
    · rw [(hL x k1 h3).1] at ex; rw [(hL y k2 h3').1] at ey; exact h.inj x y k1 k2 g h3 h3' ex ey
end
end Go.Proofs.Ytnghcfjejgdnlaa
