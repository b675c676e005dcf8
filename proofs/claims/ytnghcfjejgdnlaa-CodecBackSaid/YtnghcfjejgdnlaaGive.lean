/-
  The program logic: own blocks given up; cells told anew; further rules. No condition.
-/
import Derived.Test.YtnghcfjejgdnlaaCap
import Derived.Test.YtnghcfjejgdnlaaBit
set_option linter.unusedSimpArgs false
set_option linter.unusedVariables false
set_option linter.unusedSectionVars false
namespace Go.Proofs.Ytnghcfjejgdnlaa
open Go.RowKit
theorem Le.trans {k k' k'' : Nat} {H H' H'' : AH} {T T' T'' : AT} (h : Le k H T k' H' T') (g : Le k' H' T' k'' H'' T'') : Le k H T k'' H'' T'' := fun n w0 M a w hs => g n w0 M a w (h n w0 M a w hs)
/-- own block b is nobody's any more -/
theorem Sta.giveUp {w0 : World} {M : Nat → Prop} {H : AH} {E : Env} (h : Sta w0 M H E) (b : Nat) : ∃ E' : Env, E'.w = E.w ∧ E'.L = E.L ∧ E'.D = E.D ∧ E.le E' ∧ Sta w0 M ((b, none) :: H) E' ∧ ∀ blk g, hk H b = some blk → (E.L b).g = some g → ¬ E'.S g := by
  have hne : ∀ b' blk', hk ((b, none) :: H) b' = some blk' → b ≠ b' ∧ hk H b' = some blk' := by
    intro b' blk' hb
    rw [hk_cons] at hb
    split at hb
    · cases hb
    · rename_i e; exact ⟨e, hb⟩
  let E' : Env := { E with S := fun g => ∃ b' blk', hk ((b, none) :: H) b' = some blk' ∧ (E.L b').g = some g }
  have hle : E.le E' := ⟨Nat.le_refl _, fun _ _ _ => rfl, fun g _ ⟨b', blk', hb, e⟩ => (h.seq g).2 ⟨b', blk', (hne _ _ hb).2, e⟩, fun _ h => ⟨h, rfl⟩⟩
  refine ⟨E', rfl, rfl, rfl, hle, ⟨h.os, h.tape, h.output, h.size, h.frame, fun g => Iff.rfl, fun b' blk' hb => ?_, fun b1 b2 k1 k2 g h1 h2 e1 e2 => h.inj b1 b2 k1 k2 g (hne _ _ h1).2 (hne _ _ h2).2 e1 e2⟩, ?_⟩
  · obtain ⟨o1, o2, o3⟩ := h.own b' blk' (hne _ _ hb).2
    exact ⟨o1, o2, o3.mono hle (fun g _ => rfl)⟩
  · rintro blk g hb hg ⟨b', blk', hb', e⟩
    exact (hne _ _ hb').1 (h.inj b b' blk blk' g hb (hne _ _ hb').2 hg e)
/-- an own slice told as memory that nobody changes -/
theorem Le.give {k : Nat} {H : AH} {T : AT} {i b n n' : Nat} {blk : ABlk} {cs : List AV} (h : lk T i = some (.sl b n)) (hb : hk H b = some blk) (hn : n = n') (hc : blk.cells = cs) : Le k H T k ((b, none) :: H) ((i, .ex n' false cs) :: T) := by
  subst hn hc
  rintro m w0 M a w ⟨E, e1, e2, e3, e4, e5, e6⟩
  obtain ⟨E', w1, w2, w3, hle, hs, hg⟩ := e2.giveUp b
  refine ⟨E', w1.trans e1, hs, fun b' hb' => e3 b' (by rw [← w3]; exact hb'), fun t u hu => ?_, e5, e6⟩
  rw [lk_cons] at hu
  split at hu
  · rename_i ei; subst ei; injection hu with hu; subst hu
    obtain ⟨x, hx, hr⟩ := e4 i _ h
    refine ⟨x, hx, ?_⟩
    cases hr with
    | sl b n hD hn =>
      cases eg : (E.L b).g with
      | none => rw [((e2.own b blk hb).2.2.none eg).1]; exact .ex0 _ _ _ _ hn (fun h => by cases h)
      | some g =>
        obtain ⟨xs, h1, h2⟩ := own_read e2 hb eg
        have h3 := h1.mono hle
        exact .ex _ _ _ g 0 _ xs hn (fun h => by cases h) (by rw [w1]; exact e2.lt hb eg) (hg blk g hb eg) h3.1 (fun j y hy => by rw [w1, Nat.zero_add]; exact h2 j y hy) h3.2
  · obtain ⟨x, hx, hr⟩ := e4 t u hu; exact ⟨x, hx, hr.mono hle⟩
section
variable {P : Program} {t e : TypeId} {size bytes : Nat} {z : Value} {k : Nat} {H : AH} {T : AT} {d : Option Tmp} {ty t' : TypeId} {ps : String} {af : Array Edge} {gd : Option (Nat × Bool)}
theorem s_ixeD {x y : Operand} {n i : Nat} {f : Bool} {cs ds : List AV} {kk : IntKind} [hS : SI P t e size bytes z] (hx : ev T x = some (.ex n f cs)) (hy : ev T y = some (.v (.int kk (i : Int)))) (hi : i < n) (hne : cs ≠ []) (hd : cs.drop (i * size) = ds) :
    StepU P ⟨d, .indexAddr t x y, ty, ps, af, gd⟩ k [] H T (.ep ds) [] := by subst hd; exact s_ixe hx hy hi hne
def sub6 (x y : UInt64) : UInt64 := x - y
theorem s_subU {x y : Operand} {a b : UInt64} (hx : ev T x = some (.v (.int .u64 (a.toNat : Int)))) (hy : ev T y = some (.v (.int .u64 (b.toNat : Int)))) : StepU P ⟨d, .binOp .sub t x y t', ty, ps, af, gd⟩ k [] H T (.v (.int .u64 ((sub6 a b).toNat : Int))) [] :=
  s_bin hx hy fun w => by
    have ha := a.toNat_lt
    have hb := b.toNat_lt
    have e : ((sub6 a b).toNat : Int) = ((a.toNat : Int) - (b.toNat : Int)) % 18446744073709551616 := by
      rw [sub6, UInt64.toNat_sub]; omega
    rw [e]
    simp only [guard_int, binOp, Op.intArith, Sem.run_bind, Result.andThen_ok, ne_eq, not_true_eq_false, if_false, Sem.run_pure]
    show Result.ok (Value.int IntKind.u64 (IntKind.u64.wrap ((a.toNat : Int) - (b.toNat : Int)))) w = _
    rw [IntKind.wrap_u64]
end
end Go.Proofs.Ytnghcfjejgdnlaa
