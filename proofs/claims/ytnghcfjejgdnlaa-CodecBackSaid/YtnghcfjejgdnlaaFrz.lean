/-
  The program logic: bytes of a constant string, remainders, contracts at other arguments. No condition.
-/
import Derived.Test.YtnghcfjejgdnlaaJn
set_option linter.unusedSimpArgs false
set_option linter.unusedVariables false
set_option linter.unusedSectionVars false
namespace Go.Proofs.Ytnghcfjejgdnlaa
open Go.RowKit

/-- own block b is given up; it may have been marked -/
theorem Sta.drop {w0 : World} {M : Nat → Prop} {H : AH} {E : Env} (h : Sta w0 M H E) {b : Nat} {blk : ABlk} {g : Nat} (hb : hk H b = some blk) (hg : (E.L b).g = some g) (w' : World) (hsz : w'.heap.size = E.w.heap.size) (hkeep : ∀ g', g' ≠ g → w'.heap[g']? = E.w.heap[g']?)
    (ho : w'.os = E.w.os) (ht : w'.tape = E.w.tape) (hp : w'.output = E.w.output) :
    Sta w0 M ((b, none) :: H) { E with w := w', S := fun g' => E.S g' ∧ g' ≠ g } ∧ E.le { E with w := w', S := fun g' => E.S g' ∧ g' ≠ g } := by
  have hSg : E.S g := (h.seq g).2 ⟨b, blk, hb, hg⟩
  have hle : E.le { E with w := w', S := fun g' => E.S g' ∧ g' ≠ g } := ⟨by simp [hsz], fun g' _ hS => hkeep g' (fun e => hS (e ▸ hSg)), fun _ _ h => h.1, fun _ h => ⟨h, rfl⟩⟩
  obtain ⟨o1, o2, o3⟩ := h.own b blk hb
  have hno : ∀ b' blk', hk ((b, none) :: H) b' = some blk' → b' ≠ b ∧ hk H b' = some blk' := by
    intro b' blk' hb'
    rw [hk_cons] at hb'
    split at hb'
    · cases hb'
    · rename_i e; exact ⟨fun e' => e e'.symm, hb'⟩
  refine ⟨⟨ho.trans h.os, ht.trans h.tape, hp.trans h.output, by simp only [hsz]; exact h.size, fun g' hg' hM => ?_, fun g' => ⟨?_, ?_⟩, ?_, ?_⟩, hle⟩
  · refine (hkeep g' (fun e => ?_)).trans (h.frame g' hg' hM)
    subst e
    rcases o2 g' hg with h' | h'
    · omega
    · exact hM h'
  · rintro ⟨hS, hne⟩
    obtain ⟨b', blk', hb', e⟩ := (h.seq g').1 hS
    refine ⟨b', blk', ?_, e⟩
    rw [hk_cons, if_neg (fun q => hne ?_)]
    · exact hb'
    · subst q; rw [hg] at e; injection e with e; exact e.symm
  · rintro ⟨b', blk', hb', e⟩
    obtain ⟨hne, hb''⟩ := hno b' blk' hb'
    exact ⟨(h.seq g').2 ⟨b', blk', hb'', e⟩, fun q => hne (h.inj b' b blk' blk g' hb'' hb e (by rw [hg, q]))⟩
  · intro b' blk' hb'
    obtain ⟨hne, hb''⟩ := hno b' blk' hb'
    obtain ⟨p1, p2, p3⟩ := h.own b' blk' hb''
    exact ⟨p1, p2, p3.mono hle (fun g' e => hkeep g' (fun q => hne (h.inj b' b blk' blk g' hb'' hb e (by rw [hg, q]))))⟩
  · intro b1 b2 k1 k2 g' h1 h2 e1 e2
    exact h.inj b1 b2 k1 k2 g' (hno b1 k1 h1).2 (hno b2 k2 h2).2 e1 e2
section
variable {P : Program} {k : Nat} {H : AH} {T : AT} {d : Option Tmp} {ty t t' : TypeId} {ps : String} {af : Array Edge} {gd : Option (Nat × Bool)} {x y : Operand}
theorem cell_of_cells {w w' : World} {g o : Nat} {cs : Array Value} {e : TypeId} {p q : Nat × Nat} (h : w.heap[g]? = some (.cells cs e p)) (h' : w'.heap[g]? = some (.cells cs e q)) : w'.cell? ⟨g, o, none⟩ = w.cell? ⟨g, o, none⟩ := by
  simp [World.cell?, h, h']
/-- the bytes of a constant string: from here on nobody changes them -/
theorem s_frz {b n bytes : Nat} {e : TypeId} {z : Value} {c : AV} {cs : List AV} {sz : Nat} [hS : SI P t e 1 bytes z] [he : UI P e (.int .u8)] (hx : ev T x = some (.sl b n)) (hb : hk H b = some ⟨c :: cs, e, sz⟩) :
    StepU P ⟨d, .convert t t x, ty, ps, af, gd⟩ k [b] H T (.ex n false (c :: cs)) [(b, none)] := by
  refine ⟨fun w0 M Hr E a hs hU hk0 hT K Q hK => ?_⟩
  have hv := hT x (by simp [Op.operands]) _ hx
  have hb' := (hU b (by simp)).trans hb
  generalize hxe : a.eval x = xv at hv
  cases hv with
  | sl b n hD hn =>
    obtain ⟨o1, o2, o3⟩ := hs.own b _ hb'
    cases eg : (E.L b).g with
    | none => have := (o3.none eg).1; cases this
    | some g =>
      obtain ⟨cc, c1, c2, c3, c4, c5⟩ := o3.at eg
      obtain ⟨xs, h1, h2⟩ := own_read hs hb' eg
      obtain ⟨w', hw', hg', hne, hsz', hos⟩ : ∃ w', E.w.freeze ⟨g, cc.size, none⟩ 1 = w' ∧ w'.heap[g]? = some (.cells cc e (cc.size, cc.size + 1)) ∧ (∀ g', g' ≠ g → w'.heap[g']? = E.w.heap[g']?) ∧ w'.heap.size = E.w.heap.size ∧ w'.os = E.w.os ∧ w'.tape = E.w.tape ∧ w'.output = E.w.output := by
        refine ⟨_, rfl, ?_, ?_, ?_, ?_, ?_, ?_⟩
        · simp [World.freeze, Array.getElem?_modify, c1]
        · intro g' hg; simp [World.freeze, Array.getElem?_modify, Ne.symm hg]
        · simp [World.freeze]
        · simp [World.freeze]
        · simp [World.freeze]
        · simp [World.freeze]
      obtain ⟨k1, k2⟩ := hs.drop hb' eg w' hsz' hne hos.1 hos.2.1 hos.2.2
      have hsh : E.w.shape? g = some (e, cc.size) := by unfold World.shape?; rw [c1]
      have hrun : (execOp a.eval ⟨d, .convert t t x, ty, ps, af, gd⟩).run P E.w = .ok (.value (.slice (some ⟨g, 0, none⟩) n (E.L b).c)) w' := by
        simp only [execOp, hxe, eg, Option.map_some]
        simp [convert, run_underlying hS.under, run_underlying he.u, markStringish, hsh]
        exact hw'
      unfold Oper.wp
      rw [hrun]
      simp only [Oper.upon]
      refine hK _ _ k1 k2 (fun b hb => .inl hb) ?_
      have h3 := h1.mono k2
      exact .ex _ _ _ g 0 _ xs hn (fun h => by cases h) (by show g < w'.heap.size; rw [hsz']; exact hs.lt hb' eg) (fun h => h.2 rfl) h3.1 (fun j y hy => by rw [Nat.zero_add]; exact (cell_of_cells c1 hg').trans (h2 j y hy)) h3.2
/-- s[l:h:m] of memory that nobody changes -/
theorem s_slEM {lo hi : Option Operand} {mx : Operand} {n l h m size bytes : Nat} {f : Bool} {cs : List AV} {e : TypeId} {z : Value} [hS : SI P t e size bytes z] (hx : ev T x = some (.ex n f cs)) (hlo : Bnd T lo l 0) (hhi : Bnd T hi h n) (hmx : Bnd T (some mx) m 0) (hhn : hi.isSome = true) (h1 : l ≤ h) (h2 : h ≤ m) (h3 : m ≤ n) (hl : cs.length = n * size) :
    StepU P ⟨d, .slice t x lo hi (some mx), ty, ps, af, gd⟩ k [] H T (.ex (h - l) false ((cs.drop (l * size)).take ((h - l) * size))) [] :=
  .of_pure fun _ _ _ E a hs hU hT => by
    have hv := hT x (by simp [Op.operands]) _ hx
    have b1 := bnd_map (E := E) (a := a) hlo (l := (Op.slice t x lo hi (some mx)).operands.toList) (fun y hy => by subst hy; simp [Op.operands]) (fun y hy => hT y (by simpa using hy))
    have b2 := bnd_map (E := E) (a := a) hhi (l := (Op.slice t x lo hi (some mx)).operands.toList) (fun y hy => by subst hy; simp [Op.operands]) (fun y hy => hT y (by simpa using hy))
    have b3 := bnd_map (E := E) (a := a) hmx (l := (Op.slice t x lo hi (some mx)).operands.toList) (fun y hy => by injection hy with hy; subst hy; simp [Op.operands]) (fun y hy => hT y (by simpa using hy))
    have key : ∀ (A : Option Addr) (c : Nat), n ≤ c → a.eval x = .slice A n c → (execOp a.eval ⟨d, .slice t x lo hi (some mx), ty, ps, af, gd⟩).run P E.w = .ok (.value (.slice (if m = l then A else A.map (·.add (l * size))) (h - l) (m - l))) E.w := by
      intro A c hc hv'
      have hr := run_bounds (P := P) (isS := true) (len := n) (cap := c) (l := l) (h := h) (m := m) (lo := lo.map a.eval) (hi := hi.map a.eval) (mx := some (a.eval mx)) E.w b1
        b2 (by cases hi with
            | none => cases hhn
            | some y => exact fun h => by cases h) b3 h1 h2 (by omega)
      have := run_sliceSlice (P := P) (t := t) (isN := false) E.w A n c l h m hr
      simp only [execOp, hv', Sem.run_bind, Sem.run_pure, Option.map_some, this, Result.andThen_ok]
    generalize hy : a.eval x = v at hv
    cases hv with
    | ex0 n full A c hn hf =>
      refine ⟨_, key A c hn hy, ?_⟩
      simp only [List.drop_nil, List.take_nil]
      exact .ex0 _ _ _ _ (by omega) (fun h => by cases h)
    | ex n full cs g o c xs hn hf hg hS' hl' hx' h' =>
      refine ⟨_, key _ c hn hy, ?_⟩
      by_cases hz : (cs.drop (l * size)).take ((h - l) * size) = []
      · rw [hz]; exact .ex0 _ _ _ _ (by omega) (fun h => by cases h)
      · have hlh : l < h := by
          rcases Nat.lt_or_ge l h with h'' | h''
          · exact h''
          · exact absurd (by rw [show h - l = 0 by omega]; simp) hz
        rw [if_neg (by omega), Option.map_some, addr_at]
        have hR : RVs E ((cs.drop (l * size)).take ((h - l) * size)) ((xs.drop (l * size)).take ((h - l) * size)) := (RVs.drop ⟨hl', h'⟩ _).take _
        refine .ex _ _ _ g (o + l * size) _ ((xs.drop (l * size)).take ((h - l) * size)) (by omega) (fun h => by cases h) hg hS' hR.1 (fun j y hj => ?_) hR.2
        rw [List.getElem?_take] at hj
        split at hj
        · rw [List.getElem?_drop] at hj; rw [Nat.add_assoc]; exact hx' _ y hj
        · cases hj
theorem s_stringNil {e st : TypeId} {bytes : Nat} {z : Value} [hS : SI P t e 1 bytes z] [he : UI P e (.int .u8)] [hd : UI P st .string] (hx : ev T x = some (.v (.slice none 0 0))) :
    StepU P ⟨d, .convert t st x, ty, ps, af, gd⟩ k [] H T (.v (.string (strB []))) [] := s_string (bs := []) hx rd_nil rfl
theorem s_ci64b {s : TypeId} {k1 : IntKind} {c : UInt8} {ds : TypeDesc} [hu : UI P t (.int .i64)] [hs : UI P s ds] (hx : ev T x = some (.v (.int k1 (c.toNat : Int)))) : StepU P ⟨d, .convert s t x, ty, ps, af, gd⟩ k [] H T (.v (.int .i64 (c.toNat : Int))) [] :=
  s_ci64 hx (by have := c.toNat_lt; omega)
theorem s_remn {k1 : IntKind} {i j : Nat} (hx : ev T x = some (.v (.int k1 (i : Int)))) (hy : ev T y = some (.v (.int k1 (j : Int)))) (h : 0 < j) : StepU P ⟨d, .binOp .rem t x y t', ty, ps, af, gd⟩ k [] H T (.v (.int k1 ((i % j : Nat) : Int))) [] :=
  s_bin hx hy fun w => by
    have hn : ¬ ((j : Int) = 0) := by omega
    have e : Int.tmod (i : Int) (j : Int) = ((i % j : Nat) : Int) := rfl
    simp only [guard_int, binOp, Op.intDiv, Sem.run_bind, Result.andThen_ok, ne_eq, not_true_eq_false, if_false, hn, Sem.run_pure, e]
theorem s_rem {k1 : IntKind} {a b : Int} (hx : ev T x = some (.v (.int k1 a))) (hy : ev T y = some (.v (.int k1 b))) (h : b ≠ 0) : StepU P ⟨d, .binOp .rem t x y t', ty, ps, af, gd⟩ k [] H T (.v (.int k1 (a.tmod b))) [] :=
  s_bin hx hy fun w => by
    simp only [guard_int, binOp, Op.intDiv, Sem.run_bind, Result.andThen_ok, ne_eq, not_true_eq_false, if_false, h, Sem.run_pure]
theorem s_quon {i j : Nat} (hx : ev T x = some (.v (.int .i64 (i : Int)))) (hy : ev T y = some (.v (.int .i64 (j : Int)))) (h : 0 < j) (hi : i ≤ 9223372036854775807) : StepU P ⟨d, .binOp .quo t x y t', ty, ps, af, gd⟩ k [] H T (.v (.int .i64 ((i / j : Nat) : Int))) [] :=
  s_bin hx hy fun w => by
    have hn : ¬ ((j : Int) = 0) := by omega
    have e : Int.tdiv (i : Int) (j : Int) = ((i / j : Nat) : Int) := rfl
    have hd : i / j ≤ i := Nat.div_le_self _ _
    simp only [guard_int, binOp, Op.intDiv, Sem.run_bind, Result.andThen_ok, ne_eq, not_true_eq_false, if_false, hn, Sem.run_pure, e]
    generalize i / j = q at hd
    rw [i64w (by omega)]
end
/-! contracts at other arguments -/
theorem Fresh.sub {P : Program} {f : FuncId} {cs ds : List AV} {v : Nat → AV} {bs : List ABlk} (h : Fresh P f cs v bs) (hs : ∀ E xs, RVs E ds xs → RVs E cs xs) : Fresh P f ds v bs := fun E0 xs hS hD hx => h E0 xs hS hD (hs E0 xs hx)
theorem rv_nil {E : Env} {f : Bool} {x : Value} (h : RV E (.v (.slice none 0 0)) x) : RV E (.ex 0 f []) x := by
  rw [h.v_inv]; exact .ex0 0 f none 0 (Nat.le_refl _) (fun _ => rfl)
theorem sub_nil {f : Bool} {us : List AV} (E : Env) (xs : List Value) (h : RVs E (.v (.slice none 0 0) :: us) xs) : RVs E (.ex 0 f [] :: us) xs := by
  obtain ⟨x, ys, rfl, h1, h2⟩ := h.cons_inv
  exact RVs.cons (rv_nil h1) h2
theorem sub_nil2 {f : Bool} {u : AV} {us : List AV} (E : Env) (xs : List Value) (h : RVs E (u :: .v (.slice none 0 0) :: us) xs) : RVs E (u :: .ex 0 f [] :: us) xs := by
  obtain ⟨x, ys, rfl, h1, h2⟩ := h.cons_inv
  exact RVs.cons h1 (sub_nil E ys h2)
end Go.Proofs.Ytnghcfjejgdnlaa
