/-
  The program logic's rules for single operations: slices. No condition.
-/
import Derived.Test.YtnghcfjejgdnlaaOpm
set_option linter.unusedSimpArgs false
set_option linter.unusedVariables false
set_option linter.unusedSectionVars false
namespace Go.Proofs.Ytnghcfjejgdnlaa
open Go.RowKit

/-- the address leads to these cells -/
def RdC (w : World) (A : Option Addr) (xs : List Value) : Prop := xs = [] ∨ ∃ g o, A = some ⟨g, o, none⟩ ∧ ∀ (j : Nat) x, xs[j]? = some x → w.cell? ⟨g, o + j, none⟩ = some x
/-- u reads as a slice of n elements with the cells cs; of own blocks only those in U are looked at -/
def Rdv (H : AH) (sz : Nat) (u : AV) (n : Nat) (cs : List AV) (U : List Nat) : Prop :=
  ∀ (w0 : World) (M : Nat → Prop) (Hr : AH) (E : Env) (x : Value), Sta w0 M Hr E → (∀ b ∈ U, hk Hr b = hk H b) → RV E u x →
    ∃ A c xs, x = .slice A n c ∧ n ≤ c ∧ RVs E cs xs ∧ xs.length = n * sz ∧ RdC E.w A xs
section
variable {H : AH} {sz : Nat}
theorem rd_nil : Rdv H sz (.v (.slice none 0 0)) 0 [] [] := fun _ _ _ E x _ _ h => by
  have := h.v_inv; subst this; exact ⟨none, 0, [], rfl, Nat.le_refl _, RVs.nil E, by simp, .inl rfl⟩
theorem rd_ex {n : Nat} {f : Bool} {cs : List AV} (hl : cs.length = n * sz) : Rdv H sz (.ex n f cs) n cs [] := fun _ _ _ E x _ _ h => by
  cases h with
  | ex0 n full A c hn hf => exact ⟨A, c, [], rfl, hn, RVs.nil E, by simpa using hl, .inl rfl⟩
  | ex n full cs g o c xs hn hf hg hS hl' hx h => exact ⟨_, c, xs, rfl, hn, ⟨hl', h⟩, by rw [hl']; exact hl, .inr ⟨g, o, rfl, hx⟩⟩
theorem rd_sl {b n : Nat} {blk : ABlk} (hb : hk H b = some blk) (hl : blk.cells.length = n * sz) : Rdv H sz (.sl b n) n blk.cells [b] := fun _ _ _ E x hs hU h => by
  have hb' := (hU b (by simp)).trans hb
  cases h with
  | sl b n hD hn =>
    cases e : (E.L b).g with
    | none =>
      have h0 := ((hs.own b blk hb').2.2.none e).1
      exact ⟨_, _, [], rfl, hn, by rw [h0]; exact RVs.nil E, by rw [h0] at hl; simpa using hl, .inl rfl⟩
    | some g =>
      obtain ⟨xs, h1, h2⟩ := own_read hs hb' e
      exact ⟨_, _, xs, rfl, hn, h1, by rw [h1.1]; exact hl, .inr ⟨g, 0, rfl, fun j x hx => by rw [Nat.zero_add]; exact h2 j x hx⟩⟩
theorem rd_sb {b o n : Nat} {c : Option Nat} {blk : ABlk} (hb : hk H b = some blk) (hl : o + n * sz ≤ blk.cells.length) : Rdv H sz (.sb b o n c) n ((blk.cells.drop o).take (n * sz)) [b] := fun _ _ _ E x hs hU h => by
  have hb' := (hU b (by simp)).trans hb
  cases h with
  | sb b o n c A c' hD hA hn hc =>
    by_cases h0 : n = 0
    · subst h0; exact ⟨_, _, [], rfl, hn, by simpa using RVs.nil E, by simp, .inl rfl⟩
    · obtain ⟨g, e, rfl⟩ := hA h0
      obtain ⟨xs, h1, h2⟩ := own_read hs hb' e
      have h3 := (h1.drop o).take (n * sz)
      refine ⟨_, _, _, rfl, hn, h3, by rw [List.length_take, List.length_drop, h1.1]; omega, .inr ⟨g, o, rfl, fun j x hx => ?_⟩⟩
      rw [List.getElem?_take] at hx
      split at hx
      · rw [List.getElem?_drop] at hx; exact h2 _ x hx
      · cases hx
end
/-- a slice's length, whatever it holds -/
def Lnv (u : AV) (n : Nat) : Prop := ∀ (E : Env) (x : Value), RV E u x → ∃ A c, x = .slice A n c
theorem ln_nil : Lnv (.v (.slice none 0 0)) 0 := fun E x h => by have := h.v_inv; subst this; exact ⟨_, _, rfl⟩
theorem ln_ex {n : Nat} {f : Bool} {cs : List AV} : Lnv (.ex n f cs) n := fun E x h => by cases h <;> exact ⟨_, _, rfl⟩
theorem ln_sl {b n : Nat} : Lnv (.sl b n) n := fun E x h => by cases h; exact ⟨_, _, rfl⟩
theorem ln_sb {b o n : Nat} {c : Option Nat} : Lnv (.sb b o n c) n := fun E x h => by cases h; exact ⟨_, _, rfl⟩

section
variable {P : Program} {k : Nat} {H : AH} {T : AT} {d : Option Tmp} {ty : TypeId} {ps : String} {af : Array Edge} {gd : Option (Nat × Bool)}
variable {t e : TypeId} {size bytes : Nat} {z : Value}

theorem si_size (hS : SI P t e size bytes z) : (P.info? e).map (·.size) = some size := by
  have h := hS.info
  cases hq : P.info? e with
  | none => simp [hq] at h
  | some i => simp [hq] at h; simp [h.2.1]
theorem run_sizeOf' {e : TypeId} {size : Nat} (h : (P.info? e).map (·.size) = some size) (w : World) : (sizeOf e).run P w = .ok size w := by
  cases hq : P.info? e with
  | none => simp [hq] at h
  | some i => simp [hq] at h; simp [sizeOf, typeInfo, hq, h]

theorem s_len {x : Operand} {u : AV} {n : Nat} [hS : SI P t e size bytes z] (hx : ev T x = some u) (hl : Lnv u n) :
    StepU P ⟨d, .call { callee := .builtin .len, args := #[x], argTypes := #[t] }, ty, ps, af, gd⟩ k [] H T (.v (.int .i64 (n : Int))) [] :=
  .of_pure fun _ _ _ E a _ _ hT => by
    obtain ⟨A, c, h1⟩ := hl E _ (hT x (by simp [Op.operands, Call.operands]) _ hx)
    refine ⟨.int .i64 (n : Int), ?_, .v _⟩
    simp [execOp, resolve, invoke, builtin, Builtin.len_, run_underlying hS.under, h1, goInt]

theorem run_indexSlice [hS : SI P t e size bytes z] (w : World) (g o n c i : Nat) (kk : IntKind) (hi : i < n) :
    (Instr.indexAt t (.slice (some ⟨g, o, none⟩) n c) (.int kk (i : Int))).run P w = .ok (.pointer (some ⟨g, o + i * size, none⟩)) w := by
  have hi0 : (0 : Int) ≤ (i : Int) := by omega
  simp [Instr.indexAt, asIntOf, run_underlying hS.under, hi0, hi, run_sizeOf' (si_size hS), addr_at]
/-- x[i] of a slice of own memory -/
theorem s_ixl {x y : Operand} {b n i : Nat} {kk : IntKind} {blk : ABlk} [hS : SI P t e size bytes z] (hx : ev T x = some (.sl b n)) (hy : ev T y = some (.v (.int kk (i : Int)))) (hb : hk H b = some blk) (hi : i < n) :
    StepU P ⟨d, .indexAddr t x y, ty, ps, af, gd⟩ k [b] H T (.pt b (i * size)) [] :=
  .of_pure fun _ _ _ E a hs hU hT => by
    have h1 := hT x (by simp [Op.operands]) _ hx
    have h2 := (hT y (by simp [Op.operands]) _ hy).v_inv
    generalize hv : a.eval x = v at h1
    cases h1 with
    | sl b n hD hn =>
      cases eg : (E.L b).g with
      | none => have h0 := ((hs.own b blk ((hU b (by simp)).trans hb)).2.2.none eg).2; omega
      | some g =>
        rw [eg] at hv
        refine ⟨.pointer (some ⟨g, i * size, none⟩), ?_, .pt _ _ _ hD eg⟩
        have := run_indexSlice (P := P) (t := t) E.w g 0 n (E.L b).c i kk hi
        rw [Nat.zero_add] at this
        simp only [execOp, hv, h2, Option.map_some, Sem.run_bind, this, Result.andThen_ok, Sem.run_pure]
theorem s_ixb {x y : Operand} {b o n i : Nat} {c : Option Nat} {kk : IntKind} [hS : SI P t e size bytes z] (hx : ev T x = some (.sb b o n c)) (hy : ev T y = some (.v (.int kk (i : Int)))) (hi : i < n) :
    StepU P ⟨d, .indexAddr t x y, ty, ps, af, gd⟩ k [] H T (.pt b (o + i * size)) [] :=
  .of_pure fun _ _ _ E a hs hU hT => by
    have h1 := hT x (by simp [Op.operands]) _ hx
    have h2 := (hT y (by simp [Op.operands]) _ hy).v_inv
    generalize hv : a.eval x = v at h1
    cases h1 with
    | sb b o n c A c' hD hA hn hc =>
      obtain ⟨g, eg, rfl⟩ := hA (by omega)
      refine ⟨.pointer (some ⟨g, o + i * size, none⟩), ?_, .pt _ _ _ hD eg⟩
      simp only [execOp, hv, h2, Sem.run_bind, run_indexSlice (P := P) (t := t) E.w g o n c' i kk hi, Result.andThen_ok, Sem.run_pure]
/-- of a slice that nobody changes -/
theorem s_ixe {x y : Operand} {n i : Nat} {f : Bool} {cs : List AV} {kk : IntKind} [hS : SI P t e size bytes z] (hx : ev T x = some (.ex n f cs)) (hy : ev T y = some (.v (.int kk (i : Int)))) (hi : i < n) (hne : cs ≠ []) :
    StepU P ⟨d, .indexAddr t x y, ty, ps, af, gd⟩ k [] H T (.ep (cs.drop (i * size))) [] :=
  .of_pure fun _ _ _ E a hs hU hT => by
    have h1 := hT x (by simp [Op.operands]) _ hx
    have h2 := (hT y (by simp [Op.operands]) _ hy).v_inv
    generalize hv : a.eval x = v at h1
    cases h1 with
    | ex0 => exact absurd rfl hne
    | ex n full cs g o c xs hn hf hg hS' hl hx h =>
      refine ⟨.pointer (some ⟨g, o + i * size, none⟩), ?_, ep_drop (.ep cs g o xs hg hS' hl hx h) _⟩
      simp only [execOp, hv, h2, Sem.run_bind, run_indexSlice (P := P) (t := t) E.w g o n c i kk hi, Result.andThen_ok, Sem.run_pure]
/-- of an array variable -/
theorem run_indexArr {n size : Nat} [hA : AI P t n size] (w : World) (g o i : Nat) (kk : IntKind) (hi : i < n) :
    (Instr.indexAt t (.pointer (some ⟨g, o, none⟩)) (.int kk (i : Int))).run P w = .ok (.pointer (some ⟨g, o + i * size, none⟩)) w := by
  obtain ⟨e, hu, hs⟩ := hA.hu
  have hi0 : (0 : Int) ≤ (i : Int) := by omega
  simp [Instr.indexAt, asIntOf, run_underlying hu, hi0, hi, run_sizeOf' hs, addr_at, Instr.sureAddr]
theorem s_ixa {x y : Operand} {b o n i size : Nat} {kk : IntKind} [hA : AI P t n size] (hx : ev T x = some (.pt b o)) (hy : ev T y = some (.v (.int kk (i : Int)))) (hi : i < n) :
    StepU P ⟨d, .indexAddr t x y, ty, ps, af, gd⟩ k [] H T (.pt b (o + i * size)) [] :=
  .of_pure fun _ _ _ E a hs hU hT => by
    obtain ⟨g, e, hD, hg⟩ := (hT x (by simp [Op.operands]) _ hx).pt_inv
    have h2 := (hT y (by simp [Op.operands]) _ hy).v_inv
    exact ⟨_, by simp only [execOp, e, h2, Sem.run_bind, run_indexArr (P := P) (t := t) E.w g o i kk hi, Result.andThen_ok, Sem.run_pure], .pt _ _ _ hD hg⟩
theorem s_ixae {x y : Operand} {n i size : Nat} {cs : List AV} {kk : IntKind} [hA : AI P t n size] (hx : ev T x = some (.ep cs)) (hy : ev T y = some (.v (.int kk (i : Int)))) (hi : i < n) :
    StepU P ⟨d, .indexAddr t x y, ty, ps, af, gd⟩ k [] H T (.ep (cs.drop (i * size))) [] :=
  .of_pure fun _ _ _ E a hs hU hT => by
    have h1 := hT x (by simp [Op.operands]) _ hx
    obtain ⟨g, o, xs, e, _, _⟩ := ep_inv h1
    rw [e] at h1
    have h2 := (hT y (by simp [Op.operands]) _ hy).v_inv
    exact ⟨_, by simp only [execOp, e, h2, Sem.run_bind, run_indexArr (P := P) (t := t) E.w g o i kk hi, Result.andThen_ok, Sem.run_pure], ep_drop h1 _⟩

/-! ### Slices of slices and of arrays -/
/-- a bound of a slice expression: given, or the default -/
def Bnd (T : AT) (o : Option Operand) (r dflt : Nat) : Prop := match o with
  | none => r = dflt
  | some x => ∃ kk, ev T x = some (.v (.int kk (r : Int)))
/-- the same, of values -/
def BV (o : Option Value) (r dflt : Nat) : Prop := match o with
  | none => r = dflt
  | some v => ∃ kk, v = .int kk (r : Int)
/-- the run of the bounds -/
theorem run_bounds {isS : Bool} {len cap l h m : Nat} {lo hi mx : Option Value} (w : World)
    (hlo : BV lo l 0) (hhi : BV hi h len) (hhm : hi = none → mx = none) (hmx : BV mx m cap)
    (h1 : l ≤ h) (h2 : h ≤ m) (h3 : m ≤ cap) : (Instr.sliceBounds isS len cap lo hi mx).run P w = .ok (l, h, m) w := by
  have sb : ∀ (kk : IntKind) (r y : Nat) (code : BoundsCode), r ≤ y → (Instr.sliceBound (.int kk (r : Int)) y code).run P w = .ok r w := by
    intro kk r y code hr
    have : (0 : Int) ≤ (r : Int) := by omega
    simp [Instr.sliceBound, asIntOf, this, hr]
  unfold Instr.sliceBounds
  cases mx with
  | none =>
    simp only [BV] at hmx
    subst hmx
    cases hi with
    | none =>
      simp only [BV] at hhi
      subst hhi
      cases lo with
      | none => simp only [BV] at hlo; subst hlo; simp
      | some v => obtain ⟨kk, rfl⟩ := hlo; simp [sb kk l h _ h1]
    | some v =>
      obtain ⟨kk, rfl⟩ := hhi
      cases lo with
      | none => simp only [BV] at hlo; subst hlo; simp [sb kk h m _ h2]
      | some v => obtain ⟨k2, rfl⟩ := hlo; simp [sb kk h m _ h2, sb k2 l h _ h1]
  | some v =>
    obtain ⟨km, rfl⟩ := hmx
    cases hi with
    | none => cases hhm rfl
    | some v =>
      obtain ⟨kk, rfl⟩ := hhi
      cases lo with
      | none => simp only [BV] at hlo; subst hlo; simp [sb km m cap _ h3, sb kk h m _ h2]
      | some v => obtain ⟨k2, rfl⟩ := hlo; simp [sb km m cap _ h3, sb kk h m _ h2, sb k2 l h _ h1]
theorem bnd_map {E : Env} {a : Act} {o : Option Operand} {r dflt : Nat} {l : List Operand} (h : Bnd T o r dflt) (hm : ∀ x, o = some x → x ∈ l) (hT : ∀ x ∈ l, ∀ u, ev T x = some u → RV E u (a.eval x)) :
    BV (o.map a.eval) r dflt := by
  cases o with
  | none => exact h
  | some x => obtain ⟨kk, hx⟩ := h; exact ⟨kk, (hT x (hm x rfl) _ hx).v_inv⟩
/-- arr[l:h:m] -/
theorem s_slA {x : Operand} {lo hi mx : Option Operand} {b o n size l h m : Nat} [hA : AI P t n size] (hx : ev T x = some (.pt b o)) (hlo : Bnd T lo l 0) (hhi : Bnd T hi h n) (hmx : Bnd T mx m n) (hhm : hi = none → mx = none)
    (h1 : l ≤ h) (h2 : h ≤ m) (h3 : m ≤ n) : StepU P ⟨d, .slice t x lo hi mx, ty, ps, af, gd⟩ k [] H T (.sb b (o + l * size) (h - l) (some (m - l))) [] :=
  .of_pure fun _ _ _ E a hs hU hT => by
    obtain ⟨e, hu, hsz⟩ := hA.hu
    obtain ⟨g, e', hD, hg⟩ := (hT x (by simp [Op.operands]) _ hx).pt_inv
    have b1 := bnd_map (E := E) (a := a) hlo (l := (Op.slice t x lo hi mx).operands.toList) (fun y hy => by subst hy; simp [Op.operands]) (fun y hy => hT y (by simpa using hy))
    have b2 := bnd_map (E := E) (a := a) hhi (l := (Op.slice t x lo hi mx).operands.toList) (fun y hy => by subst hy; simp [Op.operands]) (fun y hy => hT y (by simpa using hy))
    have b3 := bnd_map (E := E) (a := a) hmx (l := (Op.slice t x lo hi mx).operands.toList) (fun y hy => by subst hy; simp [Op.operands]) (fun y hy => hT y (by simpa using hy))
    have hr := run_bounds (P := P) (isS := false) (len := n) (cap := n) (l := l) (h := h) (m := m) (lo := lo.map a.eval) (hi := hi.map a.eval) (mx := mx.map a.eval) E.w b1
      b2 (by cases hi with
          | none => have := hhm rfl; subst this; exact fun _ => rfl
          | some y => exact fun h => by cases h) b3 h1 h2 h3
    refine ⟨.slice (some (if m = l then ⟨g, o, none⟩ else ⟨g, o + l * size, none⟩)) (h - l) (m - l), ?_, ?_⟩
    · simp only [execOp, e', Instr.sliceAt, run_underlying hu, Instr.sureAddr, Sem.run_bind, Sem.run_pure, Result.andThen_ok, hr, run_sizeOf' hsz, addr_at]
    · refine .sb _ _ _ _ _ _ hD (fun hne => ⟨g, hg, ?_⟩) (by omega) (fun k hk => by injection hk)
      rw [if_neg (by omega)]
theorem run_sliceSlice [hS : SI P t e size bytes z] {isN : Bool} (w : World) (A : Option Addr) (n c l h m : Nat) {lo hi mx : Option Value} (hr : (Instr.sliceBounds true n c lo hi mx).run P w = .ok (l, h, m) w) :
    (Instr.sliceAt t (.slice A n c) lo hi mx).run P w = .ok (.slice (if m = l then A else A.map (·.add (l * size))) (h - l) (m - l)) w := by
  simp only [Instr.sliceAt, Instr.slice, run_underlying hS.under, Sem.run_bind, Sem.run_pure, Result.andThen_ok, hr, run_sizeOf' (si_size hS)]
/-- s[l:h] of a slice that nobody changes -/
theorem s_slE {x : Operand} {lo hi : Option Operand} {n l h : Nat} {f : Bool} {cs : List AV} [hS : SI P t e size bytes z] (hx : ev T x = some (.ex n f cs)) (hlo : Bnd T lo l 0) (hhi : Bnd T hi h n) (h1 : l ≤ h) (h2 : h ≤ n) (hl : cs.length = n * size) :
    StepU P ⟨d, .slice t x lo hi none, ty, ps, af, gd⟩ k [] H T (.ex (h - l) false ((cs.drop (l * size)).take ((h - l) * size))) [] :=
  .of_pure fun _ _ _ E a hs hU hT => by
    have hv := hT x (by simp [Op.operands]) _ hx
    have b1 := bnd_map (E := E) (a := a) hlo (l := (Op.slice t x lo hi none).operands.toList) (fun y hy => by subst hy; simp [Op.operands]) (fun y hy => hT y (by simpa using hy))
    have b2 := bnd_map (E := E) (a := a) hhi (l := (Op.slice t x lo hi none).operands.toList) (fun y hy => by subst hy; simp [Op.operands]) (fun y hy => hT y (by simpa using hy))
    have key : ∀ (A : Option Addr) (c : Nat), n ≤ c → a.eval x = .slice A n c → (execOp a.eval ⟨d, .slice t x lo hi none, ty, ps, af, gd⟩).run P E.w = .ok (.value (.slice (if c = l then A else A.map (·.add (l * size))) (h - l) (c - l))) E.w := by
      intro A c hc hv'
      have hr := run_bounds (P := P) (isS := true) (len := n) (cap := c) (l := l) (h := h) (m := c) (lo := lo.map a.eval) (hi := hi.map a.eval) (mx := none) E.w b1
        b2 (fun _ => rfl) rfl h1 (by omega) (Nat.le_refl _)
      have := run_sliceSlice (P := P) (t := t) (isN := false) E.w A n c l h c hr
      simp only [execOp, hv', Sem.run_bind, Sem.run_pure, Option.map_none, this, Result.andThen_ok]
    generalize hy : a.eval x = v at hv
    cases hv with
    | ex0 n full A c hn hf =>
      refine ⟨_, key A c hn hy, ?_⟩
      simp only [List.drop_nil, List.take_nil]
      exact .ex0 _ _ _ _ (by omega) (fun h => by cases h)
    | ex n full cs g o c xs hn hf hg hS' hl' hx' h' =>
      refine ⟨_, key _ c hn hy, ?_⟩
      by_cases hz : (cs.drop (l * size)).take ((h - l) * size) = []
      · rw [hz]; exact .ex0 _ _ _ _ (by omega) (fun h => by cases h)
      · have hlh : l < h := by
          rcases Nat.lt_or_ge l h with h'' | h''
          · exact h''
          · exact absurd (by rw [show h - l = 0 by omega]; simp) hz
        rw [if_neg (by omega), Option.map_some, addr_at]
        have hR : RVs E ((cs.drop (l * size)).take ((h - l) * size)) ((xs.drop (l * size)).take ((h - l) * size)) := (RVs.drop ⟨hl', h'⟩ _).take _
        refine .ex _ _ _ g (o + l * size) _ ((xs.drop (l * size)).take ((h - l) * size)) (by omega) (fun h => by cases h) hg hS' hR.1 (fun j y hj => ?_) hR.2
        rw [List.getElem?_take] at hj
        split at hj
        · rw [List.getElem?_drop] at hj; rw [Nat.add_assoc]; exact hx' _ y hj
        · cases hj
/-- s[l:h] of a slice of own memory; the result is only read -/
theorem s_slL {x : Operand} {lo hi : Option Operand} {b n l h : Nat} [hS : SI P t e size bytes z] (hx : ev T x = some (.sl b n)) (hlo : Bnd T lo l 0) (hhi : Bnd T hi h n) (h1 : l ≤ h) (h2 : h ≤ n) {blk : ABlk} (hb : hk H b = some blk) :
    StepU P ⟨d, .slice t x lo hi none, ty, ps, af, gd⟩ k [b] H T (.sb b (l * size) (h - l) none) [] :=
  .of_pure fun _ _ _ E a hs hU hT => by
    have hv := hT x (by simp [Op.operands]) _ hx
    have b1 := bnd_map (E := E) (a := a) hlo (l := (Op.slice t x lo hi none).operands.toList) (fun y hy => by subst hy; simp [Op.operands]) (fun y hy => hT y (by simpa using hy))
    have b2 := bnd_map (E := E) (a := a) hhi (l := (Op.slice t x lo hi none).operands.toList) (fun y hy => by subst hy; simp [Op.operands]) (fun y hy => hT y (by simpa using hy))
    generalize hy : a.eval x = v at hv
    cases hv with
    | sl b n hD hn =>
      have hr := run_bounds (P := P) (isS := true) (len := n) (cap := (E.L b).c) (l := l) (h := h) (m := (E.L b).c) (lo := lo.map a.eval) (hi := hi.map a.eval) (mx := none) E.w b1
        b2 (fun _ => rfl) rfl h1 (by omega) (Nat.le_refl _)
      have := run_sliceSlice (P := P) (t := t) (isN := false) E.w ((E.L b).g.map fun g => ⟨g, 0, none⟩) n (E.L b).c l h (E.L b).c hr
      refine ⟨_, by simp only [execOp, hy, Sem.run_bind, Sem.run_pure, Option.map_none, this, Result.andThen_ok]; rfl, ?_⟩
      refine .sb _ _ _ _ _ _ hD (fun hne => ?_) (by omega) (fun k hk => by cases hk)
      cases eg : (E.L b).g with
      | none => have h0 := ((hs.own b blk ((hU b (by simp)).trans hb)).2.2.none eg).2; omega
      | some g => exact ⟨g, rfl, by rw [if_neg (by omega)]; simp [addr_at]⟩
/-- s[l:h:m] of a slice of own memory -/
theorem s_slLM {x : Operand} {lo hi : Option Operand} {mx : Operand} {b n l h m : Nat} [hS : SI P t e size bytes z] (hx : ev T x = some (.sl b n)) (hlo : Bnd T lo l 0) (hhi : Bnd T hi h n) (hmx : Bnd T (some mx) m 0) (hhn : hi.isSome = true) (h1 : l ≤ h) (h2 : h ≤ m) (h3 : m ≤ n) {blk : ABlk} (hb : hk H b = some blk) :
    StepU P ⟨d, .slice t x lo hi (some mx), ty, ps, af, gd⟩ k [b] H T (.sb b (l * size) (h - l) (some (m - l))) [] :=
  .of_pure fun _ _ _ E a hs hU hT => by
    have hv := hT x (by simp [Op.operands]) _ hx
    have b1 := bnd_map (E := E) (a := a) hlo (l := (Op.slice t x lo hi (some mx)).operands.toList) (fun y hy => by subst hy; simp [Op.operands]) (fun y hy => hT y (by simpa using hy))
    have b2 := bnd_map (E := E) (a := a) hhi (l := (Op.slice t x lo hi (some mx)).operands.toList) (fun y hy => by subst hy; simp [Op.operands]) (fun y hy => hT y (by simpa using hy))
    have b3 := bnd_map (E := E) (a := a) hmx (l := (Op.slice t x lo hi (some mx)).operands.toList) (fun y hy => by injection hy with hy; subst hy; simp [Op.operands]) (fun y hy => hT y (by simpa using hy))
    generalize hy : a.eval x = v at hv
    cases hv with
    | sl b n hD hn =>
      have hr := run_bounds (P := P) (isS := true) (len := n) (cap := (E.L b).c) (l := l) (h := h) (m := m) (lo := lo.map a.eval) (hi := hi.map a.eval) (mx := some (a.eval mx)) E.w b1
        b2 (by cases hi with
            | none => cases hhn
            | some y => exact fun h => by cases h) b3 h1 h2 (by omega)
      have := run_sliceSlice (P := P) (t := t) (isN := false) E.w ((E.L b).g.map fun g => ⟨g, 0, none⟩) n (E.L b).c l h m hr
      refine ⟨_, by simp only [execOp, hy, Sem.run_bind, Sem.run_pure, Option.map_some, this, Result.andThen_ok]; rfl, ?_⟩
      refine .sb _ _ _ _ _ _ hD (fun hne => ?_) (by omega) (fun k hk => by injection hk)
      cases eg : (E.L b).g with
      | none => have h0 := ((hs.own b blk ((hU b (by simp)).trans hb)).2.2.none eg).2; omega
      | some g => exact ⟨g, rfl, by rw [if_neg (by omega)]; simp [addr_at]⟩
end
end Go.Proofs.Ytnghcfjejgdnlaa
