/-
  The program logic: a contract proved from the function's text; states told anew; contracts into the kit's words and back. No condition.
-/
import Derived.Test.YtnghcfjejgdnlaaFun
set_option linter.unusedSimpArgs false
set_option linter.unusedVariables false
set_option linter.unusedSectionVars false
namespace Go.Proofs.Ytnghcfjejgdnlaa
open Go.RowKit

/-- the parameters' slots -/
def slots : List AV → AT
  | [] => []
  | [a] => [(0, a)]
  | [a, b] => [(0, a), (1, b)]
  | [a, b, c] => [(0, a), (1, b), (2, c)]
  | [a, b, c, d] => [(0, a), (1, b), (2, c), (3, d)]
  | [a, b, c, d, e] => [(0, a), (1, b), (2, c), (3, d), (4, e)]
  | [a, b, c, d, e, f] => [(0, a), (1, b), (2, c), (3, d), (4, e), (5, f)]
  | [a, b, c, d, e, f, g] => [(0, a), (1, b), (2, c), (3, d), (4, e), (5, f), (6, g)]
  | _ => []
theorem slots_get (args : List AV) (t : Nat) (u : AV) (h : lk (slots args) t = some u) : args[t]? = some u := by
  unfold slots at h
  split at h <;> simp only [lk_cons, show ∀ t, lk [] t = none from fun _ => rfl] at h <;> (try cases h)
  all_goals
    repeat' split at h
    all_goals first
      | (rename_i e; subst e; exact h)
      | (subst_vars; exact h)
      | (cases h)

section
variable {P : Program}
/-- what the function's results read as -/
def ResV (P : Program) (fn : Func) (H : AH) (T : AT) (u : AV) : Prop :=
  ∀ (w0 : World) (M : Nat → Prop) (E : Env) (a : Act), Sta w0 M H E → TR E T a → ∃ x, (results fn a.tmps).run P E.w = .ok x E.w ∧ RV E u x
/-- one result variable -/
def rvSem (tmps : Array Value) : ResultVar → Sem Value
  | .tmp t => pure (tmps.getD t undef)
  | .cell p t => do loadVar t (← asAddr (tmps.getD p undef))
theorem results_eq (fn : Func) (tmps : Array Value) : results fn tmps = (do let vs ← fn.results.mapM (rvSem tmps); pure (if h : vs.size = 1 then vs[0] else .tuple vs)) := by
  unfold results
  congr 1
def Res1 (P : Program) (r : ResultVar) (H : AH) (T : AT) (u : AV) : Prop :=
  ∀ (w0 : World) (M : Nat → Prop) (E : Env) (a : Act), Sta w0 M H E → TR E T a → ∃ x, (rvSem a.tmps r).run P E.w = .ok x E.w ∧ RV E u x
theorem res_tmp {H : AH} {T : AT} {t : Tmp} {u : AV} (h : lk T t = some u) : Res1 P (.tmp t) H T u := fun _ _ E a _ hT => by
  obtain ⟨x, hx, hr⟩ := hT t u h
  exact ⟨x, by simp [rvSem, hx], hr⟩
theorem res_cell {H : AH} {T : AT} {p : Tmp} {t : TypeId} {n b : Nat} {blk : ABlk} {u : AV} [ht : TI P t true n] (h : lk T p = some (.pt b 0)) (hb : hk H b = some blk) (hn : blk.cells.length = n) (hu : agu u blk.cells) : Res1 P (.cell p t) H T u := fun _ _ E a hs hT => by
  obtain ⟨x, hx, hr⟩ := hT p _ h
  obtain ⟨g, rfl, hD, hg⟩ := hr.pt_inv
  obtain ⟨xs, h1, h2⟩ := own_read hs hb hg
  have hl := loadVar_cells (P := P) (t := t) (w := E.w) (g := g) (o := 0) (xs := xs) (by rw [h1.1]; exact hn) (fun j y hy => by rw [Nat.zero_add]; exact h2 j y hy)
  refine ⟨_, ?_, hu E _ h1⟩
  simp only [Instr.loadAt, Instr.sureAddr, Sem.run_bind, Sem.run_pure, Result.andThen_ok] at hl
  simp [rvSem, hx, asAddr, hl]
theorem res_cell1 {H : AH} {T : AT} {p : Tmp} {t : TypeId} {n b : Nat} {blk : ABlk} {u : AV} [ht : TI P t false n] (h : lk T p = some (.pt b 0)) (hb : hk H b = some blk) (hc : blk.cells[0]? = some u) : Res1 P (.cell p t) H T u := fun _ _ E a hs hT => by
  obtain ⟨x, hx, hr⟩ := hT p _ h
  obtain ⟨g, rfl, hD, hg⟩ := hr.pt_inv
  obtain ⟨xs, h1, h2⟩ := own_read hs hb hg
  obtain ⟨y, hy, hr⟩ := h1.at hc
  have hl := loadVar_cell (P := P) (t := t) (w := E.w) (g := g) (o := 0) (h2 0 y hy)
  refine ⟨y, ?_, hr⟩
  simp only [Instr.loadAt, Instr.sureAddr, Sem.run_bind, Sem.run_pure, Result.andThen_ok] at hl
  simp [rvSem, hx, asAddr, hl]
theorem res_0 {fn : Func} {H : AH} {T : AT} (hr : fn.results = #[]) : ResV P fn H T (.tp []) := fun _ _ E a hs hT =>
  ⟨.tuple #[], by rw [results_eq, hr]; simp, .tp [] #[] rfl (fun j c x hc => by simp at hc)⟩
theorem res_1 {fn : Func} {r : ResultVar} {H : AH} {T : AT} {u : AV} (hr : fn.results = #[r]) (h : Res1 P r H T u) : ResV P fn H T u := fun w0 M E a hs hT => by
  obtain ⟨x, h1, h2⟩ := h w0 M E a hs hT
  refine ⟨x, ?_, h2⟩
  rw [results_eq, hr]; simp [h1]
theorem res_2 {fn : Func} {r s : ResultVar} {H : AH} {T : AT} {u v : AV} (hr : fn.results = #[r, s]) (h : Res1 P r H T u) (h' : Res1 P s H T v) : ResV P fn H T (.tp [u, v]) := fun w0 M E a hs hT => by
  obtain ⟨x, h1, h2⟩ := h w0 M E a hs hT
  obtain ⟨y, k1, k2⟩ := h' w0 M E a hs hT
  have hv := RVs.cons h2 (RVs.cons k2 (RVs.nil E))
  refine ⟨.tuple #[x, y], ?_, .tp _ _ rfl (fun j c z hc hz => hv.2 j c z hc (by simpa using hz))⟩
  rw [results_eq, hr]; simp [h1, k1]
theorem res_3 {fn : Func} {r s q : ResultVar} {H : AH} {T : AT} {u v w : AV} (hr : fn.results = #[r, s, q]) (h : Res1 P r H T u) (h' : Res1 P s H T v) (h'' : Res1 P q H T w) : ResV P fn H T (.tp [u, v, w]) := fun w0 M E a hs hT => by
  obtain ⟨x, h1, h2⟩ := h w0 M E a hs hT
  obtain ⟨y, k1, k2⟩ := h' w0 M E a hs hT
  obtain ⟨z, l1, l2⟩ := h'' w0 M E a hs hT
  have hv := RVs.cons h2 (RVs.cons k2 (RVs.cons l2 (RVs.nil E)))
  refine ⟨.tuple #[x, y, z], ?_, .tp _ _ rfl (fun j c z hc hz => hv.2 j c z hc (by simpa using hz))⟩
  rw [results_eq, hr]; simp [h1, k1, l1]

/-- what is handed out: u, its own blocks being bs -/
def Outv (H : AH) (u : AV) (v : Nat → AV) (bs : List ABlk) : Prop :=
  ∀ (w0 : World) (E : Env) (x : Value), Sta w0 (fun _ => False) H E → RV E u x → ∃ ls : Nat → Loc, (∀ j g, j < bs.length → (ls j).g = some g → w0.heap.size ≤ g) ∧ (∀ i j g, i < bs.length → j < bs.length → (ls i).g = some g → (ls j).g = some g → i = j) ∧
    ∀ (k : Nat) (E' : Env), E'.w = E.w → (∀ g, E'.S g → g < w0.heap.size ∨ ∃ j, j < bs.length ∧ (ls j).g = some g) → (∀ j, j < bs.length → E'.D (k + j) ∧ E'.L (k + j) = ls j) → (∀ j blk, bs[j]? = some blk → BOK E' (ls j) blk) ∧ RV E' (v k) x
/-- values that no memory bears -/
class Val (u : AV) : Prop where
  val : ∀ (E E' : Env) (x : Value), RV E u x → RV E' u x
class ValL (cs : List AV) : Prop where
  val : ∀ (E E' : Env) (xs : List Value), RVs E cs xs → RVs E' cs xs
instance (x : Value) : Val (.v x) := ⟨fun E E' y h => by rw [h.v_inv]; exact .v x⟩
instance : ValL [] := ⟨fun E E' xs h => by rw [h.nil_inv]; exact RVs.nil E'⟩
instance (c : AV) (cs : List AV) [h : Val c] [k : ValL cs] : ValL (c :: cs) := ⟨fun E E' xs hx => by obtain ⟨y, ys, rfl, h1, h2⟩ := hx.cons_inv; exact RVs.cons (h.val E E' y h1) (k.val E E' ys h2)⟩
theorem ValL.vals (vs : List Value) : ValL (vs.map .v) := ⟨fun E E' xs hx => by rw [hx.vals_inv]; exact RVs.vals vs⟩
instance (vs : List Value) : ValL (vs.map .v) := ValL.vals vs
instance (bs : List UInt8) : ValL (byA bs) := by rw [byA_vals]; infer_instance
theorem RVs.split {E : Env} {a b : List AV} {xs : List Value} (h : RVs E (a ++ b) xs) : RVs E a (xs.take a.length) ∧ RVs E b (xs.drop a.length) := by
  have h1 := h.take a.length
  have h2 := h.drop a.length
  rw [List.take_left] at h1
  rw [List.drop_left] at h2
  exact ⟨h1, h2⟩
instance (a b : List AV) [h : ValL a] [k : ValL b] : ValL (a ++ b) := ⟨fun E E' xs hx => by
  have := (h.val E E' _ hx.split.1).append (k.val E E' _ hx.split.2)
  rwa [List.take_append_drop] at this⟩
theorem replicate_map (n : Nat) (x : Value) : List.replicate n (AV.v x) = (List.replicate n x).map .v := by simp
instance (n : Nat) (x : Value) : ValL (List.replicate n (.v x)) := by rw [replicate_map]; infer_instance
theorem tp_vals {E E' : Env} {cs : List AV} [h : ValL cs] {x : Value} (k : RV E (.tp cs) x) : RV E' (.tp cs) x := by
  cases k with
  | tp cs xs hl k =>
    have := h.val E E' xs.toList ⟨by simpa using hl, fun j c x hc hx => k j c x hc (by simpa using hx)⟩
    exact .tp cs xs hl (fun j c x hc hx => this.2 j c x hc (by simpa using hx))
instance (cs : List AV) [h : ValL cs] : Val (.tp cs) := ⟨fun E E' x k => tp_vals k⟩
instance (cs : List AV) [h : ValL cs] : Val (.ag cs) := ⟨fun E E' x k => by
  cases k with
  | ag cs xs hl k =>
    have := h.val E E' xs.toList ⟨by simpa using hl, fun j c x hc hx => k j c x hc (by simpa using hx)⟩
    exact .ag cs xs hl (fun j c x hc hx => this.2 j c x hc (by simpa using hx))⟩
theorem out_val {H : AH} {u : AV} [h : Val u] : Outv H u (fun _ => u) [] := fun w0 E x hs hx =>
  ⟨fun _ => ⟨none, 0⟩, fun j g hj => by simp at hj, fun i j g hi => by simp at hi, fun k E' _ _ _ => ⟨fun j blk hj => by simp at hj, h.val E E' x hx⟩⟩
theorem bok_out {w0 : World} {E E' : Env} {H : AH} (hs : Sta w0 (fun _ => False) H E) {b : Nat} {blk : ABlk} (hb : hk H b = some blk) [h : ValL blk.cells] (hw : E'.w = E.w) : BOK E' (E.L b) blk := by
  obtain ⟨_, _, h3⟩ := hs.own b blk hb
  cases eg : (E.L b).g with
  | none => exact .mk_none eg (h3.none eg)
  | some g =>
    obtain ⟨cs, c1, c2, c3, c4, c5⟩ := h3.at eg
    exact .mk eg ⟨cs, by rw [hw]; exact c1, c2, c3, c4, h.val E E' _ c5⟩
theorem out_sl {H : AH} {b n : Nat} {blk : ABlk} (hb : hk H b = some blk) [h : ValL blk.cells] : Outv H (.sl b n) (fun k => .sl k n) [blk] := fun w0 E x hs hx => by
  obtain ⟨h1, h2, _⟩ := hs.own b blk hb
  refine ⟨fun _ => E.L b, fun j g _ e => (h2 g e).resolve_right id, fun i j g hi hj _ _ => by simp at hi hj; omega, fun k E' hw _ hD => ⟨fun j blk' hj => ?_, ?_⟩⟩
  · have : blk' = blk := by
      cases j with
      | zero => simpa using hj.symm
      | succ j => simp at hj
    subst this
    exact bok_out hs hb hw
  · cases hx with
    | sl b n hb hn =>
      obtain ⟨d1, d2⟩ := hD 0 (by simp)
      simp only [Nat.add_zero] at d1 d2
      rw [← d2] at hn ⊢
      exact .sl _ _ d1 hn
theorem out_tp {H : AH} {b n : Nat} {blk : ABlk} {us : List AV} (hb : hk H b = some blk) [h : ValL blk.cells] [h' : ValL us] : Outv H (.tp (.sl b n :: us)) (fun k => .tp (.sl k n :: us)) [blk] := fun w0 E x hs hx => by
  cases hx with
  | tp cs xs hl hx =>
    have hR : RVs E (.sl b n :: us) xs.toList := ⟨by simpa using hl, fun j c x hc hx' => hx j c x hc (by simpa using hx')⟩
    obtain ⟨y, ys, hy, r1, r2⟩ := hR.cons_inv
    obtain ⟨ls, l1, l2, l3⟩ := out_sl (n := n) hb w0 E y hs r1
    refine ⟨ls, l1, l2, fun k E' hw hS hD => ⟨(l3 k E' hw hS hD).1, ?_⟩⟩
    have := RVs.cons (l3 k E' hw hS hD).2 (h'.val E E' ys r2)
    rw [← hy] at this
    exact .tp _ xs (by simpa using hl) (fun j c x hc hx => this.2 j c x hc (by simpa using hx))

/-- the end of a function's text -/
def RetQ (P : Program) (fn : Func) (v : Nat → AV) (bs : List ABlk) : AQ := fun e _ H T => (e = .normal ∨ e = .ret) ∧ ∃ u, ResV P fn H T u ∧ Outv H u v bs
theorem RetQ.mk {fn : Func} {v : Nat → AV} {bs : List ABlk} {e : Exit} {k : Nat} {H : AH} {T : AT} {u : AV} (he : e = .normal ∨ e = .ret) (hr : ResV P fn H T u) (ho : Outv H u v bs) : RetQ P fn v bs e k H T := ⟨he, u, hr, ho⟩
theorem Fresh.of {f : FuncId} {fn : Func} {c : Code} {args : List AV} {v : Nat → AV} {bs : List ABlk} (hf : P.funcs[f]? = some fn) (hb : fn.body = some c) (hn : args.length ≤ fn.ntmps)
    (h : ∀ w, Gol P fn.ntmps w (fun _ => False) c 0 [] (slots args) (RetQ P fn v bs)) : Fresh P f args v bs := by
  intro E0 xs hS hD hx
  refine calls_of_wp hf hb ?_
  have hx' : ∀ (t : Nat) u, args[t]? = some u → ∃ x, xs[t]? = some x ∧ RV E0 u x := fun t u hu => hx.at hu
  have hl := hx.1
  have hst : St fn.ntmps E0.w (fun _ => False) 0 [] (slots args) { tmps := xs.toArray ++ Array.replicate (fn.ntmps - xs.toArray.size) undef, defers := [] } E0.w := by
    refine ⟨E0, rfl, ⟨rfl, rfl, rfl, Nat.le_refl _, fun _ _ _ => rfl, fun g => ⟨fun h => absurd h (hS g), fun ⟨b, blk, h, _⟩ => (by cases h)⟩, fun b blk h => (by cases h), fun b b' k1 k2 g h => (by cases h)⟩, fun b hb => absurd hb (hD b), fun t u hu => ?_, by simp; omega, rfl⟩
    obtain ⟨x, h1, h2⟩ := hx' t u (slots_get args t u hu)
    have hlt : t < xs.length := (List.getElem?_eq_some_iff.1 h1).1
    exact ⟨x, by rw [Array.getElem?_append_left (by simpa using hlt)]; simpa using h1, h2⟩
  refine wp_mono (h E0.w _ _ hst) ?_
  rintro e a' w' ⟨k', H', T', ⟨E, e1, e2, e3, e4, e5, e6⟩, he, u, hr, ho⟩
  obtain ⟨x, hrun, hxu⟩ := hr _ _ E a' e2 e4
  obtain ⟨ls, l1, l2, l3⟩ := ho _ E x e2 hxu
  subst e1
  have hbel : Below E0.w.heap.size E0.w E.w := ⟨e2.os, e2.tape, e2.output, e2.size, fun g hg => e2.frame g hg (fun h => h)⟩
  rcases he with rfl | rfl
  · exact ⟨e6, x, hrun, x, ls, rfl, hbel, l1, l2, fun k E' hw hS hD => l3 k E' hw hS hD⟩
  · exact ⟨e6, x, hrun, x, ls, rfl, hbel, l1, l2, fun k E' hw hS hD => l3 k E' hw hS hD⟩

/-! ### States told anew -/
/-- own blocks under other numbers -/
def rmap : List (Nat × Nat) → Nat → Nat
  | [], b => b
  | (i, j) :: l, b => bif Nat.beq i b then j else rmap l b
/-- the word u' of the state as it is, the word u of the state as it shall be told; ρ: which own block is meant -/
inductive Rn (ρ : Nat → Nat) : AV → AV → Prop
  | v {x y : Value} (h : x = y) : Rn ρ (.v x) (.v y)
  | pt {b b' o o' : Nat} (hb : ρ b = b') (ho : o' = o) : Rn ρ (.pt b' o') (.pt b o)
  | sl {b b' n n' : Nat} (hb : ρ b = b') (hn : n' = n) : Rn ρ (.sl b' n') (.sl b n)
  | sb {b b' o o' n n' : Nat} {c c' : Option Nat} (hb : ρ b = b') (ho : o' = o) (hn : n' = n) (hc : c' = c) : Rn ρ (.sb b' o' n' c') (.sb b o n c)
  | sc {b b' n n' c c' : Nat} (hb : ρ b = b') (hn : n' = n) (hc : c' = c) : Rn ρ (.sc b' n' c') (.sc b n c)
  | clo {u u' : AV} (h : Clo u) (e : u' = u) : Rn ρ u' u
def RnT (ρ : Nat → Nat) (T' : AT) : AT → Prop
  | [] => True
  | (i, u) :: T => (∃ u', lk T' i = some u' ∧ Rn ρ u' u) ∧ RnT ρ T' T
def RnH (ρ : Nat → Nat) (k : Nat) (H' : AH) : AH → Prop
  | [] => True
  | (_, none) :: H => RnH ρ k H' H
  | (b, some blk) :: H => (b < k ∧ ∃ blk', hk H' (ρ b) = some blk' ∧ blk'.cells = blk.cells ∧ blk'.elem = blk.elem ∧ blk'.sz = blk.sz ∧ CloL blk.cells) ∧ RnH ρ k H' H
theorem RnT.n {ρ : Nat → Nat} {T' : AT} : RnT ρ T' [] := trivial
theorem RnT.c {ρ : Nat → Nat} {T' T : AT} {i : Nat} {u u' : AV} (h : lk T' i = some u') (hr : Rn ρ u' u) (ht : RnT ρ T' T) : RnT ρ T' ((i, u) :: T) := ⟨⟨u', h, hr⟩, ht⟩
theorem RnH.n {ρ : Nat → Nat} {k : Nat} {H' : AH} : RnH ρ k H' [] := trivial
theorem RnH.c {ρ : Nat → Nat} {k : Nat} {H' H : AH} {b : Nat} {blk blk' : ABlk} [hc : CloL blk.cells] (hb : Nat.blt b k = true) (h : hk H' (ρ b) = some blk') (h1 : blk'.cells = blk.cells) (h2 : blk'.elem = blk.elem) (h3 : blk'.sz = blk.sz) (ht : RnH ρ k H' H) : RnH ρ k H' ((b, some blk) :: H) :=
  ⟨⟨by simpa [Nat.blt_eq] using hb, blk', h, h1, h2, h3, hc⟩, ht⟩
/-- numbers from k on are moved beyond k' -/
def rmp (k' : Nat) (l : List (Nat × Nat)) (k b : Nat) : Nat := if k ≤ b then k' + b else rmap l b
theorem rmp_ge (k' k : Nat) (l : List (Nat × Nat)) (b : Nat) (h : k ≤ b) : k' ≤ rmp k' l k b := by unfold rmp; rw [if_pos h]; omega
theorem RnT.get {ρ : Nat → Nat} {T' : AT} : ∀ {T : AT}, RnT ρ T' T → ∀ t u, lk T t = some u → ∃ u', lk T' t = some u' ∧ Rn ρ u' u
  | [], _, t, u, h => by cases h
  | (i, w) :: T, hr, t, u, h => by
    rw [lk_cons] at h
    split at h
    · rename_i e; subst e; injection h with h; subst h; exact hr.1
    · exact RnT.get hr.2 t u h
theorem RnH.get {ρ : Nat → Nat} {k : Nat} {H' : AH} : ∀ {H : AH}, RnH ρ k H' H → ∀ b blk, hk H b = some blk → b < k ∧ ∃ blk', hk H' (ρ b) = some blk' ∧ blk'.cells = blk.cells ∧ blk'.elem = blk.elem ∧ blk'.sz = blk.sz ∧ CloL blk.cells
  | [], _, b, blk, h => by cases h
  | (i, none) :: H, hr, b, blk, h => by
    rw [hk_cons] at h
    split at h
    · cases h
    · exact RnH.get (H := H) hr b blk h
  | (i, some w) :: H, hr, b, blk, h => by
    rw [hk_cons] at h
    split at h
    · rename_i e; subst e; injection h with h; subst h; exact hr.1
    · exact RnH.get (H := H) hr.2 b blk h
def inj1 (ρ : Nat → Nat) (H : AH) : Bool := H.all fun p => H.all fun q => Nat.beq p.1 q.1 || !Nat.beq (ρ p.1) (ρ q.1)
theorem hk_mem {H : AH} {b : Nat} {blk : ABlk} (h : hk H b = some blk) : (b, some blk) ∈ H := by
  induction H with
  | nil => cases h
  | cons p H ih =>
    obtain ⟨j, v⟩ := p
    rw [hk_cons] at h
    split at h
    · rename_i e; subst e; subst h; exact List.mem_cons_self
    · exact List.mem_cons_of_mem _ (ih h)
theorem Le.mk (ρ : Nat → Nat) {k' k : Nat} {H' H : AH} {T' T : AT} (hT : RnT ρ T' T) (hH : RnH ρ k H' H) (hi : inj1 ρ H = true) (hk : ∀ b, k ≤ b → k' ≤ ρ b) : Le k' H' T' k H T := by
  rintro n w0 M a w ⟨E, e1, e2, e3, e4, e5, e6⟩
  let F : Env := { w := E.w, S := fun g => ∃ b blk, Proofs.Ytnghcfjejgdnlaa.hk H b = some blk ∧ (E.L (ρ b)).g = some g, L := fun b => E.L (ρ b), D := fun b => E.D (ρ b) }
  have hsee : E.sees F := ⟨Nat.le_refl _, fun _ _ _ => rfl, fun g _ ⟨b, blk, hb, e⟩ => by
    obtain ⟨_, blk', h1, _⟩ := hH.get b blk hb
    exact (e2.seq g).2 ⟨ρ b, blk', h1, e⟩⟩
  refine ⟨F, e1, ⟨e2.os, e2.tape, e2.output, e2.size, e2.frame, fun g => Iff.rfl, fun b blk hb => ?_, fun b b' k1 k2 g h1 h2 x1 x2 => ?_⟩, fun b hb => ?_, fun t u hu => ?_, e5, e6⟩
  · obtain ⟨_, blk', h1, h2, h3, h4, h5⟩ := hH.get b blk hb
    obtain ⟨o1, o2, o3⟩ := e2.own (ρ b) blk' h1
    refine ⟨o1, o2, ?_⟩
    cases eg : (E.L (ρ b)).g with
    | none => exact .mk_none eg (by have := o3.none eg; rw [h2] at this; exact this)
    | some g =>
      obtain ⟨cs, c1, c2, c3, c4, c5⟩ := o3.at eg
      rw [h2] at c4 c5
      rw [h3] at c1
      rw [h4] at c3
      exact .mk eg ⟨cs, c1, c2, c3, c4, CloL.rvs (h := h5) hsee c5⟩
  · obtain ⟨_, b1, h3, _⟩ := hH.get b k1 h1
    obtain ⟨_, b2, h4, _⟩ := hH.get b' k2 h2
    have := e2.inj (ρ b) (ρ b') b1 b2 g h3 h4 x1 x2
    have hh := List.all_eq_true.1 (List.all_eq_true.1 hi _ (hk_mem h1)) _ (hk_mem h2)
    simp only [Bool.or_eq_true] at hh
    rcases hh with hh | hh
    · exact Nat.eq_of_beq_eq_true hh
    · simp [this] at hh
  · have hb' : E.D (ρ b) := hb
    have := e3 _ hb'
    rcases Nat.lt_or_ge b k with h | h
    · exact h
    · have := hk b h; omega
  · obtain ⟨u', h1, h2⟩ := hT.get t u hu
    obtain ⟨x, hx, hr⟩ := e4 t u' h1
    refine ⟨x, hx, ?_⟩
    cases h2 with
    | v h => subst h; rw [hr.v_inv]; exact .v _
    | pt hb ho => subst hb ho; obtain ⟨g, rfl, hD, hg⟩ := hr.pt_inv; exact .pt _ _ g hD hg
    | sl hb hn => subst hb hn; cases hr with | sl b n hD hn => exact RV.sl (E := F) _ _ hD hn
    | sb hb ho hn hc => subst hb ho hn hc; cases hr with | sb b o n c A c' hD hA hn hc => exact RV.sb (E := F) _ _ _ _ _ _ hD hA hn hc
    | sc hb hn hc => subst hb hn hc; cases hr with | sc b n c hD hc hn => exact RV.sc (E := F) _ _ _ hD hc hn
    | clo h e => subst e; exact h.cl E F x hsee hr
theorem Le.mk' (l : List (Nat × Nat)) {k' k : Nat} {H' H : AH} {T' T : AT} (hT : RnT (rmp k' l k) T' T) (hH : RnH (rmp k' l k) k H' H) (hi : inj1 (rmp k' l k) H = true) : Le k' H' T' k H T := Le.mk _ hT hH hi (rmp_ge k' k l)
/-- a nil slice, told as an empty own one -/
theorem Le.nilOwn {k : Nat} {H : AH} {T : AT} {i : Nat} (e : TypeId) (sz : Nat) (h : lk T i = some (.v (.slice none 0 0))) : Le k H T (k + 8) ((k, some ⟨[], e, sz⟩) :: H) ((i, .sl k 0) :: T) := by
  rintro n w0 M a w ⟨E, e1, e2, e3, e4, e5, e6⟩
  have hk0 : ¬ E.D k := fun h => by have := e3 k h; omega
  obtain ⟨h1, h2⟩ := e2.new hk0 E.w ⟨none, 0⟩ ⟨[], e, sz⟩ (Nat.le_refl _) (fun _ _ => rfl) rfl rfl rfl (fun g hg => by cases hg) (fun E' _ _ => .mk_none rfl ⟨rfl, rfl⟩)
  refine ⟨E.new k E.w ⟨none, 0⟩, e1, h1, fun b hb => ?_, fun t u hu => ?_, e5, e6⟩
  · rcases hb with hb | hb
    · have := e3 b hb; omega
    · omega
  · rw [lk_cons] at hu
    split at hu
    · rename_i ei; subst ei; injection hu with hu; subst hu
      obtain ⟨x, hx, hr⟩ := e4 i _ h
      refine ⟨x, hx, ?_⟩
      rw [hr.v_inv]
      have : RV (E.new k E.w ⟨none, 0⟩) (.sl k 0) (.slice (((E.new k E.w ⟨none, 0⟩).L k).g.map fun g => ⟨g, 0, none⟩) 0 ((E.new k E.w ⟨none, 0⟩).L k).c) := .sl _ _ (.inr rfl) (Nat.zero_le _)
      simpa [Env.new] using this
    · obtain ⟨x, hx, hr⟩ := e4 t u hu; exact ⟨x, hx, hr.mono h2⟩
end
end Go.Proofs.Ytnghcfjejgdnlaa
