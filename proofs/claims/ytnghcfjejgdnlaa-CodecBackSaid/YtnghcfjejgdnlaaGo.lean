/-
  The program logic's rules for statements: sequence, branch, loop, a region in its text's order and in any order. No condition.
-/
import Derived.Test.YtnghcfjejgdnlaaOpa
set_option linter.unusedSimpArgs false
set_option linter.unusedVariables false
set_option linter.unusedSectionVars false
namespace Go.Proofs.Ytnghcfjejgdnlaa
open Go.RowKit

abbrev AQ := Exit → Nat → AH → AT → Prop
/-- what an abstract end says of a real one -/
def lif (n : Nat) (w0 : World) (M : Nat → Prop) (Q : AQ) : Exit → Act → World → Prop := fun e a w => ∃ k H T, St n w0 M k H T a w ∧ Q e k H T
/-- run from the state (k, H, T) the code ends as Q says -/
def Gol (P : Program) (n : Nat) (w0 : World) (M : Nat → Prop) (c : Code) (k : Nat) (H : AH) (T : AT) (Q : AQ) : Prop := ∀ a w, St n w0 M k H T a w → c.wp P (lif n w0 M Q) a w
def thn (P : Program) (n : Nat) (w0 : World) (M : Nat → Prop) (c : Code) (Q : AQ) : AQ
  | .normal, k, H, T => Gol P n w0 M c k H T Q
  | e, k, H, T => Q e k H T
def inBlk (id : Nat) (Q : AQ) : AQ
  | .exit i, k, H, T => if i = id then Q .normal k H T else Q (.exit i) k H T
  | e, k, H, T => Q e k H T
/-- the state can be told so -/
def Le (k' : Nat) (H' : AH) (T' : AT) (k : Nat) (H : AH) (T : AT) : Prop := ∀ n w0 M a w, St n w0 M k' H' T' a w → St n w0 M k H T a w
def rnd {ι : Type} (I : ι → Prop) (μ : ι → Nat) (kL : Nat) (Hh : ι → AH) (Th : ι → AT) (i : ι) (Q : AQ) : AQ
  | .normal, k, H, T => ∃ j, I j ∧ μ j < μ i ∧ Le k H T kL (Hh j) (Th j)
  | e, k, H, T => Q e k H T

section
variable {P : Program} {n : Nat} {w0 : World} {M : Nat → Prop} {k : Nat} {H : AH} {T : AT} {Q : AQ}
theorem Gol.skip (h : Q .normal k H T) : Gol P n w0 M .skip k H T Q := fun a w hs => wp_skip ⟨k, H, T, hs, h⟩
theorem Gol.exit {id : Nat} (h : Q (.exit id) k H T) : Gol P n w0 M (.exit id) k H T Q := fun a w hs => wp_exit ⟨k, H, T, hs, h⟩
theorem Gol.ret (h : Q .ret k H T) : Gol P n w0 M .ret k H T Q := fun a w hs => wp_ret ⟨k, H, T, hs, h⟩
theorem Gol.seq {x y : Code} (h : Gol P n w0 M x k H T (thn P n w0 M y Q)) : Gol P n w0 M (.seq x y) k H T Q := fun a w hs =>
  wp_seq (wp_mono (h a w hs) fun e a' w' ⟨k', H', T', hs', hq⟩ => by
    cases e with
    | normal => exact hq a' w' hs'
    | _ => exact ⟨k', H', T', hs', hq⟩)
theorem Gol.cond {c : Operand} {x y : Code} {t : Bool} (hc : ev T c = some (.v (.bool t))) (ht : t = true → Gol P n w0 M x k H T Q) (hf : t = false → Gol P n w0 M y k H T Q) : Gol P n w0 M (.cond c x y) k H T Q := fun a w hs => by
  obtain ⟨E, e1, e2, e3, e4, e5, e6⟩ := hs
  have hv := (e4.ev hc).v_inv
  exact wp_cond_split hv (fun h => ht h a w ⟨E, e1, e2, e3, e4, e5, e6⟩) (fun h => hf h a w ⟨E, e1, e2, e3, e4, e5, e6⟩)
theorem Gol.block {id : Nat} {c : Code} (h : Gol P n w0 M c k H T (inBlk id Q)) : Gol P n w0 M (.block id c) k H T Q := fun a w hs =>
  wp_block (wp_mono (h a w hs) fun e a' w' ⟨k', H', T', hs', hq⟩ => by
    cases e with
    | exit i =>
      simp only [inBlk] at hq
      simp only [Exit.inBlock]
      split
      · rename_i hi; rw [if_pos hi] at hq; exact ⟨k', H', T', hs', hq⟩
      · rename_i hi; rw [if_neg hi] at hq; exact ⟨k', H', T', hs', hq⟩
    | _ => exact ⟨k', H', T', hs', hq⟩)
theorem Gol.le {k' : Nat} {H' : AH} {T' : AT} {c : Code} (h : Le k H T k' H' T') (g : Gol P n w0 M c k' H' T' Q) : Gol P n w0 M c k H T Q := fun a w hs => g a w (h n w0 M a w hs)
theorem Gol.mono {c : Code} {Q' : AQ} (h : Gol P n w0 M c k H T Q) (hq : ∀ e k H T, Q e k H T → Q' e k H T) : Gol P n w0 M c k H T Q' := fun a w hs => wp_mono (h a w hs) fun e a' w' ⟨k', H', T', hs', h'⟩ => ⟨k', H', T', hs', hq _ _ _ _ h'⟩

theorem wp_loop_ix {ι : Type} {c : Code} {a : Act} {w : World} {R : Exit → Act → World → Prop} (I : ι → Act → World → Prop) (μ : ι → Nat) (i0 : ι) (h₀ : I i0 a w)
    (round : ∀ i a w, I i a w → c.wp P (Exit.then (fun a' w' => ∃ j, I j a' w' ∧ μ j < μ i) R) a w) : (Code.loop c).wp P R a w := by
  intro b k cs
  have key : ∀ n i a w, μ i = n → I i a w → ∃ e a' w', R e a' w' ∧ Arrives P (lone (b.at a (.code c :: .inLoop c :: k)) cs w) b k cs e a' w' := by
    intro n
    induction n using Nat.strongRecOn with
    | _ n ih =>
      intro i a w hn hI
      obtain ⟨e, a₁, w₁, hq, harr⟩ := round i a w hI b (.inLoop c :: k) cs
      cases e with
      | normal =>
        obtain ⟨j, hI₁, hlt⟩ := hq
        obtain ⟨e₂, a₂, w₂, hq₂, harr₂⟩ := ih (μ j) (hn ▸ hlt) j a₁ w₁ rfl hI₁
        exact ⟨e₂, a₂, w₂, hq₂, .of_steps (Steps.trans harr (.one step_inLoop)) harr₂⟩
      | exit id => exact ⟨_, a₁, w₁, hq, .pass (x := .inLoop c) rfl (fun _ _ => .inl (by simp)) harr⟩
      | goto l => exact ⟨_, a₁, w₁, hq, .pass (x := .inLoop c) rfl (fun _ _ => .inl (by simp)) harr⟩
      | ret => exact ⟨_, a₁, w₁, hq, .pass (x := .inLoop c) rfl (fun _ _ => .inl (by simp)) harr⟩
      | panic ch => exact ⟨_, a₁, w₁, hq, .pass (x := .inLoop c) rfl (fun _ _ => .inl (by simp)) harr⟩
      | outgrown => exact ⟨_, a₁, w₁, hq, .pass (x := .inLoop c) rfl (fun _ _ => .inl (by simp)) harr⟩
  obtain ⟨e, a', w', hq, harr⟩ := key _ i0 a w rfl h₀
  exact ⟨e, a', w', hq, .of_steps (.one step_loop) harr⟩
theorem Gol.loop {ι : Type} {c : Code} (I : ι → Prop) (μ : ι → Nat) (kL : Nat) (Hh : ι → AH) (Th : ι → AT) (i0 : ι) (h0 : I i0) (start : Le k H T kL (Hh i0) (Th i0))
    (round : ∀ i, I i → Gol P n w0 M c kL (Hh i) (Th i) (rnd I μ kL Hh Th i Q)) : Gol P n w0 M (.loop c) k H T Q := fun a w hs =>
  wp_loop_ix (fun i a w => I i ∧ St n w0 M kL (Hh i) (Th i) a w) μ i0 ⟨h0, start n w0 M a w hs⟩ fun i a w ⟨hI, hs⟩ =>
    wp_mono (round i hI a w hs) fun e a' w' ⟨k', H', T', hs', hq⟩ => by
      cases e with
      | normal => obtain ⟨j, hj, hlt, hle⟩ := hq; exact ⟨j, ⟨hj, hle n w0 M a' w' hs'⟩, hlt⟩
      | _ => exact ⟨k', H', T', hs', hq⟩

theorem thn_n {c : Code} (h : Gol P n w0 M c k H T Q) : thn P n w0 M c Q .normal k H T := h
theorem thn_x {c : Code} {i : Nat} (h : Q (.exit i) k H T) : thn P n w0 M c Q (.exit i) k H T := h
theorem thn_r {c : Code} (h : Q .ret k H T) : thn P n w0 M c Q .ret k H T := h
theorem inBlk_n {id : Nat} (h : Q .normal k H T) : inBlk id Q .normal k H T := h
theorem inBlk_r {id : Nat} (h : Q .ret k H T) : inBlk id Q .ret k H T := h
theorem inBlk_hit {id : Nat} (h : Q .normal k H T) : inBlk id Q (.exit id) k H T := by simp only [inBlk, if_true]; exact h
theorem inBlk_miss {id i : Nat} (hne : Nat.beq i id = false) (h : Q (.exit i) k H T) : inBlk id Q (.exit i) k H T := by
  simp only [inBlk]
  rw [if_neg (fun e => by subst e; simp at hne)]
  exact h
section
variable {ι : Type} {I : ι → Prop} {μ : ι → Nat} {kL : Nat} {Hh : ι → AH} {Th : ι → AT} {i : ι}
theorem rnd_x {j : Nat} (h : Q (.exit j) k H T) : rnd I μ kL Hh Th i Q (.exit j) k H T := h
theorem rnd_r (h : Q .ret k H T) : rnd I μ kL Hh Th i Q .ret k H T := h
theorem rnd_n (j : ι) (hj : I j) (hm : μ j < μ i) (hl : Le k H T kL (Hh j) (Th j)) : rnd I μ kL Hh Th i Q .normal k H T := ⟨j, hj, hm, hl⟩
end
theorem Gol.cond_t {c : Operand} {x y : Code} {t : Bool} (hc : ev T c = some (.v (.bool t))) (ht : t = true) (h : Gol P n w0 M x k H T Q) : Gol P n w0 M (.cond c x y) k H T Q := Gol.cond hc (fun _ => h) (fun h => by rw [ht] at h; cases h)
theorem Gol.cond_f {c : Operand} {x y : Code} {t : Bool} (hc : ev T c = some (.v (.bool t))) (ht : t = false) (h : Gol P n w0 M y k H T Q) : Gol P n w0 M (.cond c x y) k H T Q := Gol.cond hc (fun h => by rw [ht] at h; cases h) (fun _ => h)

/-! ### Regions -/
def dstOf (ops : List Oper) (j : Nat) : Option Tmp := (ops[j]?).bind (·.dst)
def gvl (x : Value) (want : Bool) : Bool := match x with
  | .bool b => b == want
  | _ => false
/-- is the operation carried out? -/
def Wnt (ops : List Oper) (T : AT) (o : Oper) (r : Bool) : Prop := match o.guard with
  | none => r = true
  | some (j, want) => ∃ t x, dstOf ops j = some t ∧ lk T t = some (.v x) ∧ gvl x want = r
theorem wnt_n {ops : List Oper} {T : AT} {o : Oper} (h : o.guard = none) : Wnt ops T o true := by unfold Wnt; rw [h]
theorem wnt_g {ops : List Oper} {T : AT} {o : Oper} {r want b : Bool} {j : Nat} {t : Tmp} (hg : o.guard = some (j, want)) (hd : dstOf ops j = some t) (hl : lk T t = some (.v (.bool b))) (h : (b == want) = r) : Wnt ops T o r := by
  unfold Wnt; rw [hg]; exact ⟨t, .bool b, hd, hl, h⟩
/-- the condition itself was skipped -/
theorem wnt_u {ops : List Oper} {T : AT} {o : Oper} {want : Bool} {j : Nat} {t : Tmp} (hg : o.guard = some (j, want)) (hd : dstOf ops j = some t) (hl : lk T t = some (.v undef)) : Wnt ops T o false := by
  unfold Wnt; rw [hg]; exact ⟨t, undef, hd, hl, rfl⟩
/-- what is told of one step: what it needs, yields and turns -/
structure Stp where
  U : List Nat
  v : AV
  Hn : AH
/-- the operations' steps in the text's order -/
inductive Trc (P : Program) (ops : List Oper) : Nat → List Oper → AH → AT → List Stp → AH → AT → Nat → Prop
  | done (k : Nat) (H : AH) (T : AT) : Trc P ops k [] H T [] H T k
  | step {k k' kE : Nat} {o : Oper} {rest : List Oper} {H : AH} {T : AT} {d : Tmp} {U : List Nat} {v : AV} {Hn : AH} {tr : List Stp} {H' : AH} {T' : AT} (hk : k' = k + 8) (hd : o.dst = some d) (hg : Wnt ops T o true) (hs : StepU P o k U H T v Hn)
      (h : Trc P ops k' rest (Hn ++ H) ((d, v) :: T) tr H' T' kE) : Trc P ops k (o :: rest) H T (⟨U, v, Hn⟩ :: tr) H' T' kE
  | stepN {k k' kE : Nat} {o : Oper} {rest : List Oper} {H : AH} {T : AT} {U : List Nat} {v : AV} {Hn : AH} {tr : List Stp} {H' : AH} {T' : AT} (hk : k' = k + 8) (hd : o.dst = none) (hg : Wnt ops T o true) (hs : StepU P o k U H T v Hn)
      (h : Trc P ops k' rest (Hn ++ H) T tr H' T' kE) : Trc P ops k (o :: rest) H T (⟨U, v, Hn⟩ :: tr) H' T' kE
  | skip {k k' kE : Nat} {o : Oper} {rest : List Oper} {H : AH} {T : AT} {d : Tmp} {tr : List Stp} {H' : AH} {T' : AT} (hk : k' = k + 8) (hd : o.dst = some d) (hg : Wnt ops T o false)
      (h : Trc P ops k' rest H ((d, .v undef) :: T) tr H' T' kE) : Trc P ops k (o :: rest) H T (⟨[], .v undef, []⟩ :: tr) H' T' kE
  | skipN {k k' kE : Nat} {o : Oper} {rest : List Oper} {H : AH} {T : AT} {tr : List Stp} {H' : AH} {T' : AT} (hk : k' = k + 8) (hd : o.dst = none) (hg : Wnt ops T o false)
      (h : Trc P ops k' rest H T tr H' T' kE) : Trc P ops k (o :: rest) H T (⟨[], .v undef, []⟩ :: tr) H' T' kE
/-- the same, in two words -/
inductive Trb (P : Program) (ops : List Oper) : Nat → List Oper → AH → AT → List Stp → AH → AT → Nat → Prop
  | done (k : Nat) (H : AH) (T : AT) : Trb P ops k [] H T [] H T k
  | step {k k' kE : Nat} {o : Oper} {rest : List Oper} {H : AH} {T : AT} {U : List Nat} {v : AV} {Hn : AH} {tr : List Stp} {H' : AH} {T' : AT} (hk : k' + 1 = k + 9) (hg : Wnt ops T o true) (hs : StepU P o k U H T v Hn)
      (h : Trb P ops k' rest (Hn ++ H) (putT T o.dst v) tr H' T' kE) : Trb P ops k (o :: rest) H T (⟨U, v, Hn⟩ :: tr) H' T' kE
  | skip {k k' kE : Nat} {o : Oper} {rest : List Oper} {H : AH} {T : AT} {tr : List Stp} {H' : AH} {T' : AT} (hk : k' + 1 = k + 9) (hg : Wnt ops T o false)
      (h : Trb P ops k' rest H (putT T o.dst (.v undef)) tr H' T' kE) : Trb P ops k (o :: rest) H T (⟨[], .v undef, []⟩ :: tr) H' T' kE
theorem Trc.b {ops rest : List Oper} {tr : List Stp} {H' : AH} {T' : AT} {kE : Nat} (h : Trc P ops k rest H T tr H' T' kE) : Trb P ops k rest H T tr H' T' kE := by
  induction h with
  | done k H T => exact .done k H T
  | step hk hd hg hs _ ih => exact .step (congrArg (· + 1) hk) hg hs (by rw [hd]; exact ih)
  | stepN hk hd hg hs _ ih => exact .step (congrArg (· + 1) hk) hg hs (by rw [hd]; exact ih)
  | skip hk hd hg _ ih => exact .skip (congrArg (· + 1) hk) hg (by rw [hd]; exact ih)
  | skipN hk hd hg _ ih => exact .skip (congrArg (· + 1) hk) hg (by rw [hd]; exact ih)
def dstsOk (n : Nat) (ops : List Oper) : Bool := ops.all fun o => match o.dst with | some d => Nat.blt d n | none => true
theorem St.put {v : AV} {x : Value} {a : Act} {E : Env} {d : Option Tmp} {kE : Nat} (h2 : Sta w0 M H E) (h3 : ∀ b, E.D b → b < kE) (h4 : TR E T a) (h5 : a.tmps.size = n) (h6 : a.defers = []) (hx : RV E v x) (hd : ∀ t, d = some t → t < n) :
    St n w0 M kE H (putT T d v) (a.put d x) E.w := by
  refine ⟨E, rfl, h2, h3, ?_, ?_, ?_⟩
  · cases d with
    | none => exact h4
    | some t => exact h4.put (by rw [h5]; exact hd t rfl) hx
  · cases d <;> simp [Act.put, h5]
  · cases d <;> exact h6
theorem wanted_of {ops : List Oper} {o : Oper} {r : Bool} {E : Env} {a : Act} (hg : Wnt ops T o r) (hT : ∀ t, t ∈ o.looksAt ops.toArray → ∀ u, lk T t = some u → ∃ x, a.tmps[t]? = some x ∧ RV E u x) :
    Region.wanted o (yielded ops.toArray a.tmps) = r := by
  unfold Wnt at hg
  unfold Region.wanted
  split at hg
  · rename_i h; rw [h, hg]
  · rename_i j want h
    obtain ⟨t, b, h1, h2, h3⟩ := hg
    have hd : (ops.toArray[j]?).bind (·.dst) = some t := by simpa [dstOf] using h1
    obtain ⟨x, hx, hr⟩ := hT t (by simp only [Oper.looksAt, h, hd, Option.toList_some, List.mem_append, List.mem_singleton, or_true]) _ h2
    have := hr.v_inv
    subst this
    simp only [h, yielded, hd, Option.bind_some, hx]
    rw [← h3]
    cases x <;> rfl
theorem Trb.seq {ops rest : List Oper} {tr : List Stp} {H' : AH} {T' : AT} {kE : Nat} (h : Trb P ops k rest H T tr H' T' kE) (hd : dstsOk n ops = true) :
    ∀ (i : Nat) (a : Act) (w : World), ops.drop i = rest → St n w0 M k H T a w → Q .normal kE H' T' → wpOps P ops.toArray (lif n w0 M Q) (List.range' i rest.length) a w := by
  induction h with
  | done k H T => intro i a w _ hs hq; exact ⟨k, H, T, hs, hq⟩
  | @step k k' kE o rest H T U v Hn tr H' T' hk hg hs _ ih =>
    intro i a w he ⟨E, e1, e2, e3, e4, e5, e6⟩ hq
    have ho : ops[i]? = some o := by have := congrArg (fun l => l[0]?) he; simpa using this
    have hr : ops.drop (i + 1) = rest := by rw [← List.drop_drop, he]; rfl
    have hdd : ∀ t, o.dst = some t → t < n := fun t ht => by
      have := List.all_eq_true.1 hd o (List.mem_of_getElem? ho)
      rw [ht] at this
      simpa [Nat.blt_eq] using this
    have hw : Region.wanted o (yielded ops.toArray a.tmps) = true := wanted_of hg (fun t _ u hu => e4 t u hu)
    simp only [List.length_cons, List.range'_succ, wpOps, List.getElem?_toArray, ho, hw, if_true]
    subst e1
    refine .inl (hs.run w0 M H E a e2 (fun _ _ => rfl) (fun b hb1 hb2 hD => by have := e3 b hD; omega) (fun x _ u hu => e4.ev hu) _ _ fun x E' h1 h2 h3 h4 => ?_)
    exact ih (i + 1) _ _ hr (St.put h1 (fun b hb => by rcases h3 b hb with h | h; have := e3 b h; omega; omega) (e4.mono h2) e5 e6 h4 hdd) hq
  | @skip k k' kE o rest H T tr H' T' hk hg _ ih =>
    intro i a w he ⟨E, e1, e2, e3, e4, e5, e6⟩ hq
    have ho : ops[i]? = some o := by have := congrArg (fun l => l[0]?) he; simpa using this
    have hr : ops.drop (i + 1) = rest := by rw [← List.drop_drop, he]; rfl
    have hdd : ∀ t, o.dst = some t → t < n := fun t ht => by
      have := List.all_eq_true.1 hd o (List.mem_of_getElem? ho)
      rw [ht] at this
      simpa [Nat.blt_eq] using this
    have hw : Region.wanted o (yielded ops.toArray a.tmps) = false := wanted_of hg (fun t _ u hu => e4 t u hu)
    simp only [List.length_cons, List.range'_succ, wpOps, List.getElem?_toArray, ho, hw, Bool.false_eq_true, if_false]
    subst e1
    exact ih (i + 1) _ _ hr (St.put e2 (fun b hb => by have := e3 b hb; omega) e4 e5 e6 (.v undef) hdd) hq
theorem Gol.region {id : Nat} {ops : List Oper} {tr : List Stp} {H' : AH} {T' : AT} {kE : Nat} (h : Trc P ops k ops H T tr H' T' kE) (hd : dstsOk n ops = true) (hq : Q .normal kE H' T') : Gol P n w0 M (.region id ops.toArray false) k H T Q := fun a w hs =>
  wp_region (by
    have := h.b.seq (w0 := w0) (M := M) (Q := Q) hd 0 a w rfl hs hq
    simpa [List.range_eq_range'] using this)
end
end Go.Proofs.Ytnghcfjejgdnlaa
