/-
  The program logic's rules for calls: contracts, a call by its contract, the proof of a contract from the function's text; states told anew. No condition.
-/
import Derived.Test.YtnghcfjejgdnlaaAny2
set_option linter.unusedSimpArgs false
set_option linter.unusedVariables false
set_option linter.unusedSectionVars false
namespace Go.Proofs.Ytnghcfjejgdnlaa
open Go.RowKit

/-! ### Values without own blocks -/
/-- E' reads what nobody changes as E does -/
structure Env.sees (E E' : Env) : Prop where
  size : E.w.heap.size ≤ E'.w.heap.size
  keep : ∀ g, g < E.w.heap.size → ¬ E.S g → E'.w.heap[g]? = E.w.heap[g]?
  sub : ∀ g, g < E.w.heap.size → E'.S g → E.S g
class Clo (u : AV) : Prop where
  cl : ∀ (E E' : Env) (x : Value), E.sees E' → RV E u x → RV E' u x
class CloL (cs : List AV) : Prop where
  cl : ∀ c ∈ cs, Clo c
class OneL (cs : List AV) : Prop where
  one : cs.all AV.one = true
theorem CloL.rvs {cs : List AV} [h : CloL cs] {E E' : Env} {xs : List Value} (hE : E.sees E') (k : RVs E cs xs) : RVs E' cs xs :=
  ⟨k.1, fun j c x hc hx => (h.cl c (List.mem_of_getElem? hc)).cl E E' x hE (k.2 j c x hc hx)⟩
theorem CloL.all {cs : List AV} [h : CloL cs] {E E' : Env} (hE : E.sees E') {xs : List Value} (hl : xs.length = cs.length) (k : ∀ (j : Nat) c x, cs[j]? = some c → xs[j]? = some x → RV E c x) :
    ∀ (j : Nat) c x, cs[j]? = some c → xs[j]? = some x → RV E' c x := (CloL.rvs hE ⟨hl, k⟩).2
instance (x : Value) : Clo (.v x) := ⟨fun E E' y _ h => by rw [h.v_inv]; exact .v x⟩
instance (cs : List AV) [h : CloL cs] : Clo (.ag cs) := ⟨fun E E' y hE k => by
  cases k with | ag cs xs hl k => exact .ag cs xs hl (fun j c x hc hx => CloL.all (h := h) hE (xs := xs.toList) (by simpa using hl) (fun j c x hc hx => k j c x hc (by simpa using hx)) j c x hc (by simpa using hx))⟩
instance (cs : List AV) [h : CloL cs] : Clo (.tp cs) := ⟨fun E E' y hE k => by
  cases k with | tp cs xs hl k => exact .tp cs xs hl (fun j c x hc hx => CloL.all (h := h) hE (xs := xs.toList) (by simpa using hl) (fun j c x hc hx => k j c x hc (by simpa using hx)) j c x hc (by simpa using hx))⟩
instance (f : FuncId) (cs : List AV) [h : CloL cs] : Clo (.fn f cs) := ⟨fun E E' y hE k => by
  cases k with | fn f cs xs hl k => exact .fn f cs xs hl (fun j c x hc hx => CloL.all (h := h) hE (xs := xs.toList) (by simpa using hl) (fun j c x hc hx => k j c x hc (by simpa using hx)) j c x hc (by simpa using hx))⟩
theorem sees_cell {E E' : Env} (hE : E.sees E') {g o : Nat} {x : Value} (hg : g < E.w.heap.size) (hS : ¬ E.S g) (h : E.w.cell? ⟨g, o, none⟩ = some x) : E'.w.cell? ⟨g, o, none⟩ = some x := (World.cell?_of_block (hE.keep g hg hS)).trans h
instance (n : Nat) (f : Bool) (cs : List AV) [h : CloL cs] : Clo (.ex n f cs) := ⟨fun E E' y hE k => by
  cases k with
  | ex0 n f A c hn hf => exact .ex0 n f A c hn hf
  | ex n f cs g o c xs hn hf hg hS hl hx k => exact .ex n f cs g o c xs hn hf (Nat.lt_of_lt_of_le hg hE.size) (fun h' => hS (hE.sub g hg h')) hl (fun j x hj => sees_cell hE hg hS (hx j x hj)) (CloL.all (h := h) hE hl k)⟩
instance (cs : List AV) [h : CloL cs] : Clo (.ep cs) := ⟨fun E E' y hE k => by
  cases k with
  | ep cs g o xs hg hS hl hx k => exact .ep cs g o xs (Nat.lt_of_lt_of_le hg hE.size) (fun h' => hS (hE.sub g hg h')) hl (fun j x hj => sees_cell hE hg hS (hx j x hj)) (CloL.all (h := h) hE hl k)⟩
instance : CloL [] := ⟨fun c h => by cases h⟩
instance (c : AV) (cs : List AV) [h : Clo c] [k : CloL cs] : CloL (c :: cs) := ⟨fun d hd => by rcases List.mem_cons.1 hd with rfl | hd; exact h; exact k.cl d hd⟩
instance (a b : List AV) [h : CloL a] [k : CloL b] : CloL (a ++ b) := ⟨fun d hd => by rcases List.mem_append.1 hd with hd | hd; exact h.cl d hd; exact k.cl d hd⟩
instance (a : List AV) (n : Nat) [h : CloL a] : CloL (a.take n) := ⟨fun d hd => h.cl d (List.mem_of_mem_take hd)⟩
instance (a : List AV) (n : Nat) [h : CloL a] : CloL (a.drop n) := ⟨fun d hd => h.cl d (List.mem_of_mem_drop hd)⟩
instance (n : Nat) (u : AV) [h : Clo u] : CloL (List.replicate n u) := ⟨fun d hd => by rw [List.eq_of_mem_replicate hd]; exact h⟩
theorem CloL.vals (vs : List Value) : CloL (vs.map .v) := ⟨fun d hd => by obtain ⟨x, _, rfl⟩ := List.mem_map.1 hd; infer_instance⟩
instance (vs : List Value) : CloL (vs.map .v) := CloL.vals vs
instance (x : Value) : CloL (cu (.v x)) := CloL.vals _
instance (bs : List UInt8) : CloL (byA bs) := by rw [byA_vals]; infer_instance
instance (a : List AV) (n : Nat) (b : List AV) [CloL a] [CloL b] : CloL (spl a n b) := by unfold spl; infer_instance
instance : OneL [] := ⟨rfl⟩
instance (a b : List AV) [h : OneL a] [k : OneL b] : OneL (a ++ b) := ⟨by rw [List.all_append, h.one, k.one]; rfl⟩
instance (bs : List UInt8) : OneL (byA bs) := ⟨byA_ones bs⟩
instance (k : IntKind) (n : Int) (cs : List AV) [h : OneL cs] : OneL (.v (.int k n) :: cs) := ⟨by rw [List.all_cons, h.one]; rfl⟩
instance (a : List AV) (n : Nat) [h : OneL a] : OneL (a.take n) := ⟨List.all_eq_true.2 fun d hd => List.all_eq_true.1 h.one d (List.mem_of_mem_take hd)⟩
instance (a : List AV) (n : Nat) [h : OneL a] : OneL (a.drop n) := ⟨List.all_eq_true.2 fun d hd => List.all_eq_true.1 h.one d (List.mem_of_mem_drop hd)⟩

/-! ### Arguments -/
/-- passed as an argument, u is read as c -/
def Arg (H : AH) (u c : AV) (U : List Nat) : Prop := ∀ (w0 : World) (M : Nat → Prop) (Hr : AH) (E : Env) (x : Value), Sta w0 M Hr E → (∀ b ∈ U, hk Hr b = hk H b) → RV E u x → ∀ E0 : Env, E0.w = E.w → (∀ g, ¬ E0.S g) → RV E0 c x
theorem sees_free {E E0 : Env} (hw : E0.w = E.w) (hS : ∀ g, ¬ E0.S g) : E.sees E0 := ⟨by rw [hw]; exact Nat.le_refl _, fun g _ _ => by rw [hw], fun g _ h => absurd h (hS g)⟩
section
variable {H : AH}
theorem arg_clo {u : AV} [h : Clo u] : Arg H u u [] := fun _ _ _ E x _ _ hx E0 hw hS => h.cl E E0 x (sees_free hw hS) hx
theorem arg_sl {b n : Nat} {blk : ABlk} (hb : hk H b = some blk) [h : CloL blk.cells] : Arg H (.sl b n) (.ex n false blk.cells) [b] := fun _ _ Hr E x hs hU hx E0 hw hS => by
  have hb' := (hU b (by simp)).trans hb
  cases hx with
  | sl b n hD hn =>
    cases eg : (E.L b).g with
    | none => rw [((hs.own b blk hb').2.2.none eg).1]; exact .ex0 _ _ _ _ hn (fun h => by cases h)
    | some g =>
      obtain ⟨xs, h1, h2⟩ := own_read hs hb' eg
      have h3 := CloL.rvs (h := h) (sees_free hw hS) h1
      exact .ex _ _ _ g 0 _ xs hn (fun h => by cases h) (by rw [hw]; exact hs.lt hb' eg) (hS g) h3.1 (fun j y hy => by rw [hw, Nat.zero_add]; exact h2 j y hy) h3.2
theorem arg_sb' {b o n m : Nat} {c : Option Nat} {f : Bool} {blk : ABlk} (hb : hk H b = some blk) [h : CloL blk.cells] (ho : o + m ≤ blk.cells.length) (hm : n = 0 → m = 0) (hf : f = true → c = some n) :
    Arg H (.sb b o n c) (.ex n f ((blk.cells.drop o).take m)) [b] := fun _ _ Hr E x hs hU hx E0 hw hS => by
  have hb' := (hU b (by simp)).trans hb
  cases hx with
  | sb b o n c A c' hD hA hn hc =>
    have hf' : f = true → c' = n := fun h => hc n (hf h)
    by_cases h0 : n = 0
    · subst h0; rw [hm rfl]; simp only [List.take_zero]; exact .ex0 _ _ _ _ hn hf'
    · obtain ⟨g, eg, rfl⟩ := hA h0
      obtain ⟨xs, h1, h2⟩ := own_read hs hb' eg
      have h3 := ((CloL.rvs (h := h) (sees_free hw hS) h1).drop o).take m
      refine .ex _ _ _ g o _ _ hn hf' (by rw [hw]; exact hs.lt hb' eg) (hS g) h3.1 (fun j y hy => ?_) h3.2
      rw [List.getElem?_take] at hy
      split at hy
      · rw [List.getElem?_drop] at hy; rw [hw]; exact h2 _ y hy
      · cases hy
theorem arg_sb {b o n m : Nat} {c : Option Nat} {blk : ABlk} (hb : hk H b = some blk) [h : CloL blk.cells] (ho : o + m ≤ blk.cells.length) (hm : n = 0 → m = 0) : Arg H (.sb b o n c) (.ex n false ((blk.cells.drop o).take m)) [b] :=
  arg_sb' hb ho hm (fun h => by cases h)
inductive ArgL (H : AH) : List AV → List AV → List Nat → Prop
  | nil : ArgL H [] [] []
  | cons {u c : AV} {us cs : List AV} {U V : List Nat} (h : Arg H u c U) (k : ArgL H us cs V) : ArgL H (u :: us) (c :: cs) (U ++ V)
theorem ArgL.rvs {us cs : List AV} {U : List Nat} (h : ArgL H us cs U) {w0 : World} {M : Nat → Prop} {Hr : AH} {E : Env} (hs : Sta w0 M Hr E) (hU : ∀ b ∈ U, hk Hr b = hk H b) {xs : List Value} (hx : RVs E us xs) {E0 : Env} (hw : E0.w = E.w) (hS : ∀ g, ¬ E0.S g) : RVs E0 cs xs := by
  induction h generalizing xs with
  | nil => rw [hx.nil_inv]; exact RVs.nil E0
  | cons h k ih =>
    obtain ⟨x, ys, rfl, h1, h2⟩ := hx.cons_inv
    exact RVs.cons (h w0 M Hr E x hs (fun b hb => hU b (by simp [hb])) h1 E0 hw hS) (ih (fun b hb => hU b (by simp [hb])) h2)
end

/-! ### Contracts -/
/-- called with args the function returns v; of the memory that was there nothing changes; the blocks bs are new and the caller's own -/
def Fresh (P : Program) (f : FuncId) (args : List AV) (v : Nat → AV) (bs : List ABlk) : Prop :=
  ∀ (E0 : Env) (xs : List Value), (∀ g, ¬ E0.S g) → (∀ b, ¬ E0.D b) → RVs E0 args xs → Calls P f xs.toArray E0.w fun e w' => ∃ (x : Value) (ls : Nat → Loc), e = .returned x ∧ Below E0.w.heap.size E0.w w' ∧
    (∀ j g, j < bs.length → (ls j).g = some g → E0.w.heap.size ≤ g) ∧ (∀ i j g, i < bs.length → j < bs.length → (ls i).g = some g → (ls j).g = some g → i = j) ∧
    ∀ (k : Nat) (E' : Env), E'.w = w' → (∀ g, E'.S g → g < E0.w.heap.size ∨ ∃ j, j < bs.length ∧ (ls j).g = some g) → (∀ j, j < bs.length → E'.D (k + j) ∧ E'.L (k + j) = ls j) →
      (∀ j blk, bs[j]? = some blk → BOK E' (ls j) blk) ∧ RV E' (v k) x
class FnI (P : Program) (f : FuncId) : Prop where
  hc : ∀ args w, (callFunc f args).run P w = .ok (.enter f args) w
def nbk (k : Nat) : List ABlk → AH
  | [] => []
  | b :: bs => (k, some b) :: nbk (k + 1) bs
theorem hk_nbk (bs : List ABlk) : ∀ (k : Nat) (H : AH) (b : Nat), hk (nbk k bs ++ H) b = if k ≤ b ∧ b < k + bs.length then bs[b - k]? else hk H b := by
  induction bs with
  | nil => intro k H b; rw [if_neg (by simp)]; rfl
  | cons x bs ih =>
    intro k H b
    simp only [nbk, List.cons_append, hk_cons, ih, List.length_cons]
    by_cases h : k = b
    · subst h; rw [if_pos rfl, if_pos (by omega)]; simp
    · rw [if_neg h]
      by_cases h2 : k + 1 ≤ b ∧ b < k + 1 + bs.length
      · rw [if_pos h2, if_pos (by omega)]
        have : b - k = (b - (k + 1)) + 1 := by omega
        rw [this]; simp
      · rw [if_neg h2, if_neg (by omega)]
/-- new blocks that a call made -/
theorem Sta.news {w0 : World} {M : Nat → Prop} {H : AH} {E : Env} (h : Sta w0 M H E) {k : Nat} {bs : List ABlk} (hk0 : ∀ b, k ≤ b → b < k + bs.length → ¬ E.D b) (w' : World) (ls : Nat → Loc) (hb : Below E.w.heap.size E.w w')
    (hl : ∀ j g, j < bs.length → (ls j).g = some g → E.w.heap.size ≤ g) (hinj : ∀ i j g, i < bs.length → j < bs.length → (ls i).g = some g → (ls j).g = some g → i = j)
    (hB : ∀ E' : Env, E'.w = w' → (∀ g, E'.S g → g < E.w.heap.size ∨ ∃ j, j < bs.length ∧ (ls j).g = some g) → (∀ j, j < bs.length → E'.D (k + j) ∧ E'.L (k + j) = ls j) → (∀ j blk, bs[j]? = some blk → BOK E' (ls j) blk)) :
    ∃ E' : Env, E'.w = w' ∧ Sta w0 M (nbk k bs ++ H) E' ∧ E.le E' ∧ (∀ b, E'.D b → E.D b ∨ (k ≤ b ∧ b < k + bs.length)) ∧ (∀ g, E'.S g → g < E.w.heap.size ∨ ∃ j, j < bs.length ∧ (ls j).g = some g) ∧ (∀ j, j < bs.length → E'.D (k + j) ∧ E'.L (k + j) = ls j) := by
  let E' : Env := { w := w', S := fun g => E.S g ∨ ∃ j, j < bs.length ∧ (ls j).g = some g, L := fun b => if k ≤ b ∧ b < k + bs.length then ls (b - k) else E.L b, D := fun b => E.D b ∨ (k ≤ b ∧ b < k + bs.length) }
  have hne : ∀ b, E.D b → ¬ (k ≤ b ∧ b < k + bs.length) := fun b hb h => hk0 b h.1 h.2 hb
  have hle : E.le E' := ⟨hb.size, fun g hg _ => hb.block g hg, fun g hg hS => hS.resolve_right (fun ⟨j, hj, e⟩ => by have := hl j g hj e; omega), fun b hb => ⟨.inl hb, by show (if _ then _ else _) = _; rw [if_neg (hne b hb)]⟩⟩
  have hS' : ∀ g, E'.S g → g < E.w.heap.size ∨ ∃ j, j < bs.length ∧ (ls j).g = some g := fun g hg => hg.imp h.S_lt id
  have hnew : ∀ j, j < bs.length → E'.D (k + j) ∧ E'.L (k + j) = ls j := fun j hj => ⟨.inr ⟨by omega, by omega⟩, by show (if _ then _ else _) = _; rw [if_pos ⟨by omega, by omega⟩, Nat.add_sub_cancel_left]⟩
  have hH : ∀ b blk, hk (nbk k bs ++ H) b = some blk → (∃ j, b = k + j ∧ bs[j]? = some blk ∧ j < bs.length) ∨ (¬ (k ≤ b ∧ b < k + bs.length) ∧ hk H b = some blk) := by
    intro b blk hb
    rw [hk_nbk] at hb
    split at hb
    · rename_i h; exact .inl ⟨b - k, by omega, hb, by omega⟩
    · rename_i h; exact .inr ⟨h, hb⟩
  have hLo : ∀ b blk, hk H b = some blk → E'.L b = E.L b := fun b blk hb => (hle.dl b (h.own b blk hb).1).2
  have hin : ∀ j blk, bs[j]? = some blk → hk (nbk k bs ++ H) (k + j) = some blk := fun j blk hj => by
    have hlt := (List.getElem?_eq_some_iff.1 hj).1
    rw [hk_nbk, if_pos ⟨by omega, by omega⟩, Nat.add_sub_cancel_left]; exact hj
  refine ⟨E', rfl, ⟨hb.os.trans h.os, hb.tape.trans h.tape, hb.output.trans h.output, Nat.le_trans h.size hb.size, fun g hg hM => (hb.block g (Nat.lt_of_lt_of_le hg h.size)).trans (h.frame g hg hM), fun g => ⟨?_, ?_⟩, ?_, ?_⟩, hle, fun b hb => hb, hS', hnew⟩
  · rintro (hS | ⟨j, hj, e⟩)
    · obtain ⟨b, blk, hb, e⟩ := (h.seq g).1 hS
      exact ⟨b, blk, by rw [hk_nbk, if_neg (hne b (h.own b blk hb).1)]; exact hb, by rw [hLo b blk hb]; exact e⟩
    · exact ⟨k + j, bs[j], hin j _ (List.getElem?_eq_getElem hj), by rw [(hnew j hj).2]; exact e⟩
  · rintro ⟨b, blk, hb, e⟩
    rcases hH b blk hb with ⟨j, rfl, hj, hlt⟩ | ⟨hn, hb'⟩
    · rw [(hnew j hlt).2] at e; exact .inr ⟨j, hlt, e⟩
    · rw [hLo b blk hb'] at e; exact .inl ((h.seq g).2 ⟨b, blk, hb', e⟩)
  · intro b blk hb'
    rcases hH b blk hb' with ⟨j, rfl, hj, hlt⟩ | ⟨hn, hb'⟩
    · rw [(hnew j hlt).2]
      exact ⟨(hnew j hlt).1, fun g e => .inl (Nat.le_trans h.size (hl j g hlt e)), hB E' rfl hS' hnew j blk hj⟩
    · rw [hLo b blk hb']
      obtain ⟨h1, h2, h3⟩ := h.own b blk hb'
      exact ⟨.inl h1, h2, h3.mono hle (fun g e => hb.block g (h.lt hb' e))⟩
  · intro b b' k1 k2 g h1 h2 e1 e2
    rcases hH b k1 h1 with ⟨i, rfl, hi, hli⟩ | ⟨hn, h1'⟩ <;> rcases hH b' k2 h2 with ⟨j, rfl, hj, hlj⟩ | ⟨hn', h2'⟩
    · rw [(hnew i hli).2] at e1; rw [(hnew j hlj).2] at e2; rw [hinj i j g hli hlj e1 e2]
    · rw [(hnew i hli).2] at e1; rw [hLo _ _ h2'] at e2; have := hl i g hli e1; have := h.lt h2' e2; omega
    · rw [(hnew j hlj).2] at e2; rw [hLo _ _ h1'] at e1; have := hl j g hlj e2; have := h.lt h1' e1; omega
    · rw [hLo _ _ h1'] at e1; rw [hLo _ _ h2'] at e2; exact h.inj b b' k1 k2 g h1' h2' e1 e2

section
variable {P : Program} {k : Nat} {H : AH} {T : AT} {d : Option Tmp} {ty : TypeId} {ps : String} {af : Array Edge} {gd : Option (Nat × Bool)}
inductive evs (T : AT) : List Operand → List AV → Prop
  | nil : evs T [] []
  | cons {x : Operand} {u : AV} {xs : List Operand} {us : List AV} (h : ev T x = some u) (k : evs T xs us) : evs T (x :: xs) (u :: us)
theorem evs_rvs {E : Env} {a : Act} {ops : List Operand} {us : List AV} (h : evs T ops us) (hT : ∀ x ∈ ops, ∀ u, ev T x = some u → RV E u (a.eval x)) : RVs E us (ops.map a.eval) := by
  induction h with
  | nil => exact RVs.nil E
  | cons h k ih => exact RVs.cons (hT _ (by simp) _ h) (ih (fun y hy => hT y (by simp [hy])))
theorem s_call {f : FuncId} {fo : Operand} {ops : List Operand} {ts : Array TypeId} {us cs : List AV} {U : List Nat} {v : Nat → AV} {bs : List ABlk} [hF : FnI P f] (hf : ev T fo = some (.fn f [])) (hu : evs T ops us) (ha : ArgL H us cs U) (hc : Fresh P f cs v bs) (hb8 : bs.length ≤ 8) :
    StepU P ⟨d, .call { callee := .value fo, args := ops.toArray, argTypes := ts }, ty, ps, af, gd⟩ k U H T (v k) (nbk k bs) := by
  refine ⟨fun w0 M Hr E a hs hU hk0 hT K Q hK => ?_⟩
  have hfv := hT fo (by simp [Op.operands, Call.operands]) _ hf
  have hxs := evs_rvs (E := E) (a := a) hu (fun x hx => hT x (by simp [Op.operands, Call.operands, hx]))
  let E0 : Env := { w := E.w, S := fun _ => False, L := E.L, D := fun _ => False }
  have h0 := ha.rvs hs hU hxs (E0 := E0) rfl (fun g h => h)
  have hcall := hc E0 (ops.map a.eval) (fun g h => h) (fun b h => h) h0
  have hrun : (execOp a.eval ⟨d, .call { callee := .value fo, args := ops.toArray, argTypes := ts }, ty, ps, af, gd⟩).run P E.w = .ok (.enter f (ops.map a.eval).toArray) E.w := by
    generalize hfe : a.eval fo = fv at hfv
    cases hfv with
    | fn f cs xs hl h =>
      have : xs = #[] := Array.eq_empty_of_size_eq_zero (by simpa using hl)
      subst this
      simp only [execOp, resolve, hfe, Deferred.ofValue, invoke, Sem.run_bind, Sem.run_pure, Result.andThen_ok, Array.empty_append, Array.append_empty, hF.hc]
      simp
  unfold Oper.wp
  rw [hrun]
  simp only [Oper.upon]
  refine hcall.mono ?_
  rintro e w' ⟨x, ls, rfl, h1, h2, h3, h4⟩
  obtain ⟨E', e1, e2, e3, e4, e5, e6⟩ := hs.news (k := k) (bs := bs) (fun b hb1 hb2 => hk0 b hb1 (by omega)) w' ls h1 h2 h3 (fun E' hw hS hD => (h4 k E' hw hS hD).1)
  have := hK x E' e2 e3 (fun b hb => (e4 b hb).imp id (fun h => ⟨h.1, by omega⟩)) (h4 k E' e1 e5 e6).2
  rw [e1] at this
  exact this
end
end Go.Proofs.Ytnghcfjejgdnlaa
