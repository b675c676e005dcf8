/-
  Texts laid together: Trn2, Ty, Bld, Tb, Row, Open, Bri, Base, Num, Hash, Word, Sum, Tag, HF, St, St2, St3, Frz, Apw, Mrk, Mrk2, Cal. Conditions: as told in each.
-/
import Derived.Test.YtkkeeokeihkagaaGreatKa1
set_option linter.unusedSimpArgs false
set_option linter.unusedVariables false
set_option linter.unusedSectionVars false
/-
  The program logic: a call that takes own blocks over; states told anew whose blocks hold own slices; capacities and what lies behind a slice; append, copy and clear within own blocks. No condition.
-/
namespace Go.Proofs.YtkkeeokeihkagaaGreat
open Go.RowKit
/-! ### A call that takes own blocks over -/
inductive ArgT (ids : List Nat) : AV → AV → Prop
  | clo {u : AV} (h : Clo u) : ArgT ids u u
  | sl {j b n : Nat} (h : ids[j]? = some b) : ArgT ids (.sl b n) (.sl j n)
inductive ArgTL (ids : List Nat) : List AV → List AV → Prop
  | nil : ArgTL ids [] []
  | cons {u c : AV} {us cs : List AV} (h : ArgT ids u c) (k : ArgTL ids us cs) : ArgTL ids (u :: us) (c :: cs)
theorem ArgTL.rvs {ids : List Nat} {us cs : List AV} (h : ArgTL ids us cs) {E E0 : Env} (hs : E.sees E0) (hL : ∀ j b : Nat, ids[j]? = some b → E0.D j ∧ E0.L j = E.L b) : ∀ {xs : List Value}, RVs E us xs → RVs E0 cs xs := by
  induction h with
  | nil => intro xs hx; rw [hx.nil_inv]; exact RVs.nil E0
  | cons h k ih =>
    intro xs hx
    obtain ⟨x, ys, rfl, h1, h2⟩ := hx.cons_inv
    refine RVs.cons ?_ (ih h2)
    cases h with
    | clo h => exact h.cl E E0 x hs h1
    | @sl j b n h =>
      obtain ⟨d1, d2⟩ := hL j b h
      cases h1 with | sl b n _ hn => rw [← d2] at hn ⊢; exact .sl _ _ d1 hn
inductive TBs (H : AH) : List Nat → List ABlk → Prop
  | nil : TBs H [] []
  | cons {b : Nat} {ids : List Nat} {blk : ABlk} {bs : List ABlk} (hb : hk H b = some blk) (hv : CloL blk.cells) (t : TBs H ids bs) : TBs H (b :: ids) (blk :: bs)
theorem TBs.get {H : AH} {ids : List Nat} {bs : List ABlk} (h : TBs H ids bs) : ids.length = bs.length ∧ ∀ (j b : Nat) (blk : ABlk), ids[j]? = some b → bs[j]? = some blk → hk H b = some blk ∧ CloL blk.cells := by
  induction h with
  | nil => exact ⟨rfl, fun j b blk h => by simp at h⟩
  | @cons b ids blk bs hb hv t ih =>
    refine ⟨by simp [ih.1], fun j b' blk' h1 h2 => ?_⟩
    cases j with
    | zero => simp at h1 h2; subst h1 h2; exact ⟨hb, hv⟩
    | succ j => exact ih.2 j b' blk' (by simpa using h1) (by simpa using h2)
section
variable {P : Program} {k : Nat} {H : AH} {T : AT} {d : Option Tmp} {ty : TypeId} {ps : String} {af : Array Edge} {gd : Option (Nat × Bool)}
theorem s_turn {f : FuncId} {fo : Operand} {ops : List Operand} {ts : Array TypeId} {us cs : List AV} {H0 : List ABlk} {v : Nat → AV} {bs : List ABlk} (ids : List Nat) [hF : FnI P f] (hf : ev T fo = some (.fn f [])) (hu : evs T ops us) (hd : distinct ids = true) (hB : TBs H ids H0) (ha : ArgTL ids us cs) (hc : Turns P f H0 cs v bs) (hb8 : bs.length ≤ 8) :
    StepU P ⟨d, .call { callee := .value fo, args := ops.toArray, argTypes := ts }, ty, ps, af, gd⟩ k ids H T (v k) (nbk k bs ++ nones ids) := by
  refine ⟨fun w0 M Hr E a hs hU hk0 hT K Q hK => ?_⟩
  have hfv := hT fo (by simp [Op.operands, Call.operands]) _ hf
  have hxs := evs_rvs (E := E) (a := a) hu (fun x hx => hT x (by simp [Op.operands, Call.operands, hx]))
  obtain ⟨hlen, hget⟩ := hB.get
  have hown : ∀ (j b : Nat) (blk : ABlk), ids[j]? = some b → H0[j]? = some blk → hk Hr b = some blk ∧ CloL blk.cells := fun j b blk h1 h2 => by
    obtain ⟨h3, h4⟩ := hget j b blk h1 h2
    exact ⟨(hU b (List.mem_of_getElem? h1)).trans h3, h4⟩
  have hids : ∀ b ∈ ids, ∃ blk, hk Hr b = some blk := fun b hb => by
    obtain ⟨j, hj⟩ := List.getElem?_of_mem hb
    have hlt : j < H0.length := by rw [← hlen]; exact (List.getElem?_eq_some_iff.1 hj).1
    exact ⟨_, (hown j b _ hj (List.getElem?_eq_getElem hlt)).1⟩
  let E0 : Env := { w := E.w, S := fun g => ∃ b ∈ ids, (E.L b).g = some g, L := fun j => E.L (ids.getD j 0), D := fun j => j < ids.length }
  have hL0 : ∀ j b : Nat, ids[j]? = some b → E0.D j ∧ E0.L j = E.L b := fun j b h => ⟨(List.getElem?_eq_some_iff.1 h).1, by show E.L (ids.getD j 0) = _; rw [List.getD_eq_getElem?_getD, h]; rfl⟩
  have hsee : E.sees E0 := ⟨Nat.le_refl _, fun _ _ _ => rfl, fun g _ ⟨b, hb, e⟩ => by obtain ⟨blk, h1⟩ := hids b hb; exact (hs.seq g).2 ⟨b, blk, h1, e⟩⟩
  have h0 := ha.rvs hsee hL0 hxs
  have hidx : ∀ j, j < H0.length → ∃ b, ids[j]? = some b := fun j hj => ⟨_, List.getElem?_eq_getElem (by omega)⟩
  have hcall := hc E0 _ (fun j blk hj => by
      have hlt := (List.getElem?_eq_some_iff.1 hj).1
      obtain ⟨b, h1⟩ := hidx j hlt
      obtain ⟨h2, h3⟩ := hown j b blk h1 hj
      obtain ⟨d1, d2⟩ := hL0 j b h1
      refine ⟨d1, ?_⟩
      rw [d2]
      obtain ⟨_, _, h4⟩ := hs.own b blk h2
      cases eg : (E.L b).g with
      | none => exact .mk_none eg (h4.none eg)
      | some g =>
        obtain ⟨cs, c1, c2, c3, c4, c5⟩ := h4.at eg
        exact .mk eg ⟨cs, c1, c2, c3, c4, CloL.rvs (h := h3) hsee c5⟩)
    (fun g => by
      constructor
      · rintro ⟨b, hb, e⟩
        obtain ⟨j, hj⟩ := List.getElem?_of_mem hb
        exact ⟨j, by rw [← hlen]; exact (List.getElem?_eq_some_iff.1 hj).1, by rw [(hL0 j b hj).2]; exact e⟩
      · rintro ⟨j, hj, e⟩
        obtain ⟨b, h1⟩ := hidx j hj
        rw [(hL0 j b h1).2] at e
        exact ⟨b, List.mem_of_getElem? h1, e⟩)
    (fun i j g hi hj ei ej => by
      obtain ⟨b, h1⟩ := hidx i hi
      obtain ⟨c, h2⟩ := hidx j hj
      rw [(hL0 i b h1).2] at ei
      rw [(hL0 j c h2).2] at ej
      have := hs.inj b c _ _ g (hown i b _ h1 (List.getElem?_eq_getElem hi)).1 (hown j c _ h2 (List.getElem?_eq_getElem hj)).1 ei ej
      subst this
      exact distinct_inj hd i j b h1 h2)
    (fun b hb => by rw [← hlen]; exact hb) h0
  have hrun : (execOp a.eval ⟨d, .call { callee := .value fo, args := ops.toArray, argTypes := ts }, ty, ps, af, gd⟩).run P E.w = .ok (.enter f (ops.map a.eval).toArray) E.w := by
    generalize hfe : a.eval fo = fv at hfv
    cases hfv with
    | fn f cs xs hl h =>
      have : xs = #[] := Array.eq_empty_of_size_eq_zero (by simpa using hl)
      subst this
      simp only [execOp, resolve, hfe, Deferred.ofValue, invoke, Sem.run_bind, Sem.run_pure, Result.andThen_ok, Array.empty_append, Array.append_empty, hF.hc]
      simp
  unfold Oper.wp
  rw [hrun]
  simp only [Oper.upon]
  refine hcall.mono ?_
  rintro e w' ⟨x, ls, rfl, h1, h2, h3, h4, h5, h6, h7, h8⟩
  obtain ⟨E', e1, e2, e3, e4, e5⟩ := hs.turns (k := k) (bs := bs) hids (fun b hb1 hb2 => hk0 b hb1 (by omega)) w' ls h1 h2 h3 h4 h5 h6 h7 (fun E' hw hD => (h8 k E' hw hD).1)
  have := hK x E' (by rw [List.append_assoc]; exact e2) e3 (fun b hb => (e4 b hb).imp id (fun h => ⟨h.1, by omega⟩)) (h8 k E' e1 e5).2
  rw [e1] at this
  exact this
end
/-! ### States told anew -/
inductive Rn3 (ρ : Nat → Nat) : AV → AV → Prop
  | r {u' u : AV} (h : Rn ρ u' u) : Rn3 ρ u' u
  | cs {b b' n n' c : Nat} (hb : ρ b = b') (hn : n' = n) : Rn3 ρ (.sc b' n' c) (.sl b n)
  | ag {us' us : List AV} (hl : us'.length = us.length) (h : ∀ (j : Nat) u' u, us'[j]? = some u' → us[j]? = some u → Rn3 ρ u' u) : Rn3 ρ (.ag us') (.ag us)
def Rn3L (ρ : Nat → Nat) (us' us : List AV) : Prop := us'.length = us.length ∧ ∀ (j : Nat) u' u, us'[j]? = some u' → us[j]? = some u → Rn3 ρ u' u
theorem Rn3L.nil {ρ : Nat → Nat} : Rn3L ρ [] [] := ⟨rfl, fun j u v h => by simp at h⟩
theorem Rn3L.cons {ρ : Nat → Nat} {u v : AV} {us vs : List AV} (h : Rn3 ρ u v) (t : Rn3L ρ us vs) : Rn3L ρ (u :: us) (v :: vs) := ⟨by simp [t.1], fun j a b ha hb => by
  cases j with
  | zero => simp at ha hb; subst ha hb; exact h
  | succ j => exact t.2 j a b (by simpa using ha) (by simpa using hb)⟩
theorem Rn3.agL {ρ : Nat → Nat} {us vs : List AV} (h : Rn3L ρ us vs) : Rn3 ρ (.ag us) (.ag vs) := .ag h.1 h.2
theorem Rn3.rv {ρ : Nat → Nat} {E F : Env} (hw : E.sees F) (hL : ∀ b, F.L b = E.L (ρ b)) (hD : ∀ b, F.D b ↔ E.D (ρ b)) {u' u : AV} (h : Rn3 ρ u' u) : ∀ {x : Value}, RV E u' x → RV F u x := by
  induction h with
  | r h => exact fun hr => h.rv hw hL hD hr
  | @cs b b' n n' c hb hn =>
    intro x hr
    subst hb hn
    cases hr with
    | sc b n c h1 hc hn => subst hc; rw [← hL] at hn ⊢; exact RV.sl (E := F) _ _ ((hD _).2 h1) hn
  | @ag us' us hl h ih =>
    intro x hr
    cases hr with
    | ag cs xs hl' k => exact .ag _ _ (hl'.trans hl) (fun j c x hc hx' => by
        have hlt : j < us'.length := by rw [hl]; exact (List.getElem?_eq_some_iff.1 hc).1
        exact ih j _ c (List.getElem?_eq_getElem hlt) hc (k j _ x (List.getElem?_eq_getElem hlt) hx'))
theorem Rn3L.rvs {ρ : Nat → Nat} {E F : Env} (hw : E.sees F) (hL : ∀ b, F.L b = E.L (ρ b)) (hD : ∀ b, F.D b ↔ E.D (ρ b)) {us' us : List AV} (h : Rn3L ρ us' us) {xs : List Value} (hx : RVs E us' xs) : RVs F us xs :=
  ⟨hx.1.trans h.1, fun j c x hc hx' => by
    have hlt : j < us'.length := by rw [h.1]; exact (List.getElem?_eq_some_iff.1 hc).1
    exact (h.2 j _ c (List.getElem?_eq_getElem hlt) hc).rv hw hL hD (hx.2 j _ x (List.getElem?_eq_getElem hlt) hx')⟩
inductive RnC (ρ : Nat → Nat) : List AV → List AV → Prop
  | cl {cs' cs : List AV} (e : cs' = cs) (h : CloL cs) : RnC ρ cs' cs
  | l {cs' cs : List AV} (h : Rn3L ρ cs' cs) : RnC ρ cs' cs
  /-- of the cells the first ones alone -/
  | cut {cs' cs : List AV} (e : cs'.take cs.length = cs) (h : CloL cs) : RnC ρ cs' cs
theorem RnC.rvs {ρ : Nat → Nat} {E F : Env} (hw : E.sees F) (hL : ∀ b, F.L b = E.L (ρ b)) (hD : ∀ b, F.D b ↔ E.D (ρ b)) {us' us : List AV} (h : RnC ρ us' us) {xs : List Value} (hx : RVs E us' xs) : us.length ≤ us'.length ∧ RVs F us (xs.take us.length) := by
  cases h with
  | cl e h => subst e; exact ⟨Nat.le_refl _, by rw [← hx.1, List.take_length]; exact CloL.rvs (h := h) hw hx⟩
  | l h => exact ⟨by rw [h.1]; exact Nat.le_refl _, by rw [← h.1, ← hx.1, List.take_length]; exact h.rvs hw hL hD hx⟩
  | cut e h =>
    refine ⟨by have := congrArg List.length e; rw [List.length_take] at this; omega, CloL.rvs (h := h) hw ?_⟩
    have := hx.take us.length
    rwa [e] at this
def RnT3 (ρ : Nat → Nat) (T' : AT) : AT → Prop
  | [] => True
  | (i, u) :: T => (∃ u', lk T' i = some u' ∧ Rn3 ρ u' u) ∧ RnT3 ρ T' T
def RnH3 (ρ : Nat → Nat) (k : Nat) (H' : AH) : AH → Prop
  | [] => True
  | (_, none) :: H => RnH3 ρ k H' H
  | (b, some blk) :: H => (b < k ∧ ∃ blk', hk H' (ρ b) = some blk' ∧ RnC ρ blk'.cells blk.cells ∧ blk'.elem = blk.elem ∧ blk'.sz = blk.sz) ∧ RnH3 ρ k H' H
theorem RnT3.n {ρ : Nat → Nat} {T' : AT} : RnT3 ρ T' [] := trivial
theorem RnT3.c {ρ : Nat → Nat} {T' T : AT} {i : Nat} {u u' : AV} (h : lk T' i = some u') (hr : Rn3 ρ u' u) (ht : RnT3 ρ T' T) : RnT3 ρ T' ((i, u) :: T) := ⟨⟨u', h, hr⟩, ht⟩
theorem RnH3.n {ρ : Nat → Nat} {k : Nat} {H' : AH} : RnH3 ρ k H' [] := trivial
theorem RnH3.c {ρ : Nat → Nat} {k : Nat} {H' H : AH} {b : Nat} {blk blk' : ABlk} (hb : Nat.blt b k = true) (h : hk H' (ρ b) = some blk') (h1 : RnC ρ blk'.cells blk.cells) (h2 : blk'.elem = blk.elem) (h3 : blk'.sz = blk.sz) (ht : RnH3 ρ k H' H) : RnH3 ρ k H' ((b, some blk) :: H) :=
  ⟨⟨by simpa [Nat.blt_eq] using hb, blk', h, h1, h2, h3⟩, ht⟩
theorem RnT3.get {ρ : Nat → Nat} {T' : AT} : ∀ {T : AT}, RnT3 ρ T' T → ∀ t u, lk T t = some u → ∃ u', lk T' t = some u' ∧ Rn3 ρ u' u
  | [], _, t, u, h => by cases h
  | (i, w) :: T, hr, t, u, h => by
    rw [lk_cons] at h
    split at h
    · rename_i e; subst e; injection h with h; subst h; exact hr.1
    · exact RnT3.get hr.2 t u h
theorem RnH3.get {ρ : Nat → Nat} {k : Nat} {H' : AH} : ∀ {H : AH}, RnH3 ρ k H' H → ∀ b blk, hk H b = some blk → b < k ∧ ∃ blk', hk H' (ρ b) = some blk' ∧ RnC ρ blk'.cells blk.cells ∧ blk'.elem = blk.elem ∧ blk'.sz = blk.sz
  | [], _, b, blk, h => by cases h
  | (i, none) :: H, hr, b, blk, h => by
    rw [hk_cons] at h
    split at h
    · cases h
    · exact RnH3.get (H := H) hr b blk h
  | (i, some w) :: H, hr, b, blk, h => by
    rw [hk_cons] at h
    split at h
    · rename_i e; subst e; injection h with h; subst h; exact hr.1
    · exact RnH3.get (H := H) hr.2 b blk h
theorem Le.mk3 (ρ : Nat → Nat) {k' k : Nat} {H' H : AH} {T' T : AT} (hT : RnT3 ρ T' T) (hH : RnH3 ρ k H' H) (hi : inj1 ρ H = true) (hk : ∀ b, k ≤ b → k' ≤ ρ b) : Le k' H' T' k H T := by
  rintro n w0 M a w ⟨E, e1, e2, e3, e4, e5, e6⟩
  let F : Env := { w := E.w, S := fun g => ∃ b blk, Proofs.YtkkeeokeihkagaaGreat.hk H b = some blk ∧ (E.L (ρ b)).g = some g, L := fun b => E.L (ρ b), D := fun b => E.D (ρ b) }
  have hsee : E.sees F := ⟨Nat.le_refl _, fun _ _ _ => rfl, fun g _ ⟨b, blk, hb, e⟩ => by
    obtain ⟨_, blk', h1, _⟩ := hH.get b blk hb
    exact (e2.seq g).2 ⟨ρ b, blk', h1, e⟩⟩
  refine ⟨F, e1, ⟨e2.os, e2.tape, e2.output, e2.size, e2.frame, fun g => Iff.rfl, fun b blk hb => ?_, fun b b' k1 k2 g h1 h2 x1 x2 => ?_⟩, fun b hb => ?_, fun t u hu => ?_, e5, e6⟩
  · obtain ⟨_, blk', h1, h2, h3, h4⟩ := hH.get b blk hb
    obtain ⟨o1, o2, o3⟩ := e2.own (ρ b) blk' h1
    refine ⟨o1, o2, ?_⟩
    cases eg : (E.L (ρ b)).g with
    | none =>
      have hz := o3.none eg
      rw [hz.1] at h2
      obtain ⟨l1, l2⟩ := h2.rvs (E := E) (F := F) hsee (fun _ => rfl) (fun _ => Iff.rfl) (RVs.nil E)
      exact .mk_none eg ⟨List.eq_nil_of_length_eq_zero (by simpa using l1), hz.2⟩
    | some g =>
      obtain ⟨cs, c1, c2, c3, c4, c5⟩ := o3.at eg
      obtain ⟨l1, l2⟩ := h2.rvs (E := E) (F := F) hsee (fun _ => rfl) (fun _ => Iff.rfl) c5
      rw [h3] at c1
      rw [h4] at c3
      rw [List.take_take, Nat.min_eq_left l1] at l2
      exact .mk eg ⟨cs, c1, c2, c3, by omega, l2⟩
  · obtain ⟨_, b1, h3, _⟩ := hH.get b k1 h1
    obtain ⟨_, b2, h4, _⟩ := hH.get b' k2 h2
    have := e2.inj (ρ b) (ρ b') b1 b2 g h3 h4 x1 x2
    have hh := List.all_eq_true.1 (List.all_eq_true.1 hi _ (hk_mem h1)) _ (hk_mem h2)
    simp only [Bool.or_eq_true] at hh
    rcases hh with hh | hh
    · exact Nat.eq_of_beq_eq_true hh
    · simp [this] at hh
  · have hb' : E.D (ρ b) := hb
    have := e3 _ hb'
    rcases Nat.lt_or_ge b k with h | h
    · exact h
    · have := hk b h; omega
  · obtain ⟨u', h1, h2⟩ := hT.get t u hu
    obtain ⟨x, hx, hr⟩ := e4 t u' h1
    exact ⟨x, hx, h2.rv hsee (fun _ => rfl) (fun _ => Iff.rfl) hr⟩
theorem Le.mk3' (l : List (Nat × Nat)) {k' k : Nat} {H' H : AH} {T' T : AT} (hT : RnT3 (rmp k' l k) T' T) (hH : RnH3 (rmp k' l k) k H' H) (hi : inj1 (rmp k' l k) H = true) : Le k' H' T' k H T := Le.mk3 _ hT hH hi (rmp_ge k' k l)
/-! ### Capacities -/
section
variable {P : Program} {n : Nat} {w0 : World} {M : Nat → Prop} {c : Code} {k : Nat} {H : AH} {T : AT} {Q : AQ}
theorem Gol.cap {i b m : Nat} (h : lk T i = some (.sl b m)) (g : ∀ cc, m ≤ cc → Gol P n w0 M c k H ((i, .sc b m cc) :: T) Q) : Gol P n w0 M c k H T Q := fun a w ⟨E, e1, e2, e3, e4, e5, e6⟩ => by
  obtain ⟨x, hx, hr⟩ := e4 i _ h
  cases hr with
  | sl b m hD hm =>
    refine g (E.L b).c hm a w ⟨E, e1, e2, e3, fun t u hu => ?_, e5, e6⟩
    rw [lk_cons] at hu
    split at hu
    · rename_i e; subst e; injection hu with hu; subst hu; exact ⟨_, hx, .sc _ _ _ hD rfl hm⟩
    · exact e4 t u hu
/-- what lies behind a slice's elements -/
theorem Gol.tail {i b m cc : Nat} {blk : ABlk} (h : lk T i = some (.sc b m cc)) (hb : hk H b = some blk) (j : Nat) (hj : blk.cells.length + j ≤ cc * blk.sz) (g : ∀ tail : List Value, tail.length = j → Gol P n w0 M c k ((b, some { blk with cells := blk.cells ++ tail.map .v }) :: H) T Q) : Gol P n w0 M c k H T Q := fun a w ⟨E, e1, e2, e3, e4, e5, e6⟩ => by
  obtain ⟨x, hx, hr⟩ := e4 i _ h
  cases hr with
  | sc b m cc hD hc hm =>
    obtain ⟨o1, o2, o3⟩ := e2.own b blk hb
    have key : ∃ tail : List Value, tail.length = j ∧ BOK E (E.L b) { blk with cells := blk.cells ++ tail.map .v } := by
      cases eg : (E.L b).g with
      | none =>
        have hz := o3.none eg
        have : j = 0 := by have h0 : cc = 0 := by omega
                           rw [h0] at hj; omega
        subst this
        exact ⟨[], rfl, .mk_none eg ⟨by simp [hz.1], hz.2⟩⟩
      | some g =>
        obtain ⟨cs, c1, c2, c3, c4, c5⟩ := o3.at eg
        have hsz : blk.cells.length + j ≤ cs.size := by rw [c3, hc]; exact hj
        refine ⟨(cs.toList.drop blk.cells.length).take j, by simp; omega, .mk eg ⟨cs, c1, c2, c3, by simp; omega, ?_⟩⟩
        have hl : (blk.cells ++ ((cs.toList.drop blk.cells.length).take j).map AV.v).length = blk.cells.length + j := by simp; omega
        show RVs E (blk.cells ++ _) (cs.toList.take (blk.cells ++ ((cs.toList.drop blk.cells.length).take j).map AV.v).length)
        rw [hl, List.take_add]
        exact c5.append (RVs.vals _)
    obtain ⟨tail, ht, hB⟩ := key
    refine g tail ht a w ⟨E, e1, ⟨e2.os, e2.tape, e2.output, e2.size, e2.frame, fun g' => ?_, fun b' blk' hb' => ?_, fun b1 b2 k1 k2 g' h1 h2 x1 x2 => ?_⟩, e3, e4, e5, e6⟩
    · rw [e2.seq g']
      constructor
      · rintro ⟨b', blk', h1, h2⟩
        by_cases hbb : b = b'
        · subst hbb; exact ⟨b, _, by rw [hk_cons, if_pos rfl], h2⟩
        · exact ⟨b', blk', by rw [hk_cons, if_neg hbb]; exact h1, h2⟩
      · rintro ⟨b', blk', h1, h2⟩
        rw [hk_cons] at h1
        split at h1
        · rename_i hbb; subst hbb; exact ⟨b, blk, hb, h2⟩
        · exact ⟨b', blk', h1, h2⟩
    · rw [hk_cons] at hb'
      split at hb'
      · rename_i hbb; subst hbb; injection hb' with hb'; subst hb'; exact ⟨o1, o2, hB⟩
      · exact e2.own b' blk' hb'
    · have : ∀ bb kk, hk ((b, some { blk with cells := blk.cells ++ tail.map .v }) :: H) bb = some kk → ∃ k2, hk H bb = some k2 := fun bb kk hh => by
        rw [hk_cons] at hh
        split at hh
        · rename_i hbb; subst hbb; exact ⟨blk, hb⟩
        · exact ⟨kk, hh⟩
      obtain ⟨k1', h1'⟩ := this b1 k1 h1
      obtain ⟨k2', h2'⟩ := this b2 k2 h2
      exact e2.inj b1 b2 k1' k2' g' h1' h2' x1 x2
/-- the capacity of a slice that lies in a cell of an own block -/
theorem Gol.capCell {B j b m : Nat} {blk : ABlk} (hB : hk H B = some blk) (hj : blk.cells[j]? = some (.sl b m)) (g : ∀ cc, m ≤ cc → Gol P n w0 M c k ((B, some { blk with cells := blk.cells.set j (.sc b m cc) }) :: H) T Q) : Gol P n w0 M c k H T Q := fun a w ⟨E, e1, e2, e3, e4, e5, e6⟩ => by
  obtain ⟨o1, o2, o3⟩ := e2.own B blk hB
  have key : ∃ cc, m ≤ cc ∧ BOK E (E.L B) { blk with cells := blk.cells.set j (.sc b m cc) } := by
    cases eg : (E.L B).g with
    | none => have hz := o3.none eg; rw [hz.1] at hj; simp at hj
    | some g =>
      obtain ⟨cs, c1, c2, c3, c4, c5⟩ := o3.at eg
      obtain ⟨x, hx, hr⟩ := c5.at hj
      cases hr with
      | sl b m hD hm =>
        refine ⟨(E.L b).c, hm, .mk eg ⟨cs, c1, c2, c3, by simpa using c4, ?_⟩⟩
        show RVs E (blk.cells.set j _) (cs.toList.take (blk.cells.set j _).length)
        rw [List.length_set]
        refine ⟨by rw [List.length_set]; exact c5.1, fun i cv y hcv hy => ?_⟩
        rw [List.getElem?_set] at hcv
        split at hcv
        · rename_i hij; subst hij
          split at hcv
          · injection hcv with hcv; subst hcv; rw [hx] at hy; injection hy with hy; subst hy; exact .sc _ _ _ hD rfl hm
          · cases hcv
        · exact c5.2 i cv y hcv hy
  obtain ⟨cc, hcc, hBB⟩ := key
  refine g cc hcc a w ⟨E, e1, ⟨e2.os, e2.tape, e2.output, e2.size, e2.frame, fun g' => ?_, fun b' blk' hb' => ?_, fun b1 b2 k1 k2 g' h1 h2 x1 x2 => ?_⟩, e3, e4, e5, e6⟩
  · rw [e2.seq g']
    constructor
    · rintro ⟨b', blk', h1, h2⟩
      by_cases hbb : B = b'
      · subst hbb; exact ⟨B, _, by rw [hk_cons, if_pos rfl], h2⟩
      · exact ⟨b', blk', by rw [hk_cons, if_neg hbb]; exact h1, h2⟩
    · rintro ⟨b', blk', h1, h2⟩
      rw [hk_cons] at h1
      split at h1
      · rename_i hbb; subst hbb; exact ⟨B, blk, hB, h2⟩
      · exact ⟨b', blk', h1, h2⟩
  · rw [hk_cons] at hb'
    split at hb'
    · rename_i hbb; subst hbb; injection hb' with hb'; subst hb'; exact ⟨o1, o2, hBB⟩
    · exact e2.own b' blk' hb'
  · have : ∀ bb kk, hk ((B, some { blk with cells := blk.cells.set j (.sc b m cc) }) :: H) bb = some kk → ∃ k2, hk H bb = some k2 := fun bb kk hh => by
      rw [hk_cons] at hh
      split at hh
      · rename_i hbb; subst hbb; exact ⟨blk, hB⟩
      · exact ⟨kk, hh⟩
    obtain ⟨k1', h1'⟩ := this b1 k1 h1
    obtain ⟨k2', h2'⟩ := this b2 k2 h2
    exact e2.inj b1 b2 k1' k2' g' h1' h2' x1 x2
end
end Go.Proofs.YtkkeeokeihkagaaGreat


/-
  The types of this seat's program, as the program logic's rules ask for them. Written by a program; no condition.
-/
namespace Go.Proofs.YtkkeeokeihkagaaGreat

instance : TI Tryz.prog 1 false 1 := ⟨fun _ => by kernel_rfl, fun _ => by kernel_rfl⟩
instance : TI Tryz.prog 2 false 1 := ⟨fun _ => by kernel_rfl, fun _ => by kernel_rfl⟩
instance : ZI Tryz.prog 2 (.int .i64 0) := ⟨fun _ => by kernel_rfl⟩
instance : UI Tryz.prog 2 (.int .i64) := ⟨Tryz.underlying2⟩
instance : TI Tryz.prog 3 false 1 := ⟨fun _ => by kernel_rfl, fun _ => by kernel_rfl⟩
instance : ZI Tryz.prog 3 (.int .i64 0) := ⟨fun _ => by kernel_rfl⟩
instance : UI Tryz.prog 3 (.int .i64) := ⟨Tryz.underlying3⟩
instance : TI Tryz.prog 4 false 1 := ⟨fun _ => by kernel_rfl, fun _ => by kernel_rfl⟩
instance : ZI Tryz.prog 4 (.bool false) := ⟨fun _ => by kernel_rfl⟩
instance : UI Tryz.prog 4 .bool := ⟨Tryz.underlying4⟩
instance : TI Tryz.prog 5 false 1 := ⟨fun _ => by kernel_rfl, fun _ => by kernel_rfl⟩
instance : ZI Tryz.prog 5 (.int .u8 0) := ⟨fun _ => by kernel_rfl⟩
instance : UI Tryz.prog 5 (.int .u8) := ⟨Tryz.underlying5⟩
instance : TI Tryz.prog 9 false 1 := ⟨fun _ => by kernel_rfl, fun _ => by kernel_rfl⟩
instance : ZI Tryz.prog 9 (.string .empty) := ⟨fun _ => by kernel_rfl⟩
instance : UI Tryz.prog 9 .string := ⟨Tryz.underlying9⟩
instance : TI Tryz.prog 12 false 1 := ⟨fun _ => by kernel_rfl, fun _ => by kernel_rfl⟩
instance : ZI Tryz.prog 12 (.int .u64 0) := ⟨fun _ => by kernel_rfl⟩
instance : UI Tryz.prog 12 (.int .u64) := ⟨Tryz.underlying12⟩
instance : TI Tryz.prog 13 true 2 := ⟨fun _ => by kernel_rfl, fun _ => by kernel_rfl⟩
instance : ZI Tryz.prog 13 (.agg #[.string .empty, .int .u64 0]) := ⟨fun _ => by kernel_rfl⟩
instance : BI Tryz.prog 13 (.agg #[.string .empty, .int .u64 0]) := ⟨fun _ => by kernel_rfl⟩
instance : FI Tryz.prog 13 0 0 := ⟨fun _ _ _ => by kernel_rfl⟩
instance : FI Tryz.prog 13 1 1 := ⟨fun _ _ _ => by kernel_rfl⟩
instance : TI Tryz.prog 21 false 1 := ⟨fun _ => by kernel_rfl, fun _ => by kernel_rfl⟩
instance : ZI Tryz.prog 21 (.int .i32 0) := ⟨fun _ => by kernel_rfl⟩
instance : UI Tryz.prog 21 (.int .i32) := ⟨Tryz.underlying21⟩
instance : TI Tryz.prog 22 false 1 := ⟨fun _ => by kernel_rfl, fun _ => by kernel_rfl⟩
instance : ZI Tryz.prog 22 (.slice none 0 0) := ⟨fun _ => by kernel_rfl⟩
instance : SI Tryz.prog 22 46 11 32 (.agg #[.int .i64 0, .int .i64 0, .int .u8 0, .int .u8 0, .int .u8 0, .int .u8 0, .int .u8 0, .int .u8 0, .int .u8 0, .int .u8 0, .int .i64 0]) := ⟨Tryz.underlying22, by kernel_rfl, rfl, by decide, by decide⟩
instance : TI Tryz.prog 23 false 1 := ⟨fun _ => by kernel_rfl, fun _ => by kernel_rfl⟩
instance : ZI Tryz.prog 23 (.slice none 0 0) := ⟨fun _ => by kernel_rfl⟩
instance : SI Tryz.prog 23 3 1 8 (.int .i64 0) := ⟨Tryz.underlying23, by kernel_rfl, rfl, by decide, by decide⟩
instance : TI Tryz.prog 24 false 1 := ⟨fun _ => by kernel_rfl, fun _ => by kernel_rfl⟩
instance : ZI Tryz.prog 24 (.slice none 0 0) := ⟨fun _ => by kernel_rfl⟩
instance : SI Tryz.prog 24 50 19 40 (.agg #[.int .u8 0, .int .u8 0, .int .u8 0, .int .u8 0, .int .u8 0, .int .u8 0, .int .u8 0, .int .u8 0, .int .u8 0, .int .u8 0, .int .u8 0, .int .u8 0, .int .u8 0, .int .u8 0, .int .u8 0, .int .u8 0, .int .i64 0, .int .i64 0, .int .i64 0]) := ⟨Tryz.underlying24, by kernel_rfl, rfl, by decide, by decide⟩
instance : TI Tryz.prog 25 false 1 := ⟨fun _ => by kernel_rfl, fun _ => by kernel_rfl⟩
instance : ZI Tryz.prog 25 (.slice none 0 0) := ⟨fun _ => by kernel_rfl⟩
instance : SI Tryz.prog 25 30 8 8 (.agg (nameC 0)) := ⟨Tryz.underlying25, by kernel_rfl, rfl, by decide, by decide⟩
instance : TI Tryz.prog 26 false 1 := ⟨fun _ => by kernel_rfl, fun _ => by kernel_rfl⟩
instance : ZI Tryz.prog 26 (.int .i64 0) := ⟨fun _ => by kernel_rfl⟩
instance : UI Tryz.prog 26 (.int .i64) := ⟨Tryz.underlying26⟩
instance : TI Tryz.prog 27 true 5 := ⟨fun _ => by kernel_rfl, fun _ => by kernel_rfl⟩
instance : ZI Tryz.prog 27 (.agg #[.slice none 0 0, .slice none 0 0, .slice none 0 0, .slice none 0 0, .int .i64 0]) := ⟨fun _ => by kernel_rfl⟩
instance : BI Tryz.prog 27 (.agg #[.slice none 0 0, .slice none 0 0, .slice none 0 0, .slice none 0 0, .int .i64 0]) := ⟨fun _ => by kernel_rfl⟩
instance : FI Tryz.prog 27 0 0 := ⟨fun _ _ _ => by kernel_rfl⟩
instance : FI Tryz.prog 27 1 1 := ⟨fun _ _ _ => by kernel_rfl⟩
instance : FI Tryz.prog 27 2 2 := ⟨fun _ _ _ => by kernel_rfl⟩
instance : FI Tryz.prog 27 3 3 := ⟨fun _ _ _ => by kernel_rfl⟩
instance : FI Tryz.prog 27 4 4 := ⟨fun _ _ _ => by kernel_rfl⟩
instance : TI Tryz.prog 28 true 5 := ⟨fun _ => by kernel_rfl, fun _ => by kernel_rfl⟩
instance : ZI Tryz.prog 28 (.agg #[.slice none 0 0, .slice none 0 0, .slice none 0 0, .slice none 0 0, .int .i64 0]) := ⟨fun _ => by kernel_rfl⟩
instance : BI Tryz.prog 28 (.agg #[.slice none 0 0, .slice none 0 0, .slice none 0 0, .slice none 0 0, .int .i64 0]) := ⟨fun _ => by kernel_rfl⟩
instance : FI Tryz.prog 28 0 0 := ⟨fun _ _ _ => by kernel_rfl⟩
instance : FI Tryz.prog 28 1 1 := ⟨fun _ _ _ => by kernel_rfl⟩
instance : FI Tryz.prog 28 2 2 := ⟨fun _ _ _ => by kernel_rfl⟩
instance : FI Tryz.prog 28 3 3 := ⟨fun _ _ _ => by kernel_rfl⟩
instance : FI Tryz.prog 28 4 4 := ⟨fun _ _ _ => by kernel_rfl⟩
instance : TI Tryz.prog 29 true 8 := ⟨fun _ => by kernel_rfl, fun _ => by kernel_rfl⟩
instance : ZI Tryz.prog 29 (.agg (nameC 0)) := ⟨fun _ => by kernel_rfl⟩
instance : BI Tryz.prog 29 (.agg (nameC 0)) := ⟨fun _ => by kernel_rfl⟩
instance : NI Tryz.prog 29 := ⟨by kernel_rfl, 5, Tryz.underlying29, by kernel_rfl, Tryz.underlying5, by kernel_rfl⟩
instance : AI Tryz.prog 29 8 1 := ⟨⟨5, Tryz.underlying29, by kernel_rfl⟩⟩
instance : TI Tryz.prog 30 true 8 := ⟨fun _ => by kernel_rfl, fun _ => by kernel_rfl⟩
instance : ZI Tryz.prog 30 (.agg (nameC 0)) := ⟨fun _ => by kernel_rfl⟩
instance : BI Tryz.prog 30 (.agg (nameC 0)) := ⟨fun _ => by kernel_rfl⟩
instance : NI Tryz.prog 30 := ⟨by kernel_rfl, 5, Tryz.underlying30, by kernel_rfl, Tryz.underlying5, by kernel_rfl⟩
instance : AI Tryz.prog 30 8 1 := ⟨⟨5, Tryz.underlying30, by kernel_rfl⟩⟩
instance : TI Tryz.prog 31 true 10 := ⟨fun _ => by kernel_rfl, fun _ => by kernel_rfl⟩
instance : ZI Tryz.prog 31 (.agg #[.int .i64 0, .int .i64 0, .int .u8 0, .int .u8 0, .int .u8 0, .int .u8 0, .int .u8 0, .int .u8 0, .int .u8 0, .int .u8 0]) := ⟨fun _ => by kernel_rfl⟩
instance : BI Tryz.prog 31 (.agg #[.int .i64 0, .int .i64 0, .int .u8 0, .int .u8 0, .int .u8 0, .int .u8 0, .int .u8 0, .int .u8 0, .int .u8 0, .int .u8 0]) := ⟨fun _ => by kernel_rfl⟩
instance : FI Tryz.prog 31 0 0 := ⟨fun _ _ _ => by kernel_rfl⟩
instance : FI Tryz.prog 31 1 1 := ⟨fun _ _ _ => by kernel_rfl⟩
instance : FI Tryz.prog 31 2 2 := ⟨fun _ _ _ => by kernel_rfl⟩
instance : TI Tryz.prog 32 true 10 := ⟨fun _ => by kernel_rfl, fun _ => by kernel_rfl⟩
instance : ZI Tryz.prog 32 (.agg #[.int .i64 0, .int .i64 0, .int .u8 0, .int .u8 0, .int .u8 0, .int .u8 0, .int .u8 0, .int .u8 0, .int .u8 0, .int .u8 0]) := ⟨fun _ => by kernel_rfl⟩
instance : BI Tryz.prog 32 (.agg #[.int .i64 0, .int .i64 0, .int .u8 0, .int .u8 0, .int .u8 0, .int .u8 0, .int .u8 0, .int .u8 0, .int .u8 0, .int .u8 0]) := ⟨fun _ => by kernel_rfl⟩
instance : FI Tryz.prog 32 0 0 := ⟨fun _ _ _ => by kernel_rfl⟩
instance : FI Tryz.prog 32 1 1 := ⟨fun _ _ _ => by kernel_rfl⟩
instance : FI Tryz.prog 32 2 2 := ⟨fun _ _ _ => by kernel_rfl⟩
instance : TI Tryz.prog 33 false 1 := ⟨fun _ => by kernel_rfl, fun _ => by kernel_rfl⟩
instance : TI Tryz.prog 34 false 1 := ⟨fun _ => by kernel_rfl, fun _ => by kernel_rfl⟩
instance : TI Tryz.prog 35 true 3 := ⟨fun _ => by kernel_rfl, fun _ => by kernel_rfl⟩
instance : ZI Tryz.prog 35 (.agg #[.int .i64 0, .int .i64 0, .slice none 0 0]) := ⟨fun _ => by kernel_rfl⟩
instance : BI Tryz.prog 35 (.agg #[.int .i64 0, .int .i64 0, .slice none 0 0]) := ⟨fun _ => by kernel_rfl⟩
instance : FI Tryz.prog 35 0 0 := ⟨fun _ _ _ => by kernel_rfl⟩
instance : FI Tryz.prog 35 1 1 := ⟨fun _ _ _ => by kernel_rfl⟩
instance : FI Tryz.prog 35 2 2 := ⟨fun _ _ _ => by kernel_rfl⟩
instance : TI Tryz.prog 36 true 3 := ⟨fun _ => by kernel_rfl, fun _ => by kernel_rfl⟩
instance : ZI Tryz.prog 36 (.agg #[.int .i64 0, .int .i64 0, .slice none 0 0]) := ⟨fun _ => by kernel_rfl⟩
instance : BI Tryz.prog 36 (.agg #[.int .i64 0, .int .i64 0, .slice none 0 0]) := ⟨fun _ => by kernel_rfl⟩
instance : FI Tryz.prog 36 0 0 := ⟨fun _ _ _ => by kernel_rfl⟩
instance : FI Tryz.prog 36 1 1 := ⟨fun _ _ _ => by kernel_rfl⟩
instance : FI Tryz.prog 36 2 2 := ⟨fun _ _ _ => by kernel_rfl⟩
instance : TI Tryz.prog 37 false 1 := ⟨fun _ => by kernel_rfl, fun _ => by kernel_rfl⟩
instance : ZI Tryz.prog 37 (.int .i64 0) := ⟨fun _ => by kernel_rfl⟩
instance : UI Tryz.prog 37 (.int .i64) := ⟨Tryz.underlying37⟩
instance : TI Tryz.prog 39 false 1 := ⟨fun _ => by kernel_rfl, fun _ => by kernel_rfl⟩
instance : TI Tryz.prog 40 false 1 := ⟨fun _ => by kernel_rfl, fun _ => by kernel_rfl⟩
instance : TI Tryz.prog 41 false 1 := ⟨fun _ => by kernel_rfl, fun _ => by kernel_rfl⟩
instance : TI Tryz.prog 42 false 1 := ⟨fun _ => by kernel_rfl, fun _ => by kernel_rfl⟩
instance : TI Tryz.prog 43 false 1 := ⟨fun _ => by kernel_rfl, fun _ => by kernel_rfl⟩
instance : TI Tryz.prog 44 false 1 := ⟨fun _ => by kernel_rfl, fun _ => by kernel_rfl⟩
instance : TI Tryz.prog 45 true 11 := ⟨fun _ => by kernel_rfl, fun _ => by kernel_rfl⟩
instance : ZI Tryz.prog 45 (.agg #[.int .i64 0, .int .i64 0, .int .u8 0, .int .u8 0, .int .u8 0, .int .u8 0, .int .u8 0, .int .u8 0, .int .u8 0, .int .u8 0, .int .i64 0]) := ⟨fun _ => by kernel_rfl⟩
instance : BI Tryz.prog 45 (.agg #[.int .i64 0, .int .i64 0, .int .u8 0, .int .u8 0, .int .u8 0, .int .u8 0, .int .u8 0, .int .u8 0, .int .u8 0, .int .u8 0, .int .i64 0]) := ⟨fun _ => by kernel_rfl⟩
instance : FI Tryz.prog 45 0 0 := ⟨fun _ _ _ => by kernel_rfl⟩
instance : FI Tryz.prog 45 1 10 := ⟨fun _ _ _ => by kernel_rfl⟩
instance : TI Tryz.prog 46 true 11 := ⟨fun _ => by kernel_rfl, fun _ => by kernel_rfl⟩
instance : ZI Tryz.prog 46 (.agg #[.int .i64 0, .int .i64 0, .int .u8 0, .int .u8 0, .int .u8 0, .int .u8 0, .int .u8 0, .int .u8 0, .int .u8 0, .int .u8 0, .int .i64 0]) := ⟨fun _ => by kernel_rfl⟩
instance : BI Tryz.prog 46 (.agg #[.int .i64 0, .int .i64 0, .int .u8 0, .int .u8 0, .int .u8 0, .int .u8 0, .int .u8 0, .int .u8 0, .int .u8 0, .int .u8 0, .int .i64 0]) := ⟨fun _ => by kernel_rfl⟩
instance : FI Tryz.prog 46 0 0 := ⟨fun _ _ _ => by kernel_rfl⟩
instance : FI Tryz.prog 46 1 10 := ⟨fun _ _ _ => by kernel_rfl⟩
instance : TI Tryz.prog 47 false 1 := ⟨fun _ => by kernel_rfl, fun _ => by kernel_rfl⟩
instance : TI Tryz.prog 48 false 1 := ⟨fun _ => by kernel_rfl, fun _ => by kernel_rfl⟩
instance : TI Tryz.prog 49 true 19 := ⟨fun _ => by kernel_rfl, fun _ => by kernel_rfl⟩
instance : ZI Tryz.prog 49 (.agg #[.int .u8 0, .int .u8 0, .int .u8 0, .int .u8 0, .int .u8 0, .int .u8 0, .int .u8 0, .int .u8 0, .int .u8 0, .int .u8 0, .int .u8 0, .int .u8 0, .int .u8 0, .int .u8 0, .int .u8 0, .int .u8 0, .int .i64 0, .int .i64 0, .int .i64 0]) := ⟨fun _ => by kernel_rfl⟩
instance : BI Tryz.prog 49 (.agg #[.int .u8 0, .int .u8 0, .int .u8 0, .int .u8 0, .int .u8 0, .int .u8 0, .int .u8 0, .int .u8 0, .int .u8 0, .int .u8 0, .int .u8 0, .int .u8 0, .int .u8 0, .int .u8 0, .int .u8 0, .int .u8 0, .int .i64 0, .int .i64 0, .int .i64 0]) := ⟨fun _ => by kernel_rfl⟩
instance : FI Tryz.prog 49 0 0 := ⟨fun _ _ _ => by kernel_rfl⟩
instance : FI Tryz.prog 49 1 8 := ⟨fun _ _ _ => by kernel_rfl⟩
instance : FI Tryz.prog 49 2 16 := ⟨fun _ _ _ => by kernel_rfl⟩
instance : FI Tryz.prog 49 3 17 := ⟨fun _ _ _ => by kernel_rfl⟩
instance : FI Tryz.prog 49 4 18 := ⟨fun _ _ _ => by kernel_rfl⟩
instance : TI Tryz.prog 50 true 19 := ⟨fun _ => by kernel_rfl, fun _ => by kernel_rfl⟩
instance : ZI Tryz.prog 50 (.agg #[.int .u8 0, .int .u8 0, .int .u8 0, .int .u8 0, .int .u8 0, .int .u8 0, .int .u8 0, .int .u8 0, .int .u8 0, .int .u8 0, .int .u8 0, .int .u8 0, .int .u8 0, .int .u8 0, .int .u8 0, .int .u8 0, .int .i64 0, .int .i64 0, .int .i64 0]) := ⟨fun _ => by kernel_rfl⟩
instance : BI Tryz.prog 50 (.agg #[.int .u8 0, .int .u8 0, .int .u8 0, .int .u8 0, .int .u8 0, .int .u8 0, .int .u8 0, .int .u8 0, .int .u8 0, .int .u8 0, .int .u8 0, .int .u8 0, .int .u8 0, .int .u8 0, .int .u8 0, .int .u8 0, .int .i64 0, .int .i64 0, .int .i64 0]) := ⟨fun _ => by kernel_rfl⟩
instance : FI Tryz.prog 50 0 0 := ⟨fun _ _ _ => by kernel_rfl⟩
instance : FI Tryz.prog 50 1 8 := ⟨fun _ _ _ => by kernel_rfl⟩
instance : FI Tryz.prog 50 2 16 := ⟨fun _ _ _ => by kernel_rfl⟩
instance : FI Tryz.prog 50 3 17 := ⟨fun _ _ _ => by kernel_rfl⟩
instance : FI Tryz.prog 50 4 18 := ⟨fun _ _ _ => by kernel_rfl⟩
instance : TI Tryz.prog 51 false 1 := ⟨fun _ => by kernel_rfl, fun _ => by kernel_rfl⟩
instance : TI Tryz.prog 52 false 1 := ⟨fun _ => by kernel_rfl, fun _ => by kernel_rfl⟩
instance : TI Tryz.prog 54 false 1 := ⟨fun _ => by kernel_rfl, fun _ => by kernel_rfl⟩
instance : TI Tryz.prog 55 false 1 := ⟨fun _ => by kernel_rfl, fun _ => by kernel_rfl⟩
instance : TI Tryz.prog 56 false 1 := ⟨fun _ => by kernel_rfl, fun _ => by kernel_rfl⟩
instance : TI Tryz.prog 58 false 1 := ⟨fun _ => by kernel_rfl, fun _ => by kernel_rfl⟩
instance : TI Tryz.prog 59 true 5 := ⟨fun _ => by kernel_rfl, fun _ => by kernel_rfl⟩
instance : ZI Tryz.prog 59 (.agg #[.int .i64 0, .int .i64 0, .slice none 0 0, .slice none 0 0, .slice none 0 0]) := ⟨fun _ => by kernel_rfl⟩
instance : BI Tryz.prog 59 (.agg #[.int .i64 0, .int .i64 0, .slice none 0 0, .slice none 0 0, .slice none 0 0]) := ⟨fun _ => by kernel_rfl⟩
instance : FI Tryz.prog 59 0 0 := ⟨fun _ _ _ => by kernel_rfl⟩
instance : FI Tryz.prog 59 1 1 := ⟨fun _ _ _ => by kernel_rfl⟩
instance : FI Tryz.prog 59 2 2 := ⟨fun _ _ _ => by kernel_rfl⟩
instance : FI Tryz.prog 59 3 3 := ⟨fun _ _ _ => by kernel_rfl⟩
instance : FI Tryz.prog 59 4 4 := ⟨fun _ _ _ => by kernel_rfl⟩
instance : TI Tryz.prog 60 true 5 := ⟨fun _ => by kernel_rfl, fun _ => by kernel_rfl⟩
instance : ZI Tryz.prog 60 (.agg #[.int .i64 0, .int .i64 0, .slice none 0 0, .slice none 0 0, .slice none 0 0]) := ⟨fun _ => by kernel_rfl⟩
instance : BI Tryz.prog 60 (.agg #[.int .i64 0, .int .i64 0, .slice none 0 0, .slice none 0 0, .slice none 0 0]) := ⟨fun _ => by kernel_rfl⟩
instance : FI Tryz.prog 60 0 0 := ⟨fun _ _ _ => by kernel_rfl⟩
instance : FI Tryz.prog 60 1 1 := ⟨fun _ _ _ => by kernel_rfl⟩
instance : FI Tryz.prog 60 2 2 := ⟨fun _ _ _ => by kernel_rfl⟩
instance : FI Tryz.prog 60 3 3 := ⟨fun _ _ _ => by kernel_rfl⟩
instance : FI Tryz.prog 60 4 4 := ⟨fun _ _ _ => by kernel_rfl⟩
instance : TI Tryz.prog 61 false 1 := ⟨fun _ => by kernel_rfl, fun _ => by kernel_rfl⟩
instance : TI Tryz.prog 62 false 1 := ⟨fun _ => by kernel_rfl, fun _ => by kernel_rfl⟩
instance : TI Tryz.prog 63 false 1 := ⟨fun _ => by kernel_rfl, fun _ => by kernel_rfl⟩
instance : TI Tryz.prog 64 false 1 := ⟨fun _ => by kernel_rfl, fun _ => by kernel_rfl⟩
instance : TI Tryz.prog 65 false 1 := ⟨fun _ => by kernel_rfl, fun _ => by kernel_rfl⟩
instance : TI Tryz.prog 66 false 1 := ⟨fun _ => by kernel_rfl, fun _ => by kernel_rfl⟩
instance : TI Tryz.prog 67 false 1 := ⟨fun _ => by kernel_rfl, fun _ => by kernel_rfl⟩
instance : TI Tryz.prog 68 false 1 := ⟨fun _ => by kernel_rfl, fun _ => by kernel_rfl⟩
instance : TI Tryz.prog 69 false 1 := ⟨fun _ => by kernel_rfl, fun _ => by kernel_rfl⟩
instance : TI Tryz.prog 70 false 1 := ⟨fun _ => by kernel_rfl, fun _ => by kernel_rfl⟩
instance : TI Tryz.prog 71 false 1 := ⟨fun _ => by kernel_rfl, fun _ => by kernel_rfl⟩
instance : TI Tryz.prog 72 false 1 := ⟨fun _ => by kernel_rfl, fun _ => by kernel_rfl⟩
instance : TI Tryz.prog 73 false 1 := ⟨fun _ => by kernel_rfl, fun _ => by kernel_rfl⟩
instance : TI Tryz.prog 74 false 1 := ⟨fun _ => by kernel_rfl, fun _ => by kernel_rfl⟩
instance : TI Tryz.prog 75 false 1 := ⟨fun _ => by kernel_rfl, fun _ => by kernel_rfl⟩
instance : TI Tryz.prog 76 false 1 := ⟨fun _ => by kernel_rfl, fun _ => by kernel_rfl⟩
instance : TI Tryz.prog 77 false 1 := ⟨fun _ => by kernel_rfl, fun _ => by kernel_rfl⟩
instance : TI Tryz.prog 78 false 1 := ⟨fun _ => by kernel_rfl, fun _ => by kernel_rfl⟩
instance : TI Tryz.prog 79 false 1 := ⟨fun _ => by kernel_rfl, fun _ => by kernel_rfl⟩
instance : TI Tryz.prog 80 false 1 := ⟨fun _ => by kernel_rfl, fun _ => by kernel_rfl⟩
instance : TI Tryz.prog 81 false 1 := ⟨fun _ => by kernel_rfl, fun _ => by kernel_rfl⟩
instance : TI Tryz.prog 82 false 1 := ⟨fun _ => by kernel_rfl, fun _ => by kernel_rfl⟩
instance : TI Tryz.prog 83 false 1 := ⟨fun _ => by kernel_rfl, fun _ => by kernel_rfl⟩
instance : TI Tryz.prog 84 false 1 := ⟨fun _ => by kernel_rfl, fun _ => by kernel_rfl⟩
instance : TI Tryz.prog 85 false 1 := ⟨fun _ => by kernel_rfl, fun _ => by kernel_rfl⟩
instance : TI Tryz.prog 86 false 1 := ⟨fun _ => by kernel_rfl, fun _ => by kernel_rfl⟩
instance : TI Tryz.prog 87 false 1 := ⟨fun _ => by kernel_rfl, fun _ => by kernel_rfl⟩
instance : TI Tryz.prog 88 false 1 := ⟨fun _ => by kernel_rfl, fun _ => by kernel_rfl⟩
instance : TI Tryz.prog 89 false 1 := ⟨fun _ => by kernel_rfl, fun _ => by kernel_rfl⟩
instance : TI Tryz.prog 90 false 1 := ⟨fun _ => by kernel_rfl, fun _ => by kernel_rfl⟩
instance : TI Tryz.prog 91 false 1 := ⟨fun _ => by kernel_rfl, fun _ => by kernel_rfl⟩
instance : TI Tryz.prog 92 false 1 := ⟨fun _ => by kernel_rfl, fun _ => by kernel_rfl⟩
instance : TI Tryz.prog 93 false 1 := ⟨fun _ => by kernel_rfl, fun _ => by kernel_rfl⟩
instance : TI Tryz.prog 94 false 1 := ⟨fun _ => by kernel_rfl, fun _ => by kernel_rfl⟩
instance : TI Tryz.prog 95 false 1 := ⟨fun _ => by kernel_rfl, fun _ => by kernel_rfl⟩
instance : TI Tryz.prog 96 false 1 := ⟨fun _ => by kernel_rfl, fun _ => by kernel_rfl⟩
instance : TI Tryz.prog 97 false 1 := ⟨fun _ => by kernel_rfl, fun _ => by kernel_rfl⟩
instance : TI Tryz.prog 98 false 1 := ⟨fun _ => by kernel_rfl, fun _ => by kernel_rfl⟩
instance : TI Tryz.prog 99 false 1 := ⟨fun _ => by kernel_rfl, fun _ => by kernel_rfl⟩
instance : ZI Tryz.prog 99 (.slice none 0 0) := ⟨fun _ => by kernel_rfl⟩
instance : SI Tryz.prog 99 5 1 1 (.int .u8 0) := ⟨Tryz.underlying99, by kernel_rfl, rfl, by decide, by decide⟩
instance : TI Tryz.prog 100 false 1 := ⟨fun _ => by kernel_rfl, fun _ => by kernel_rfl⟩
instance : TI Tryz.prog 101 false 1 := ⟨fun _ => by kernel_rfl, fun _ => by kernel_rfl⟩
instance : TI Tryz.prog 102 false 1 := ⟨fun _ => by kernel_rfl, fun _ => by kernel_rfl⟩
instance : ZI Tryz.prog 102 (.int .u64 0) := ⟨fun _ => by kernel_rfl⟩
instance : UI Tryz.prog 102 (.int .u64) := ⟨Tryz.underlying102⟩
instance : TI Tryz.prog 103 false 1 := ⟨fun _ => by kernel_rfl, fun _ => by kernel_rfl⟩
instance : TI Tryz.prog 104 false 1 := ⟨fun _ => by kernel_rfl, fun _ => by kernel_rfl⟩
instance : TI Tryz.prog 105 false 1 := ⟨fun _ => by kernel_rfl, fun _ => by kernel_rfl⟩
instance : TI Tryz.prog 107 false 1 := ⟨fun _ => by kernel_rfl, fun _ => by kernel_rfl⟩
instance : TI Tryz.prog 108 false 1 := ⟨fun _ => by kernel_rfl, fun _ => by kernel_rfl⟩
instance : TI Tryz.prog 109 false 1 := ⟨fun _ => by kernel_rfl, fun _ => by kernel_rfl⟩
instance : TI Tryz.prog 110 false 1 := ⟨fun _ => by kernel_rfl, fun _ => by kernel_rfl⟩
instance : TI Tryz.prog 111 false 1 := ⟨fun _ => by kernel_rfl, fun _ => by kernel_rfl⟩
instance : TI Tryz.prog 113 false 1 := ⟨fun _ => by kernel_rfl, fun _ => by kernel_rfl⟩
instance : TI Tryz.prog 114 false 1 := ⟨fun _ => by kernel_rfl, fun _ => by kernel_rfl⟩
instance : TI Tryz.prog 115 false 1 := ⟨fun _ => by kernel_rfl, fun _ => by kernel_rfl⟩
instance : TI Tryz.prog 116 false 1 := ⟨fun _ => by kernel_rfl, fun _ => by kernel_rfl⟩
instance : TI Tryz.prog 117 false 1 := ⟨fun _ => by kernel_rfl, fun _ => by kernel_rfl⟩
instance : TI Tryz.prog 118 false 1 := ⟨fun _ => by kernel_rfl, fun _ => by kernel_rfl⟩
instance : TI Tryz.prog 119 false 1 := ⟨fun _ => by kernel_rfl, fun _ => by kernel_rfl⟩
instance : TI Tryz.prog 120 false 1 := ⟨fun _ => by kernel_rfl, fun _ => by kernel_rfl⟩
instance : TI Tryz.prog 121 false 1 := ⟨fun _ => by kernel_rfl, fun _ => by kernel_rfl⟩
instance : TI Tryz.prog 122 false 1 := ⟨fun _ => by kernel_rfl, fun _ => by kernel_rfl⟩
instance : TI Tryz.prog 123 false 1 := ⟨fun _ => by kernel_rfl, fun _ => by kernel_rfl⟩
instance : TI Tryz.prog 124 false 1 := ⟨fun _ => by kernel_rfl, fun _ => by kernel_rfl⟩
instance : TI Tryz.prog 125 false 1 := ⟨fun _ => by kernel_rfl, fun _ => by kernel_rfl⟩
instance : TI Tryz.prog 126 false 1 := ⟨fun _ => by kernel_rfl, fun _ => by kernel_rfl⟩
instance : TI Tryz.prog 127 false 1 := ⟨fun _ => by kernel_rfl, fun _ => by kernel_rfl⟩
instance : TI Tryz.prog 128 false 1 := ⟨fun _ => by kernel_rfl, fun _ => by kernel_rfl⟩
instance : TI Tryz.prog 129 false 1 := ⟨fun _ => by kernel_rfl, fun _ => by kernel_rfl⟩
instance : TI Tryz.prog 130 false 1 := ⟨fun _ => by kernel_rfl, fun _ => by kernel_rfl⟩
instance : TI Tryz.prog 131 false 1 := ⟨fun _ => by kernel_rfl, fun _ => by kernel_rfl⟩
instance : ZI Tryz.prog 131 (.int .u64 0) := ⟨fun _ => by kernel_rfl⟩
instance : UI Tryz.prog 131 (.int .u64) := ⟨Tryz.underlying131⟩
instance : TI Tryz.prog 132 false 1 := ⟨fun _ => by kernel_rfl, fun _ => by kernel_rfl⟩
instance : TI Tryz.prog 133 false 1 := ⟨fun _ => by kernel_rfl, fun _ => by kernel_rfl⟩
instance : TI Tryz.prog 134 true 16 := ⟨fun _ => by kernel_rfl, fun _ => by kernel_rfl⟩
instance : ZI Tryz.prog 134 (.agg #[.int .u8 0, .int .u8 0, .int .u8 0, .int .u8 0, .int .u8 0, .int .u8 0, .int .u8 0, .int .u8 0, .int .u8 0, .int .u8 0, .int .u8 0, .int .u8 0, .int .u8 0, .int .u8 0, .int .u8 0, .int .u8 0]) := ⟨fun _ => by kernel_rfl⟩
instance : BI Tryz.prog 134 (.agg #[.int .u8 0, .int .u8 0, .int .u8 0, .int .u8 0, .int .u8 0, .int .u8 0, .int .u8 0, .int .u8 0, .int .u8 0, .int .u8 0, .int .u8 0, .int .u8 0, .int .u8 0, .int .u8 0, .int .u8 0, .int .u8 0]) := ⟨fun _ => by kernel_rfl⟩
instance : AI Tryz.prog 134 16 1 := ⟨⟨5, Tryz.underlying134, by kernel_rfl⟩⟩
instance : TI Tryz.prog 135 true 2 := ⟨fun _ => by kernel_rfl, fun _ => by kernel_rfl⟩
instance : ZI Tryz.prog 135 (.agg #[.int .u64 0, .int .u64 0]) := ⟨fun _ => by kernel_rfl⟩
instance : BI Tryz.prog 135 (.agg #[.int .u64 0, .int .u64 0]) := ⟨fun _ => by kernel_rfl⟩
instance : FI Tryz.prog 135 0 0 := ⟨fun _ _ _ => by kernel_rfl⟩
instance : FI Tryz.prog 135 1 1 := ⟨fun _ _ _ => by kernel_rfl⟩
instance : TI Tryz.prog 136 true 2 := ⟨fun _ => by kernel_rfl, fun _ => by kernel_rfl⟩
instance : ZI Tryz.prog 136 (.agg #[.int .u64 0, .int .u64 0]) := ⟨fun _ => by kernel_rfl⟩
instance : BI Tryz.prog 136 (.agg #[.int .u64 0, .int .u64 0]) := ⟨fun _ => by kernel_rfl⟩
instance : FI Tryz.prog 136 0 0 := ⟨fun _ _ _ => by kernel_rfl⟩
instance : FI Tryz.prog 136 1 1 := ⟨fun _ _ _ => by kernel_rfl⟩
instance : TI Tryz.prog 137 false 1 := ⟨fun _ => by kernel_rfl, fun _ => by kernel_rfl⟩
instance : TI Tryz.prog 138 false 1 := ⟨fun _ => by kernel_rfl, fun _ => by kernel_rfl⟩
instance : TI Tryz.prog 139 false 1 := ⟨fun _ => by kernel_rfl, fun _ => by kernel_rfl⟩
instance : TI Tryz.prog 141 false 1 := ⟨fun _ => by kernel_rfl, fun _ => by kernel_rfl⟩
instance : TI Tryz.prog 142 false 1 := ⟨fun _ => by kernel_rfl, fun _ => by kernel_rfl⟩
instance : TI Tryz.prog 143 false 1 := ⟨fun _ => by kernel_rfl, fun _ => by kernel_rfl⟩
instance : ZI Tryz.prog 143 (.pointer none) := ⟨fun _ => by kernel_rfl⟩
instance : TI Tryz.prog 144 false 1 := ⟨fun _ => by kernel_rfl, fun _ => by kernel_rfl⟩
instance : TI Tryz.prog 145 false 1 := ⟨fun _ => by kernel_rfl, fun _ => by kernel_rfl⟩
instance : TI Tryz.prog 146 false 1 := ⟨fun _ => by kernel_rfl, fun _ => by kernel_rfl⟩
instance : TI Tryz.prog 147 false 1 := ⟨fun _ => by kernel_rfl, fun _ => by kernel_rfl⟩
instance : TI Tryz.prog 153 false 1 := ⟨fun _ => by kernel_rfl, fun _ => by kernel_rfl⟩
instance : TI Tryz.prog 154 false 1 := ⟨fun _ => by kernel_rfl, fun _ => by kernel_rfl⟩
instance : ZI Tryz.prog 154 (.int .u32 0) := ⟨fun _ => by kernel_rfl⟩
instance : UI Tryz.prog 154 (.int .u32) := ⟨Tryz.underlying154⟩
instance : TI Tryz.prog 157 false 1 := ⟨fun _ => by kernel_rfl, fun _ => by kernel_rfl⟩
instance : TI Tryz.prog 158 false 1 := ⟨fun _ => by kernel_rfl, fun _ => by kernel_rfl⟩
instance : ZI Tryz.prog 158 (.pointer none) := ⟨fun _ => by kernel_rfl⟩
instance : FnI Tryz.prog 3 := ⟨fun _ _ => by kernel_rfl⟩
instance : FnI Tryz.prog 4 := ⟨fun _ _ => by kernel_rfl⟩
instance : FnI Tryz.prog 5 := ⟨fun _ _ => by kernel_rfl⟩
instance : FnI Tryz.prog 6 := ⟨fun _ _ => by kernel_rfl⟩
instance : FnI Tryz.prog 7 := ⟨fun _ _ => by kernel_rfl⟩
instance : FnI Tryz.prog 8 := ⟨fun _ _ => by kernel_rfl⟩
instance : FnI Tryz.prog 9 := ⟨fun _ _ => by kernel_rfl⟩
instance : FnI Tryz.prog 10 := ⟨fun _ _ => by kernel_rfl⟩
instance : FnI Tryz.prog 11 := ⟨fun _ _ => by kernel_rfl⟩
instance : FnI Tryz.prog 12 := ⟨fun _ _ => by kernel_rfl⟩
instance : FnI Tryz.prog 13 := ⟨fun _ _ => by kernel_rfl⟩
instance : FnI Tryz.prog 14 := ⟨fun _ _ => by kernel_rfl⟩
instance : FnI Tryz.prog 15 := ⟨fun _ _ => by kernel_rfl⟩
instance : FnI Tryz.prog 16 := ⟨fun _ _ => by kernel_rfl⟩
instance : FnI Tryz.prog 17 := ⟨fun _ _ => by kernel_rfl⟩
instance : FnI Tryz.prog 18 := ⟨fun _ _ => by kernel_rfl⟩
instance : FnI Tryz.prog 19 := ⟨fun _ _ => by kernel_rfl⟩
instance : FnI Tryz.prog 20 := ⟨fun _ _ => by kernel_rfl⟩
instance : FnI Tryz.prog 21 := ⟨fun _ _ => by kernel_rfl⟩
instance : FnI Tryz.prog 22 := ⟨fun _ _ => by kernel_rfl⟩
instance : FnI Tryz.prog 23 := ⟨fun _ _ => by kernel_rfl⟩
instance : FnI Tryz.prog 24 := ⟨fun _ _ => by kernel_rfl⟩
instance : FnI Tryz.prog 25 := ⟨fun _ _ => by kernel_rfl⟩
instance : FnI Tryz.prog 26 := ⟨fun _ _ => by kernel_rfl⟩
instance : FnI Tryz.prog 27 := ⟨fun _ _ => by kernel_rfl⟩
instance : FnI Tryz.prog 28 := ⟨fun _ _ => by kernel_rfl⟩
instance : FnI Tryz.prog 29 := ⟨fun _ _ => by kernel_rfl⟩
instance : FnI Tryz.prog 30 := ⟨fun _ _ => by kernel_rfl⟩
instance : FnI Tryz.prog 31 := ⟨fun _ _ => by kernel_rfl⟩
instance : FnI Tryz.prog 32 := ⟨fun _ _ => by kernel_rfl⟩
instance : FnI Tryz.prog 33 := ⟨fun _ _ => by kernel_rfl⟩
instance : FnI Tryz.prog 34 := ⟨fun _ _ => by kernel_rfl⟩
instance : FnI Tryz.prog 35 := ⟨fun _ _ => by kernel_rfl⟩
instance : FnI Tryz.prog 36 := ⟨fun _ _ => by kernel_rfl⟩
instance : FnI Tryz.prog 37 := ⟨fun _ _ => by kernel_rfl⟩
instance : FnI Tryz.prog 38 := ⟨fun _ _ => by kernel_rfl⟩
instance : FnI Tryz.prog 39 := ⟨fun _ _ => by kernel_rfl⟩
instance : FnI Tryz.prog 40 := ⟨fun _ _ => by kernel_rfl⟩
instance : FnI Tryz.prog 41 := ⟨fun _ _ => by kernel_rfl⟩
instance : FnI Tryz.prog 42 := ⟨fun _ _ => by kernel_rfl⟩
instance : FnI Tryz.prog 43 := ⟨fun _ _ => by kernel_rfl⟩
instance : FnI Tryz.prog 44 := ⟨fun _ _ => by kernel_rfl⟩
instance : FnI Tryz.prog 45 := ⟨fun _ _ => by kernel_rfl⟩
instance : FnI Tryz.prog 46 := ⟨fun _ _ => by kernel_rfl⟩
instance : FnI Tryz.prog 47 := ⟨fun _ _ => by kernel_rfl⟩
instance : FnI Tryz.prog 48 := ⟨fun _ _ => by kernel_rfl⟩
instance : FnI Tryz.prog 49 := ⟨fun _ _ => by kernel_rfl⟩
instance : FnI Tryz.prog 50 := ⟨fun _ _ => by kernel_rfl⟩
instance : FnI Tryz.prog 51 := ⟨fun _ _ => by kernel_rfl⟩
instance : FnI Tryz.prog 52 := ⟨fun _ _ => by kernel_rfl⟩
instance : FnI Tryz.prog 53 := ⟨fun _ _ => by kernel_rfl⟩
instance : FnI Tryz.prog 54 := ⟨fun _ _ => by kernel_rfl⟩
instance : FnI Tryz.prog 55 := ⟨fun _ _ => by kernel_rfl⟩
instance : FnI Tryz.prog 56 := ⟨fun _ _ => by kernel_rfl⟩
instance : FnI Tryz.prog 57 := ⟨fun _ _ => by kernel_rfl⟩
instance : FnI Tryz.prog 58 := ⟨fun _ _ => by kernel_rfl⟩
instance : FnI Tryz.prog 59 := ⟨fun _ _ => by kernel_rfl⟩
instance : FnI Tryz.prog 60 := ⟨fun _ _ => by kernel_rfl⟩
instance : FnI Tryz.prog 61 := ⟨fun _ _ => by kernel_rfl⟩
instance : FnI Tryz.prog 62 := ⟨fun _ _ => by kernel_rfl⟩
instance : FnI Tryz.prog 63 := ⟨fun _ _ => by kernel_rfl⟩
instance : FnI Tryz.prog 64 := ⟨fun _ _ => by kernel_rfl⟩
instance : FnI Tryz.prog 65 := ⟨fun _ _ => by kernel_rfl⟩
instance : FnI Tryz.prog 66 := ⟨fun _ _ => by kernel_rfl⟩
instance : FnI Tryz.prog 67 := ⟨fun _ _ => by kernel_rfl⟩
instance : FnI Tryz.prog 68 := ⟨fun _ _ => by kernel_rfl⟩
instance : FnI Tryz.prog 69 := ⟨fun _ _ => by kernel_rfl⟩
instance : FnI Tryz.prog 70 := ⟨fun _ _ => by kernel_rfl⟩
instance : FnI Tryz.prog 71 := ⟨fun _ _ => by kernel_rfl⟩
instance : FnI Tryz.prog 72 := ⟨fun _ _ => by kernel_rfl⟩
instance : FnI Tryz.prog 73 := ⟨fun _ _ => by kernel_rfl⟩
instance : FnI Tryz.prog 74 := ⟨fun _ _ => by kernel_rfl⟩
instance : FnI Tryz.prog 75 := ⟨fun _ _ => by kernel_rfl⟩
instance : FnI Tryz.prog 76 := ⟨fun _ _ => by kernel_rfl⟩
instance : FnI Tryz.prog 77 := ⟨fun _ _ => by kernel_rfl⟩
instance : FnI Tryz.prog 78 := ⟨fun _ _ => by kernel_rfl⟩
instance : FnI Tryz.prog 79 := ⟨fun _ _ => by kernel_rfl⟩
instance : FnI Tryz.prog 80 := ⟨fun _ _ => by kernel_rfl⟩
instance : FnI Tryz.prog 81 := ⟨fun _ _ => by kernel_rfl⟩
instance : FnI Tryz.prog 82 := ⟨fun _ _ => by kernel_rfl⟩
instance : FnI Tryz.prog 83 := ⟨fun _ _ => by kernel_rfl⟩
instance : FnI Tryz.prog 84 := ⟨fun _ _ => by kernel_rfl⟩
instance : FnI Tryz.prog 85 := ⟨fun _ _ => by kernel_rfl⟩
instance : FnI Tryz.prog 86 := ⟨fun _ _ => by kernel_rfl⟩
instance : FnI Tryz.prog 87 := ⟨fun _ _ => by kernel_rfl⟩
instance : FnI Tryz.prog 88 := ⟨fun _ _ => by kernel_rfl⟩
instance : FnI Tryz.prog 89 := ⟨fun _ _ => by kernel_rfl⟩
instance : FnI Tryz.prog 90 := ⟨fun _ _ => by kernel_rfl⟩
instance : FnI Tryz.prog 91 := ⟨fun _ _ => by kernel_rfl⟩
instance : FnI Tryz.prog 93 := ⟨fun _ _ => by kernel_rfl⟩
instance : FnI Tryz.prog 94 := ⟨fun _ _ => by kernel_rfl⟩
instance : FnI Tryz.prog 95 := ⟨fun _ _ => by kernel_rfl⟩
instance : FnI Tryz.prog 96 := ⟨fun _ _ => by kernel_rfl⟩
instance : FnI Tryz.prog 97 := ⟨fun _ _ => by kernel_rfl⟩
instance : FnI Tryz.prog 98 := ⟨fun _ _ => by kernel_rfl⟩
instance : FnI Tryz.prog 99 := ⟨fun _ _ => by kernel_rfl⟩
instance : FnI Tryz.prog 100 := ⟨fun _ _ => by kernel_rfl⟩
instance : FnI Tryz.prog 101 := ⟨fun _ _ => by kernel_rfl⟩
instance : FnI Tryz.prog 102 := ⟨fun _ _ => by kernel_rfl⟩
instance : FnI Tryz.prog 103 := ⟨fun _ _ => by kernel_rfl⟩
instance : FnI Tryz.prog 104 := ⟨fun _ _ => by kernel_rfl⟩
instance : FnI Tryz.prog 105 := ⟨fun _ _ => by kernel_rfl⟩
instance : FnI Tryz.prog 106 := ⟨fun _ _ => by kernel_rfl⟩
instance : FnI Tryz.prog 107 := ⟨fun _ _ => by kernel_rfl⟩
instance : FnI Tryz.prog 108 := ⟨fun _ _ => by kernel_rfl⟩
instance : FnI Tryz.prog 109 := ⟨fun _ _ => by kernel_rfl⟩
instance : FnI Tryz.prog 110 := ⟨fun _ _ => by kernel_rfl⟩
instance : FnI Tryz.prog 111 := ⟨fun _ _ => by kernel_rfl⟩
instance : FnI Tryz.prog 112 := ⟨fun _ _ => by kernel_rfl⟩
instance : FnI Tryz.prog 113 := ⟨fun _ _ => by kernel_rfl⟩
instance : FnI Tryz.prog 114 := ⟨fun _ _ => by kernel_rfl⟩
instance : FnI Tryz.prog 116 := ⟨fun _ _ => by kernel_rfl⟩
instance : FnI Tryz.prog 117 := ⟨fun _ _ => by kernel_rfl⟩
instance : FnI Tryz.prog 118 := ⟨fun _ _ => by kernel_rfl⟩
instance : FnI Tryz.prog 119 := ⟨fun _ _ => by kernel_rfl⟩
instance : FnI Tryz.prog 120 := ⟨fun _ _ => by kernel_rfl⟩
instance : FnI Tryz.prog 121 := ⟨fun _ _ => by kernel_rfl⟩
instance : FnI Tryz.prog 122 := ⟨fun _ _ => by kernel_rfl⟩
instance : FnI Tryz.prog 123 := ⟨fun _ _ => by kernel_rfl⟩
instance : FnI Tryz.prog 124 := ⟨fun _ _ => by kernel_rfl⟩
instance : FnI Tryz.prog 125 := ⟨fun _ _ => by kernel_rfl⟩
instance : FnI Tryz.prog 126 := ⟨fun _ _ => by kernel_rfl⟩
instance : FnI Tryz.prog 127 := ⟨fun _ _ => by kernel_rfl⟩
instance : FnI Tryz.prog 128 := ⟨fun _ _ => by kernel_rfl⟩
instance : FnI Tryz.prog 129 := ⟨fun _ _ => by kernel_rfl⟩
end Go.Proofs.YtkkeeokeihkagaaGreat


/-
  The program logic: structs and arrays built of parts. No condition.
-/
namespace Go.Proofs.YtkkeeokeihkagaaGreat
open Go.RowKit

class PI (P : Program) (t : TypeId) (z : outParam (List Value)) (pl : outParam (List (Nat × Nat))) : Prop where
  h : ∀ (w : World) (parts : Array (Nat × Value)) (cells : Array Value), Instr.fill (pl[·]?) z.toArray parts.toList = some cells → (Instr.build t parts).run P w = .ok (.agg cells) w
theorem fill_mono {p q : Nat → Option (Nat × Nat)} (h : ∀ i x, p i = some x → q i = some x) : ∀ (l : List (Nat × Value)) (cs r : Array Value), Instr.fill p cs l = some r → Instr.fill q cs l = some r
  | [], _, _, e => e
  | (i, v) :: rest, cs, r, e => by
    simp only [Instr.fill] at e ⊢
    cases hp : p i with
    | none => rw [hp] at e; cases e
    | some x =>
      obtain ⟨o, s⟩ := x
      rw [hp] at e
      rw [h i _ hp]
      simp only at e ⊢
      split at e
      · cases e
      · rename_i hn; rw [if_neg hn]; exact fill_mono h rest _ _ e
theorem PI.struct {P : Program} {t : TypeId} {fs : Array Field} {z : List Value} {pl : List (Nat × Nat)} (hu : P.underlying t = some (.struct fs)) (hz : ∀ w, (zeroValue t).run P w = .ok (.agg z.toArray) w)
    (hp : ∀ w, (fs.mapM fun f => do pure (f.offset, ← sizeOf f.type) : Sem (Array (Nat × Nat))).run P w = .ok pl.toArray w) : PI P t z pl := ⟨fun w parts cells h => by
  have h' : Instr.fill (fun x => pl.toArray[x]?) z.toArray parts.toList = some cells := by simpa using h
  simp only [Instr.build, Sem.run_bind, hz, Result.andThen_ok, run_underlying hu, hp, Value.cells, h', Sem.run_pure]⟩
theorem PI.array {P : Program} {t e : TypeId} {n size : Nat} {z : List Value} {pl : List (Nat × Nat)} (hu : P.underlying t = some (.array n e)) (hz : ∀ w, (zeroValue t).run P w = .ok (.agg z.toArray) w)
    (hs : (P.info? e).map (·.size) = some size) (hp : pl = (List.range n).map fun i => (i * size, size)) : PI P t z pl := ⟨fun w parts cells h => by
  have h' : Instr.fill (fun i => some (i * size, size)) z.toArray parts.toList = some cells := fill_mono (fun i x hx => by
    subst hp
    rw [List.getElem?_map] at hx
    cases hr : (List.range n)[i]? with
    | none => rw [hr] at hx; cases hx
    | some j => rw [hr] at hx; have := List.getElem?_eq_some_iff.1 hr; obtain ⟨hlt, hj⟩ := this; rw [List.getElem_range] at hj; subst hj; exact hx) _ _ _ h
  simp only [Instr.build, Sem.run_bind, hz, Result.andThen_ok, run_underlying hu, run_sizeOf' hs, Value.cells, h', Sem.run_pure]⟩
def splB (cs : List AV) (o : Nat) (ds : List AV) : List AV := spl cs o ds
def cuB (u : AV) : List AV := cu u
/-- the parts put into their places -/
def fillA (T : AT) (pl : List (Nat × Nat)) (N : Nat) (cs : List AV) : List (Nat × Operand) → Option (List AV)
  | [] => some cs
  | (i, x) :: rest => match pl[i]? with
    | none => none
    | some (o, s) => match ev T x with
      | none => none
      | some u => bif Nat.beq (cu u).length s && Nat.ble (o + s) N then fillA T pl N (splB cs o (cuB u)) rest else none
theorem fillA_ok {P : Program} {T : AT} {pl : List (Nat × Nat)} {N : Nat} {E : Env} {a : Act} : ∀ (l : List (Nat × Operand)) (cs r : List AV) (xs : List Value), (∀ x ∈ l.map (·.2), ∀ u, ev T x = some u → RV E u (a.eval x)) → RVs E cs xs → cs.length = N → fillA T pl N cs l = some r →
    ∃ ys, Instr.fill (pl[·]?) xs.toArray (l.map fun p => (p.1, a.eval p.2)) = some ys.toArray ∧ RVs E r ys
  | [], cs, r, xs, _, hR, _, h => by
    simp only [fillA, Option.some.injEq] at h
    subst h
    exact ⟨xs, rfl, hR⟩
  | (i, x) :: rest, cs, r, xs, hT, hR, hN, h => by
    simp only [fillA] at h
    cases hp : pl[i]? with
    | none => rw [hp] at h; cases h
    | some q =>
      obtain ⟨o, s⟩ := q
      rw [hp] at h
      simp only at h
      cases he : ev T x with
      | none => rw [he] at h; cases h
      | some u =>
        rw [he] at h
        simp only at h
        cases hb : (Nat.beq (cu u).length s && Nat.ble (o + s) N) with
        | false => rw [hb] at h; cases h
        | true =>
          rw [hb] at h
          simp only [Bool.and_eq_true] at hb
          have h1 : (cu u).length = s := Nat.eq_of_beq_eq_true hb.1
          have h2 : o + s ≤ cs.length := by rw [hN]; exact Nat.le_of_ble_eq_true hb.2
          have hr := (hT x (by simp) u he).cu
          have hsz : (a.eval x).cells.size = s := by have := hr.1; rw [Array.length_toList] at this; exact this.trans h1
          have hput : ∀ (vs : List Value) (off : Nat) (c0 : Array Value), off + vs.length ≤ c0.size → ((vs.toArray.zipIdx).foldl (fun cs (x : Value × Nat) => match x with | (c, j) => cs.setIfInBounds (off + j) c) c0) = (c0.toList.take off ++ vs ++ c0.toList.drop (off + vs.length)).toArray := by
            intro vs off c0
            have gen : ∀ (vs : List Value) (k : Nat) (c0 : Array Value), off + k + vs.length ≤ c0.size → ((vs.zipIdx k).foldl (fun cs (x : Value × Nat) => match x with | (c, j) => cs.setIfInBounds (off + j) c) c0) = (c0.toList.take (off + k) ++ vs ++ c0.toList.drop (off + k + vs.length)).toArray := by
              intro vs
              induction vs with
              | nil => intro k c0 _; simp
              | cons v vs ih =>
                intro k c0 hc
                simp only [List.length_cons] at hc
                simp only [List.zipIdx_cons, List.foldl_cons]
                rw [ih (k + 1) _ (by simp; omega)]
                have := list_seg_step c0.toList (off + k) v vs (by simp; omega)
                simp only [Array.toList_setIfInBounds, List.length_cons]
                rw [← Nat.add_assoc off k 1, this]
            intro hc
            have := gen vs 0 c0 (by simpa using hc)
            simp only [Nat.add_zero] at this
            rw [← this]
            rw [← Array.foldl_toList]
            simp
          have hv := hput (a.eval x).cells.toList o xs.toArray (by simp [hsz]; rw [hR.1]; exact h2)
          simp only [Array.toArray_toList] at hv
          have hR' : RVs E (spl cs o (cu u)) (xs.take o ++ (a.eval x).cells.toList ++ xs.drop (o + (a.eval x).cells.toList.length)) := by
            unfold spl
            rw [show (cu u).length = (a.eval x).cells.toList.length from hr.1.symm]
            exact ((hR.take o).append hr).append (hR.drop _)
          obtain ⟨ys, k1, k2⟩ := fillA_ok (P := P) rest _ r _ (fun y hy => hT y (by simp at hy ⊢; exact .inr hy)) hR' (by unfold spl; simp only [List.length_append, List.length_take, List.length_drop]; omega) h
          refine ⟨ys, ?_, k2⟩
          have hng : ¬ (o + s > xs.toArray.size) := by simp [hR.1]; omega
          simp only [List.map_cons, Instr.fill, hp, hsz, hv]
          simp only [ne_eq, not_true_eq_false, decide_false, Bool.false_or, decide_eq_true_eq, hng, if_false]
          exact k1
instance (cs : List AV) [h : CloL cs] : CloL (cu (.ag cs)) := h
instance (cs : List AV) [h : ValL cs] : ValL (cu (.ag cs)) := h
section
variable {P : Program} {k : Nat} {H : AH} {T : AT} {d : Option Tmp} {ty t : TypeId} {ps : String} {af : Array Edge} {gd : Option (Nat × Bool)}
theorem s_bld {l : List (Nat × Operand)} {z : List Value} {pl : List (Nat × Nat)} {cs ds : List AV} [hP : PI P t z pl] (h : fillA T pl z.length (z.map .v) l = some cs) (hd : cs = ds) : StepU P ⟨d, .build t l.toArray, ty, ps, af, gd⟩ k [] H T (.ag ds) [] :=
  .of_pure fun _ _ _ E a _ _ hT => by
    subst hd
    obtain ⟨ys, h1, h2⟩ := fillA_ok (P := P) (E := E) (a := a) l _ cs z (fun x hx => hT x (by simpa [Op.operands] using hx)) (RVs.vals z) (by simp) h
    refine ⟨.agg ys.toArray, ?_, agu_ag cs E ys h2⟩
    have hmap : (l.toArray.map fun (i, x) => (i, a.eval x)) = (l.map fun p => (p.1, a.eval p.2)).toArray := by simp
    simp only [execOp, hmap, Sem.run_bind, hP.h E.w _ _ h1, Result.andThen_ok, Sem.run_pure]
end
end Go.Proofs.YtkkeeokeihkagaaGreat


/-
  How structs and arrays of this seat's program are built, for the program logic's rules. Written by a program; no condition.
-/
namespace Go.Proofs.YtkkeeokeihkagaaGreat

instance : PI Tryz.prog 13 [.string .empty, .int .u64 0] [(0, 1), (1, 1)] := PI.struct Tryz.underlying13 (fun _ => by kernel_rfl) (fun _ => by kernel_rfl)
instance : PI Tryz.prog 27 [.slice none 0 0, .slice none 0 0, .slice none 0 0, .slice none 0 0, .int .i64 0] [(0, 1), (1, 1), (2, 1), (3, 1), (4, 1)] := PI.struct Tryz.underlying27 (fun _ => by kernel_rfl) (fun _ => by kernel_rfl)
instance : PI Tryz.prog 28 [.slice none 0 0, .slice none 0 0, .slice none 0 0, .slice none 0 0, .int .i64 0] [(0, 1), (1, 1), (2, 1), (3, 1), (4, 1)] := PI.struct Tryz.underlying28 (fun _ => by kernel_rfl) (fun _ => by kernel_rfl)
instance : PI Tryz.prog 29 [.int .u8 0, .int .u8 0, .int .u8 0, .int .u8 0, .int .u8 0, .int .u8 0, .int .u8 0, .int .u8 0] [(0, 1), (1, 1), (2, 1), (3, 1), (4, 1), (5, 1), (6, 1), (7, 1)] := PI.array (size := 1) Tryz.underlying29 (fun _ => by kernel_rfl) (by kernel_rfl) rfl
instance : PI Tryz.prog 30 [.int .u8 0, .int .u8 0, .int .u8 0, .int .u8 0, .int .u8 0, .int .u8 0, .int .u8 0, .int .u8 0] [(0, 1), (1, 1), (2, 1), (3, 1), (4, 1), (5, 1), (6, 1), (7, 1)] := PI.array (size := 1) Tryz.underlying30 (fun _ => by kernel_rfl) (by kernel_rfl) rfl
instance : PI Tryz.prog 31 [.int .i64 0, .int .i64 0, .int .u8 0, .int .u8 0, .int .u8 0, .int .u8 0, .int .u8 0, .int .u8 0, .int .u8 0, .int .u8 0] [(0, 1), (1, 1), (2, 8)] := PI.struct Tryz.underlying31 (fun _ => by kernel_rfl) (fun _ => by kernel_rfl)
instance : PI Tryz.prog 32 [.int .i64 0, .int .i64 0, .int .u8 0, .int .u8 0, .int .u8 0, .int .u8 0, .int .u8 0, .int .u8 0, .int .u8 0, .int .u8 0] [(0, 1), (1, 1), (2, 8)] := PI.struct Tryz.underlying32 (fun _ => by kernel_rfl) (fun _ => by kernel_rfl)
instance : PI Tryz.prog 35 [.int .i64 0, .int .i64 0, .slice none 0 0] [(0, 1), (1, 1), (2, 1)] := PI.struct Tryz.underlying35 (fun _ => by kernel_rfl) (fun _ => by kernel_rfl)
instance : PI Tryz.prog 36 [.int .i64 0, .int .i64 0, .slice none 0 0] [(0, 1), (1, 1), (2, 1)] := PI.struct Tryz.underlying36 (fun _ => by kernel_rfl) (fun _ => by kernel_rfl)
instance : PI Tryz.prog 45 [.int .i64 0, .int .i64 0, .int .u8 0, .int .u8 0, .int .u8 0, .int .u8 0, .int .u8 0, .int .u8 0, .int .u8 0, .int .u8 0, .int .i64 0] [(0, 10), (10, 1)] := PI.struct Tryz.underlying45 (fun _ => by kernel_rfl) (fun _ => by kernel_rfl)
instance : PI Tryz.prog 46 [.int .i64 0, .int .i64 0, .int .u8 0, .int .u8 0, .int .u8 0, .int .u8 0, .int .u8 0, .int .u8 0, .int .u8 0, .int .u8 0, .int .i64 0] [(0, 10), (10, 1)] := PI.struct Tryz.underlying46 (fun _ => by kernel_rfl) (fun _ => by kernel_rfl)
instance : PI Tryz.prog 49 [.int .u8 0, .int .u8 0, .int .u8 0, .int .u8 0, .int .u8 0, .int .u8 0, .int .u8 0, .int .u8 0, .int .u8 0, .int .u8 0, .int .u8 0, .int .u8 0, .int .u8 0, .int .u8 0, .int .u8 0, .int .u8 0, .int .i64 0, .int .i64 0, .int .i64 0] [(0, 8), (8, 8), (16, 1), (17, 1), (18, 1)] := PI.struct Tryz.underlying49 (fun _ => by kernel_rfl) (fun _ => by kernel_rfl)
instance : PI Tryz.prog 50 [.int .u8 0, .int .u8 0, .int .u8 0, .int .u8 0, .int .u8 0, .int .u8 0, .int .u8 0, .int .u8 0, .int .u8 0, .int .u8 0, .int .u8 0, .int .u8 0, .int .u8 0, .int .u8 0, .int .u8 0, .int .u8 0, .int .i64 0, .int .i64 0, .int .i64 0] [(0, 8), (8, 8), (16, 1), (17, 1), (18, 1)] := PI.struct Tryz.underlying50 (fun _ => by kernel_rfl) (fun _ => by kernel_rfl)
instance : PI Tryz.prog 59 [.int .i64 0, .int .i64 0, .slice none 0 0, .slice none 0 0, .slice none 0 0] [(0, 1), (1, 1), (2, 1), (3, 1), (4, 1)] := PI.struct Tryz.underlying59 (fun _ => by kernel_rfl) (fun _ => by kernel_rfl)
instance : PI Tryz.prog 60 [.int .i64 0, .int .i64 0, .slice none 0 0, .slice none 0 0, .slice none 0 0] [(0, 1), (1, 1), (2, 1), (3, 1), (4, 1)] := PI.struct Tryz.underlying60 (fun _ => by kernel_rfl) (fun _ => by kernel_rfl)
instance : PI Tryz.prog 134 [.int .u8 0, .int .u8 0, .int .u8 0, .int .u8 0, .int .u8 0, .int .u8 0, .int .u8 0, .int .u8 0, .int .u8 0, .int .u8 0, .int .u8 0, .int .u8 0, .int .u8 0, .int .u8 0, .int .u8 0, .int .u8 0] [(0, 1), (1, 1), (2, 1), (3, 1), (4, 1), (5, 1), (6, 1), (7, 1), (8, 1), (9, 1), (10, 1), (11, 1), (12, 1), (13, 1), (14, 1), (15, 1)] := PI.array (size := 1) Tryz.underlying134 (fun _ => by kernel_rfl) (by kernel_rfl) rfl
instance : PI Tryz.prog 135 [.int .u64 0, .int .u64 0] [(0, 1), (1, 1)] := PI.struct Tryz.underlying135 (fun _ => by kernel_rfl) (fun _ => by kernel_rfl)
instance : PI Tryz.prog 136 [.int .u64 0, .int .u64 0] [(0, 1), (1, 1)] := PI.struct Tryz.underlying136 (fun _ => by kernel_rfl) (fun _ => by kernel_rfl)
end Go.Proofs.YtkkeeokeihkagaaGreat


/-
  The program logic: append, copy, clear within own blocks, elements of any size; slices of slices of known capacity. No condition.
-/
namespace Go.Proofs.YtkkeeokeihkagaaGreat
open Go.RowKit
theorem own_store {P : Program} {w0 : World} {M : Nat → Prop} {Hr : AH} {E : Env} {b g o : Nat} {blk : ABlk} {ds : List AV} {ys : List Value} (hs : Sta w0 M Hr E) (hb : hk Hr b = some blk) (hg : (E.L b).g = some g) (hys : RVs E ds ys) (h1 : ds.all AV.one = true) (ho : o + ds.length ≤ blk.cells.length) :
    ∃ w', (storeCells ⟨g, o, none⟩ ys).run P E.w = .ok () w' ∧ Sta w0 M ((b, some { blk with cells := spl blk.cells o ds }) :: Hr) { E with w := w' } ∧ E.le { E with w := w' } := by
  obtain ⟨cur, c1, c2, c3, c4, c5⟩ := (hs.own b blk hb).2.2.at hg
  have hst := run_storeCells_at (P := P) g o blk.elem ys 0 cur E.w c1 (by rw [hys.1]; omega) (hys.ones h1)
  simp only [Nat.add_zero] at hst
  have hR := RVs.spl (o := o) c4 c5 hys ho
  refine ⟨_, hst, hs.set hb hg _ (by simp [World.setRow]) (fun g' hne => setRow_other E.w g g' _ hne) rfl rfl rfl (spl blk.cells o ds) (fun E' hw hle => .mk hg ⟨_, by rw [hw]; exact setRow_heap E.w g cur _ _ _ c1, c2, ?_, ?_, hR.mono hle⟩)⟩
  · show (cur.toList.take o ++ ys ++ cur.toList.drop (o + ys.length)).toArray.size = _
    have := hys.1
    rw [← c3]; simp only [List.size_toArray, List.length_append, List.length_take, List.length_drop, Array.length_toList]; omega
  · show (spl blk.cells o ds).length ≤ (cur.toList.take o ++ ys ++ cur.toList.drop (o + ys.length)).toArray.size
    have := hys.1
    rw [spl_length _ _ _ ho]; simp only [List.size_toArray, List.length_append, List.length_take, List.length_drop, Array.length_toList]; omega
theorem own_g {w0 : World} {M : Nat → Prop} {Hr : AH} {E : Env} {b : Nat} {blk : ABlk} (hs : Sta w0 M Hr E) (hb : hk Hr b = some blk) (h : 0 < (E.L b).c ∨ 0 < blk.cells.length) : ∃ g, (E.L b).g = some g := by
  cases eg : (E.L b).g with
  | some g => exact ⟨g, rfl⟩
  | none => have := (hs.own b blk hb).2.2.none eg; rw [this.1] at h; simp at h; omega
section
variable {P : Program} {t e : TypeId} {size bytes : Nat} {z : Value} {k : Nat} {H : AH} {T : AT} {d : Option Tmp} {ty t' : TypeId} {ps : String} {af : Array Edge} {gd : Option (Nat × Bool)}
theorem first_cells {w : World} {A : Option Addr} {m c2 q : Nat} {ys : List Value} (hrd : RdC w A ys) (hl : ys.length = m * size) (hq : q ≤ m) (hp : 0 < size) : (Builtin.firstCells size q (.slice A m c2)).run P w = .ok (ys.take (q * size)).toArray w := by
  rcases hrd with h | ⟨g, o, rfl, hc⟩
  · subst h
    have hm : m = 0 := by
      rcases Nat.eq_zero_or_pos m with h | h
      · exact h
      · have := Nat.mul_pos h hp; simp at hl; omega
    have hq0 : q = 0 := by omega
    subst hq0
    cases A <;> simp [Builtin.firstCells, loadCells, loadCellsFrom]
  · have hqs : q * size ≤ m * size := Nat.mul_le_mul_right _ hq
    exact run_firstCells_some (P := P) w size q ⟨g, o, none⟩ m c2 (ys.take (q * size)) (by rw [List.length_take]; omega) (fun j v hv => by
      rw [addr_at]
      rw [List.getElem?_take] at hv
      split at hv
      · exact hc j v hv
      · cases hv)
theorem s_copyN {x y : Operand} {b o n m : Nat} {c : Option Nat} {blk : ABlk} {u : AV} {cs ds : List AV} {U : List Nat} [hS : SI P t e size bytes z] (hx : ev T x = some (.sb b o n c)) (hb : hk H b = some blk) (hy : ev T y = some u) (hr : Rdv H size u m cs U)
    (hn : 0 < n) (hd : cs.take (min m n * size) = ds) (ho : o + ds.length ≤ blk.cells.length) (h1 : ds.all AV.one = true) :
    StepU P ⟨d, .call { callee := .builtin .copy, args := #[x, y], argTypes := #[t, t'] }, ty, ps, af, gd⟩ k (b :: U) H T (.v (.int .i64 ((min m n : Nat) : Int))) [(b, some { blk with cells := spl blk.cells o ds })] := by
  refine ⟨fun w0 M Hr E a hs hU hk0 hT K Q hK => ?_⟩
  have hb' := (hU b (by simp)).trans hb
  have hv := hT x (by simp [Op.operands, Call.operands]) _ hx
  obtain ⟨A2, c2, ys, hy2, _, hys, hysl, hrd⟩ := hr w0 M Hr E _ hs (fun b hb => hU b (by simp [hb])) (hT y (by simp [Op.operands, Call.operands]) _ hy)
  generalize hxv : a.eval x = v at hv
  cases hv with
  | sb b o n c A c' hD hA hnc hc =>
    obtain ⟨g, hg, rfl⟩ := hA (by omega)
    have hys' := hys.take (min m n * size)
    rw [hd] at hys'
    obtain ⟨w', hrun, h2, h3⟩ := own_store (P := P) hs hb' hg hys' h1 ho
    have hfc := first_cells (P := P) (c2 := c2) (q := min m n) hrd hysl (Nat.min_le_left _ _) hS.pos
    have hcp : (Builtin.copy_ #[t, t'] ty #[.slice (some ⟨g, o, none⟩) n c', .slice A2 m c2]).run P E.w = .ok (.int .i64 ((min m n : Nat) : Int)) w' := by
      have hmin : Nat.min m n = min m n := rfl
      simp only [Builtin.copy_, List.getElem?_toArray, List.getElem?_cons_zero, List.getElem?_cons_succ, run_underlying hS.under, Sem.run_bind, Sem.run_pure, Result.andThen_ok, Builtin.lenOf, run_sizeOf' (si_size hS), hmin, hfc, hrun, goInt]
    unfold Oper.wp
    have : (execOp a.eval ⟨d, .call { callee := .builtin .copy, args := #[x, y], argTypes := #[t, t'] }, ty, ps, af, gd⟩).run P E.w = .ok (.value (.int .i64 ((min m n : Nat) : Int))) w' := by
      simp only [execOp, resolve, invoke, builtin, Sem.run_bind, Sem.run_pure, Result.andThen_ok, List.map_toArray, List.map_cons, List.map_nil, hxv, hy2, hcp]
    rw [this]
    exact hK _ _ h2 h3 (fun b hb => .inl hb) (.v _)
/-- append over elements that are there -/
theorem s_appIn {x y : Operand} {b n m c : Nat} {blk : ABlk} {u : AV} {cs : List AV} {U : List Nat} [hS : SI P t e size bytes z] (hx : ev T x = some (.sc b n c)) (hb : hk H b = some blk) (hy : ev T y = some u) (hr : Rdv H size u m cs U)
    (hcs : cs.length = m * size) (hfit : n * size + m * size ≤ blk.cells.length) (h1 : cs.all AV.one = true) (hroom : n + m ≤ c) (hc0 : 0 < c) :
    StepU P ⟨d, .call { callee := .builtin .append, args := #[x, y], argTypes := #[t, t] }, ty, ps, af, gd⟩ k (b :: U) H T (.sc b (n + m) c) [(b, some { blk with cells := spl blk.cells (n * size) cs })] := by
  refine ⟨fun w0 M Hr E a hs hU hk0 hT K Q hK => ?_⟩
  have hb' := (hU b (by simp)).trans hb
  have hv := hT x (by simp [Op.operands, Call.operands]) _ hx
  obtain ⟨A2, c2, ys, hy2, _, hys, hysl, hrd⟩ := hr w0 M Hr E _ hs (fun b hb => hU b (by simp [hb])) (hT y (by simp [Op.operands, Call.operands]) _ hy)
  generalize hxv : a.eval x = v at hv
  cases hv with
  | sc b n c hD hcc hn =>
    obtain ⟨g, hg⟩ := own_g hs hb' (.inl (by omega))
    obtain ⟨w', hrun, h2, h3⟩ := own_store (P := P) (o := n * size) hs hb' hg hys h1 (by omega)
    have hfc := first_cells (P := P) (c2 := c2) (q := m) hrd hysl (Nat.le_refl _) hS.pos
    rw [← hysl, List.take_length] at hfc
    have hi := hS.info
    have hns : (P.underlying t).isSome = true := by rw [hS.under]; rfl
    have hap : (Builtin.append_ #[t, t] ty #[.slice (some ⟨g, 0, none⟩) n c, .slice A2 m c2]).run P E.w = .ok (.slice (some ⟨g, 0, none⟩) (n + m) c) w' := by
      simp [Builtin.append_, run_underlying hS.under, run_sizeOf' (si_size hS), Builtin.lenOf, hroom, hfc, addr_at, hrun]
    unfold Oper.wp
    have : (execOp a.eval ⟨d, .call { callee := .builtin .append, args := #[x, y], argTypes := #[t, t] }, ty, ps, af, gd⟩).run P E.w = .ok (.value (.slice (some ⟨g, 0, none⟩) (n + m) c)) w' := by
      simp only [execOp, resolve, invoke, builtin, Sem.run_bind, Sem.run_pure, Result.andThen_ok, List.map_toArray, List.map_cons, List.map_nil, hxv, hy2, hg, Option.map_some, hap]
    rw [this]
    have hx' : RV { E with w := w' } (.sc b (n + m) c) (.slice (some ⟨g, 0, none⟩) (n + m) c) := by
      have : RV { E with w := w' } (.sc b (n + m) c) (.slice ((E.L b).g.map fun g => ⟨g, 0, none⟩) (n + m) c) := .sc _ _ _ hD hcc hroom
      rw [hg] at this
      exact this
    exact hK _ _ h2 h3 (fun b hb => .inl hb) hx'
def zeroA (z : Value) (n : Nat) : List AV := (Builtin.zeroCells z.cells n).toList.map .v
theorem zeroA_length (z : Value) (n : Nat) : (zeroA z n).length = n * z.cells.size := by simp [zeroA, size_zeroCells]
/-- append(s, make(..)...), no room -/
theorem s_appZ {x y : Operand} {b n m c : Nat} {blk : ABlk} {kq kn : IntKind} {tn : TypeId} [hS : SI P t e size bytes z] [hN : UI P tn (.int kn)] (hx : ev T x = some (.sc b n c)) (hb : hk H b = some blk) (hy : ev T y = some (.v (.int kq (m : Int))))
    (hm : 0 < m) (hl : n * size ≤ blk.cells.length) (hroom : c < n + m) (hbytes : (n + m) * bytes ≤ 140737488355328) :
    StepU P ⟨d, .call { callee := .builtin .append, args := #[x, y], argTypes := #[t, tn] }, ty, ps, af, gd⟩ k [b] H T (.sl k (n + m)) [(k, some ⟨blk.cells.take (n * size) ++ zeroA z m, e, size⟩)] :=
  .of_new fun w0 M Hr E a hs hU hT => by
    have hb' := (hU b (by simp)).trans hb
    have hv := hT x (by simp [Op.operands, Call.operands]) _ hx
    have hy2 := (hT y (by simp [Op.operands, Call.operands]) _ hy).v_inv
    obtain ⟨hu, hi, hzs, hp, hb0⟩ := hS.slt
    have hmax : n + m ≤ maxLen := by
      have := Nat.le_mul_of_pos_right (n + m) hb0
      simp only [maxLen]; omega
    cases hq : P.info? e with
    | none => simp [hq] at hi
    | some i =>
      simp only [hq, Option.map_some, Option.some.injEq, Prod.mk.injEq] at hi
      obtain ⟨i1, i2, i3⟩ := hi
      subst i2 i3
      generalize hxv : a.eval x = v at hv
      cases hv with
      | sc b n c hD hcc hn =>
        obtain ⟨xs, hxs, hxsl, hfc⟩ : ∃ xs : List Value, RVs E (blk.cells.take (n * i.size)) xs ∧ xs.length = n * i.size ∧ (Builtin.firstCells i.size n (.slice ((E.L b).g.map fun g => ⟨g, 0, none⟩) n c)).run P E.w.drew = .ok xs.toArray E.w.drew := by
          cases eg : (E.L b).g with
          | none =>
            have h0 := (hs.own b blk hb').2.2.none eg
            have hn0 : n = 0 := by omega
            subst hn0
            exact ⟨[], by rw [h0.1]; simp; exact RVs.nil E, by simp, by simp [Builtin.firstCells]⟩
          | some g =>
            obtain ⟨ys, h1, h2⟩ := own_read hs hb' eg
            refine ⟨ys.take (n * i.size), h1.take _, by rw [List.length_take, h1.1]; omega, ?_⟩
            exact run_firstCells_some (P := P) E.w.drew i.size n ⟨g, 0, none⟩ n c (ys.take (n * i.size)) (by rw [List.length_take, h1.1]; omega) (fun j v hv => by
              rw [addr_at, Nat.zero_add]
              rw [List.getElem?_take] at hv
              split at hv
              · exact h2 j v hv
              · cases hv)
        have hge := grownCap_ge E.w (n + m) c e
        have hcm := grownCap_le_maxLen E.w (n + m) c e hmax
        have hmb : m * i.bytes ≤ (n + m) * i.bytes := Nat.mul_le_mul_right _ (by omega)
        have hrun := Go.Lib.run_append_grow_zeros (P := P) E.w t tn ty e i z kq kn hu hN.u hq i1 ((E.L b).g.map fun g => ⟨g, 0, none⟩) n c xs hfc m hm hp hroom (by simp only [maxLen] at hmax; omega) (by omega) (growslice_fits hroom hbytes)
        refine ⟨_, _, ⟨some E.w.heap.size, grownCap E.w (n + m) c e⟩, by simp only [execOp, resolve, invoke, builtin, Sem.run_bind, Sem.run_pure, Result.andThen_ok, List.map_toArray, List.map_cons, List.map_nil, hxv, hy2, hrun]; rfl,
          (Below.refl _ _).drew.alloc (Nat.le_refl _) _, fun g hg => by injection hg with hg; omega, fun E' hw hle => .mk rfl ⟨_, by rw [hw]; exact Go.heap_alloc_new E.w.drew _, hcm, ?_, ?_, ?_⟩, fun E' hL hD => ?_⟩
        · show Array.size _ = grownCap E.w (n + m) c e * i.size
          simp only [Array.size_append, List.size_toArray, size_zeroCells, hzs, hxsl, ← Nat.add_mul]
          congr 1
          omega
        · show (blk.cells.take (n * i.size) ++ zeroA z m).length ≤ Array.size _
          simp only [Array.size_append, List.size_toArray, List.length_append, zeroA_length, ← hxs.1, size_zeroCells]; omega
        · show RVs E' (blk.cells.take (n * i.size) ++ zeroA z m) (List.take (blk.cells.take (n * i.size) ++ zeroA z m).length _)
          have hxy := (hxs.mono hle).append (RVs.vals (E := E') (Builtin.zeroCells z.cells m).toList)
          have : (xs.toArray ++ Builtin.zeroCells z.cells m ++ Builtin.zeroCells z.cells (grownCap E.w (n + m) c e - (n + m))).toList.take (blk.cells.take (n * i.size) ++ zeroA z m).length = xs ++ (Builtin.zeroCells z.cells m).toList := by
            have hl2 : (blk.cells.take (n * i.size) ++ zeroA z m).length = (xs ++ (Builtin.zeroCells z.cells m).toList).length := by simp only [List.length_append, zeroA, List.length_map, hxs.1]
            rw [hl2]
            simp only [Array.toList_append, List.append_assoc]
            rw [← List.append_assoc]
            exact List.take_left
          rw [this]
          exact hxy
        · have : RV E' (.sl k (n + m)) (.slice ((E'.L k).g.map fun g => ⟨g, 0, none⟩) (n + m) (E'.L k).c) := .sl _ _ hD (by rw [hL]; exact hge)
          rw [hL] at this
          exact this
/-- clear(s) -/
theorem s_clear {x : Operand} {b o n : Nat} {c : Option Nat} {blk : ABlk} [hS : SI P t e size bytes z] (hx : ev T x = some (.sb b o n c)) (hb : hk H b = some blk) (hn : 0 < n) (ho : o + n * size ≤ blk.cells.length) (h1 : (zeroA z n).all AV.one = true) :
    StepU P ⟨d, .call { callee := .builtin .clear, args := #[x], argTypes := #[t] }, ty, ps, af, gd⟩ k [b] H T (.v (.tuple #[])) [(b, some { blk with cells := spl blk.cells o (zeroA z n) })] := by
  refine ⟨fun w0 M Hr E a hs hU hk0 hT K Q hK => ?_⟩
  have hb' := (hU b (by simp)).trans hb
  have hv := hT x (by simp [Op.operands, Call.operands]) _ hx
  obtain ⟨hu, hi, hzs, hp, hb0⟩ := hS.slt
  generalize hxv : a.eval x = v at hv
  cases hv with
  | sb b o n c A c' hD hA hnc hc =>
    obtain ⟨g, hg, rfl⟩ := hA (by omega)
    obtain ⟨w', hrun, h2, h3⟩ := own_store (P := P) (o := o) (ds := zeroA z n) hs hb' hg (RVs.vals (Builtin.zeroCells z.cells n).toList) h1 (by rw [zeroA_length, hzs]; exact ho)
    have hz : (zeroValue e).run P E.w = .ok z E.w := by
      cases hq : P.info? e with
      | none => simp [hq] at hi
      | some i =>
        simp only [hq, Option.map_some, Option.some.injEq, Prod.mk.injEq] at hi
        simp [zeroValue, typeInfo, hq, hi.1]
    have hcl : (Builtin.clear_ #[t] ty #[.slice (some ⟨g, o, none⟩) n c']).run P E.w = .ok (.tuple #[]) w' := by
      have hn0 : n ≠ 0 := by omega
      cases n with
      | zero => exact absurd rfl hn0
      | succ q => simp [Builtin.clear_, run_underlying hS.under, hz, hrun]
    unfold Oper.wp
    have : (execOp a.eval ⟨d, .call { callee := .builtin .clear, args := #[x], argTypes := #[t] }, ty, ps, af, gd⟩).run P E.w = .ok (.value (.tuple #[])) w' := by
      simp only [execOp, resolve, invoke, builtin, Sem.run_bind, Sem.run_pure, Result.andThen_ok, List.map_toArray, List.map_cons, List.map_nil, hxv, hcl]
    rw [this]
    exact hK _ _ h2 h3 (fun b hb => .inl hb) (.v _)
theorem s_cap {x : Operand} {b n c : Nat} [hS : SI P t e size bytes z] (hx : ev T x = some (.sc b n c)) : StepU P ⟨d, .call { callee := .builtin .cap, args := #[x], argTypes := #[t] }, ty, ps, af, gd⟩ k [] H T (.v (.int .i64 (c : Int))) [] :=
  .of_pure fun _ _ _ E a hs hU hT => by
    have hv := hT x (by simp [Op.operands, Call.operands]) _ hx
    generalize hxv : a.eval x = v at hv
    cases hv with
    | sc b n c hD hcc hn =>
      refine ⟨.int .i64 (c : Int), ?_, .v _⟩
      simp only [execOp, resolve, invoke, builtin, Builtin.cap_, List.getElem?_toArray, List.getElem?_cons_zero, run_underlying hS.under, Sem.run_bind, Sem.run_pure, Result.andThen_ok, List.map_toArray, List.map_cons, List.map_nil, hxv, goInt]
/-- s[l:h] of a slice of known capacity -/
theorem s_slS {x : Operand} {lo hi : Option Operand} {b n l h c : Nat} [hS : SI P t e size bytes z] (hx : ev T x = some (.sc b n c)) (hlo : Bnd T lo l 0) (hhi : Bnd T hi h n) (h1 : l ≤ h) (h2 : h ≤ c) {blk : ABlk} (hb : hk H b = some blk) :
    StepU P ⟨d, .slice t x lo hi none, ty, ps, af, gd⟩ k [b] H T (.sb b (l * size) (h - l) (some (c - l))) [] :=
  .of_pure fun _ _ _ E a hs hU hT => by
    have hv := hT x (by simp [Op.operands]) _ hx
    have b1 := bnd_map (E := E) (a := a) hlo (l := (Op.slice t x lo hi none).operands.toList) (fun y hy => by subst hy; simp [Op.operands]) (fun y hy => hT y (by simpa using hy))
    have b2 := bnd_map (E := E) (a := a) hhi (l := (Op.slice t x lo hi none).operands.toList) (fun y hy => by subst hy; simp [Op.operands]) (fun y hy => hT y (by simpa using hy))
    generalize hy : a.eval x = v at hv
    cases hv with
    | sc b n c hD hcc hn =>
      have hr := run_bounds (P := P) (isS := true) (len := n) (cap := c) (l := l) (h := h) (m := c) (lo := lo.map a.eval) (hi := hi.map a.eval) (mx := none) E.w b1
        b2 (fun _ => rfl) rfl h1 h2 (Nat.le_refl _)
      have := run_sliceSlice (P := P) (t := t) (isN := false) E.w ((E.L b).g.map fun g => ⟨g, 0, none⟩) n c l h c hr
      refine ⟨_, by simp only [execOp, hy, Sem.run_bind, Sem.run_pure, Option.map_none, this, Result.andThen_ok]; rfl, ?_⟩
      refine .sb _ _ _ _ _ _ hD (fun hne => ?_) (by omega) (fun k hk => by injection hk)
      obtain ⟨g, hg⟩ := own_g hs ((hU b (by simp)).trans hb) (.inl (by omega))
      exact ⟨g, hg, by rw [if_neg (by omega), hg]; simp [addr_at]⟩
/-- slices.overlaps -/
class OvI (P : Program) (f : FuncId) (t : outParam TypeId) : Prop where
  h : ∃ tr, ∀ args w, (callFunc f args).run P w = ((Extern.SlicesOverlaps.overlaps #[t, t] #[tr] args).run P w).andThen fun v w' => .ok (.value v) w'
theorem s_ovl {f : FuncId} {fo x y : Operand} {ts : Array TypeId} {b b2 m o n : Nat} {c : Option Nat} {blk blk2 : ABlk} [hO : OvI P f t] [hS : SI P t e size bytes z] (hf : ev T fo = some (.fn f [])) (hx : ev T x = some (.sl b m)) (hy : ev T y = some (.sb b2 o n c)) (hb : hk H b = some blk) (hb2 : hk H b2 = some blk2) (hne : Nat.beq b b2 = false) (hl1 : 0 < blk.cells.length) (hl : 0 < blk2.cells.length) (hn : 0 < n) :
    StepU P ⟨d, .call { callee := .value fo, args := #[x, y], argTypes := ts }, ty, ps, af, gd⟩ k [b, b2] H T (.v (.bool false)) [] :=
  .of_pure fun _ _ Hr E a hs hU hT => by
    have hfv := hT fo (by simp [Op.operands, Call.operands]) _ hf
    have h1 := hT x (by simp [Op.operands, Call.operands]) _ hx
    have h2 := hT y (by simp [Op.operands, Call.operands]) _ hy
    have hb' := (hU b (by simp)).trans hb
    have hb2' := (hU b2 (by simp)).trans hb2
    have hbb : b ≠ b2 := fun e => by subst e; simp at hne
    obtain ⟨tr, hO⟩ := hO.h
    generalize hfe : a.eval fo = fv at hfv
    generalize hxe : a.eval x = xv at h1
    generalize hye : a.eval y = yv at h2
    cases hfv with
    | fn f cs xs hl' h =>
      have : xs = #[] := Array.eq_empty_of_size_eq_zero (by simpa using hl')
      subst this
      cases h1 with
      | sl b m hD hm =>
        cases h2 with
        | sb b2 o n c A c' hD2 hA hn2 hc =>
          refine ⟨.bool false, ?_, .v _⟩
          have hov : (Extern.SlicesOverlaps.overlaps #[t, t] #[tr] #[.slice ((E.L b).g.map fun g => ⟨g, 0, none⟩) m (E.L b).c, .slice A n c']).run P E.w = .ok (.bool false) E.w := by
            obtain ⟨g2, hg2, rfl⟩ := hA (by omega)
            obtain ⟨g, eg⟩ := own_g hs hb' (.inr hl1)
            rw [eg, Option.map_some]
            · skip
              obtain ⟨cs1, c1, _, _, _, _⟩ := (hs.own b blk hb').2.2.at eg
              obtain ⟨cs2, d1, _, _, d4, _⟩ := (hs.own b2 blk2 hb2').2.2.at hg2
              have hgg : g ≠ g2 := fun e => by subst e; exact hbb (hs.inj b b2 blk blk2 g hb' hb2' eg hg2)
              refine Go.Lib.run_overlaps_apart (P := P) E.w t tr e hS.under size (fun w => run_sizeOf' (si_size hS) w) ⟨g, 0, none⟩ ⟨g2, o, none⟩ m (E.L b).c n c' hgg blk.elem blk2.elem cs1.size cs2.size ?_ ?_ (by omega) ?_ ?_
              · simp [World.shape?, c1]
              · simp [World.shape?, d1]
              · simp [World.frozen?, c1]
              · simp [World.frozen?, c1]
          simp only [execOp, resolve, hfe, Deferred.ofValue, invoke, Sem.run_bind, Sem.run_pure, Result.andThen_ok, Array.empty_append, Array.append_empty, List.map_toArray, List.map_cons, List.map_nil, hxe, hye, hO, hov]
end
end Go.Proofs.YtkkeeokeihkagaaGreat


/-
  How arguments that are names, numbers or byte strings are opened. No condition.
-/
namespace Go.Proofs.YtkkeeokeihkagaaGreat
open Go.ChangeShapes Go.WideShapes Go.ChangeAt Go.RowKit

section
variable {H : Type} {enc : TypeId × Value → H} {P : Program} {w : World} {base : Nat} {spare : Nat → Bool} {held : Bool} {fuel : Nat} {t e : TypeId} {cs : List Value} {x : DataW H × List MemPlace}
/-- an array of n bytes -/
theorem trod_bytes {n : Nat} (ht : P.underlying t = some (.array n e)) (he : P.underlying e = some (.int .u8)) (hce : P.cellsOf e = 1) (hct : P.cellsOf t = n)
    (h : DataW.trod enc P w base spare held fuel t cs = some x) : ∃ b : Nat → UInt8, cs = (List.range n).map fun i => .int .u8 ((b i).toNat : Int) := by
  obtain ⟨xs, m, _, _, hlen, hxs, hg⟩ := DataW.trod_array ht h
  have hb : ∀ i, ∃ c : UInt8, i < n → cs[i]? = some (.int .u8 (c.toNat : Int)) := by
    intro i
    by_cases hi : i < n
    · have h1 := hg i hi
      rw [List.getElem?_eq_getElem (by omega), hce, Nat.mul_one] at h1
      obtain ⟨z, hz, _, hwf⟩ := DataW.trod_int he h1
      have hbd := bounds_u8 hwf
      obtain ⟨c, hc⟩ := u8_of z (by omega) (by omega)
      refine ⟨c, fun _ => ?_⟩
      rw [← hc]
      have h2 : ((cs.drop i).take 1)[0]? = some (.int .u8 z) := by rw [hz]; rfl
      rw [List.getElem?_take_of_lt (by omega), List.getElem?_drop] at h2
      simpa using h2
    · exact ⟨0, fun h => absurd h hi⟩
  refine ⟨fun i => Classical.choose (hb i), ?_⟩
  apply List.ext_getElem?
  intro i
  by_cases hi : i < n
  · rw [Classical.choose_spec (hb i) hi]
    simp [hi]
  · rw [List.getElem?_eq_none (by omega), List.getElem?_eq_none (by simp; omega)]
/-- a name -/
theorem trod_name (ht : P.underlying t = some (.array 8 e)) (he : P.underlying e = some (.int .u8)) (hce : P.cellsOf e = 1) (hct : P.cellsOf t = 8)
    (h : DataW.trod enc P w base spare held fuel t cs = some x) : ∃ n : UInt64, cs = (nameC n).toList := by
  obtain ⟨b, rfl⟩ := trod_bytes ht he hce hct h
  refine ⟨nameOf b, ?_⟩
  rw [nameC_nameOf]
  rfl
theorem okWide_arr {r : Reach} {b0 n : Nat} {v : Value} (ht : P.underlying t = some (.array n e)) (h : Value.okWide P w r b0 t v) : ∃ cs, v = .agg cs ∧ cs.size = P.cellsOf t := by
  simp only [Value.okWide, ht] at h
  obtain ⟨cs, h1, h2, _⟩ := h
  exact ⟨cs, h1, h2⟩
/-- an argument that is a name -/
theorem open_name {r : Reach} {b0 : Nat} {v : Value} {d : DataW H} {p : List MemPlace} (ht : P.underlying t = some (.array 8 e)) (he : P.underlying e = some (.int .u8)) (hce : P.cellsOf e = 1) (hct : P.cellsOf t = 8)
    (hv : Value.okWide P w r b0 t v) (h : DataW.Trod enc P w base spare held t v d p) : ∃ n : UInt64, v = .agg (nameC n) := by
  obtain ⟨cs, rfl, _⟩ := okWide_arr ht hv
  obtain ⟨fuel, hf⟩ := h
  obtain ⟨n, hn⟩ := trod_name ht he hce hct hf
  refine ⟨n, ?_⟩
  simp only [Value.cells] at hn
  rw [← Array.toArray_toList (xs := cs), hn]
end
end Go.Proofs.YtkkeeokeihkagaaGreat


/-
  Contracts of the program logic into the kit's words and back; arguments. No condition.
-/
namespace Go.Proofs.YtkkeeokeihkagaaGreat
open Go.RowKit

def E0 (w : World) : Env := { w := w, S := fun _ => False, L := fun _ => ⟨none, 0⟩, D := fun _ => False }
section
variable {P : Program}
theorem Fresh.calls {f : FuncId} {args : List AV} {x : Value} (h : Fresh P f args (fun _ => .v x) []) (w : World) (xs : List Value) (hx : RVs (E0 w) args xs) : Calls P f xs.toArray w fun e w' => e = .returned x ∧ Ext w w' := by
  refine (h (E0 w) xs (fun g h => h) (fun b h => h) hx).mono ?_
  rintro e w' ⟨y, ls, rfl, h1, _, _, h4⟩
  have := (h4 0 (E0 w') rfl (fun g hg => hg.elim) (fun j hj => by simp at hj)).2.v_inv
  subst this
  exact ⟨rfl, h1⟩
theorem Fresh.of_calls {f : FuncId} {args : List AV} {x : Value} (h : ∀ (w : World) (xs : List Value) (E : Env), E.w = w → RVs E args xs → Calls P f xs.toArray w fun e w' => e = .returned x ∧ Ext w w') : Fresh P f args (fun _ => .v x) [] := by
  intro E xs hS hD hx
  refine (h E.w xs E rfl hx).mono ?_
  rintro e w' ⟨rfl, hb⟩
  exact ⟨x, fun _ => ⟨none, 0⟩, rfl, hb, fun j g hj => by simp at hj, fun i j g hi => by simp at hi, fun k E' _ _ _ => ⟨fun j blk hj => by simp at hj, .v x⟩⟩
/-- a call that returns a new slice -/
theorem Fresh.of_own {f : FuncId} {args : List AV} {n size : Nat} {e : TypeId} {vs : List Value} (h : ∀ (w : World) (xs : List Value) (E : Env), E.w = w → RVs E args xs → Calls P f xs.toArray w fun en w' => ∃ A c, en = .returned (.slice A n c) ∧ w'.ownsRow w.heap.size e size (.slice A n c) n vs ∧ Ext w w') :
    Fresh P f args (fun k => .sl k n) [⟨vs.map .v, e, size⟩] := by
  intro E xs hS hD hx
  refine (h E.w xs E rfl hx).mono ?_
  rintro en w' ⟨A, c, rfl, hown, hb⟩
  have hown0 := own_base hown (Nat.zero_le _)
  obtain ⟨l, rfl, rfl, hnl, hob, hB⟩ := loc_of hown0
  refine ⟨_, fun _ => l, rfl, hb, fun j g _ hg => ?_, fun i j g hi hj _ _ => by simp at hi hj; omega, fun k E' hw _ hD' => ⟨fun j blk hj => ?_, ?_⟩⟩
  · have := own_block hown g (by rw [hob]; exact hg)
    exact this
  · cases j with
    | zero => simp at hj; subst hj; exact hB E' _ hw (RVs.vals vs)
    | succ j => simp at hj
  · obtain ⟨d1, d2⟩ := hD' 0 (by simp)
    simp only [Nat.add_zero] at d1 d2
    rw [← d2] at hnl ⊢
    exact .sl _ _ d1 hnl
theorem arg1 {E : Env} {a : AV} {xs : List Value} (h : RVs E [a] xs) : ∃ x, xs = [x] ∧ RV E a x := by
  obtain ⟨x, ys, rfl, h1, h2⟩ := h.cons_inv
  rw [h2.nil_inv]
  exact ⟨x, rfl, h1⟩
theorem arg2 {E : Env} {a b : AV} {xs : List Value} (h : RVs E [a, b] xs) : ∃ x y, xs = [x, y] ∧ RV E a x ∧ RV E b y := by
  obtain ⟨x, ys, rfl, h1, h2⟩ := h.cons_inv
  obtain ⟨y, rfl, h3⟩ := arg1 h2
  exact ⟨x, y, rfl, h1, h3⟩
theorem arg3 {E : Env} {a b c : AV} {xs : List Value} (h : RVs E [a, b, c] xs) : ∃ x y z, xs = [x, y, z] ∧ RV E a x ∧ RV E b y ∧ RV E c z := by
  obtain ⟨x, ys, rfl, h1, h2⟩ := h.cons_inv
  obtain ⟨y, z, rfl, h3, h4⟩ := arg2 h2
  exact ⟨x, y, z, rfl, h1, h3, h4⟩
/-- a byte string that nobody changes -/
theorem ex_bytes {E : Env} {n : Nat} {f : Bool} {bs : List UInt8} {x : Value} (h : RV E (.ex n f (byA bs)) x) : ∃ A c, x = .slice A n c ∧ n ≤ c ∧ Rd E.w A (bytesV bs) := by
  generalize hcs : byA bs = cs at h
  cases h with
  | ex0 n f A c hn hf =>
    have : bs = [] := by simpa [byA] using hcs
    subst this
    exact ⟨A, c, rfl, hn, .inl rfl⟩
  | ex n f cs g o c xs hn hf hg hS hl hx h =>
    subst hcs
    have hv : RVs E (byA bs) xs := ⟨hl, h⟩
    rw [byA_vals] at hv
    rw [hv.vals_inv] at hx
    exact ⟨_, c, rfl, hn, .inr ⟨g, o, rfl, hx⟩⟩
end
end Go.Proofs.YtkkeeokeihkagaaGreat


/-
  The walk's rules for names at this seat's own type numbers. No condition.
-/
namespace Go.Proofs.YtkkeeokeihkagaaGreat
open Go.RowKit

theorem loadName (dst : Option Tmp) (x : Operand) (ty : TypeId) (pos : String) (after : Array Edge) (gd : Option (Nat × Bool)) (ρ : Operand → Value) (w : World)
    (h : isRow 8 (ρ x) w = true) : (execOp ρ ⟨dst, .load 30 x, ty, pos, after, gd⟩).run Tryz.prog w = .ok (.value (rowVal 8 (ρ x) w)) w := exec_load_agg 30 8 (by kernel_rfl) (by kernel_rfl) dst x ty pos after gd ρ w h
theorem storeName (dst : Option Tmp) (x y : Operand) (ty : TypeId) (pos : String) (after : Array Edge) (gd : Option (Nat × Bool)) (ρ : Operand → Value) (w : World)
    (h : isRow 8 (ρ x) w = true) (hv : isAggN 8 (ρ y) = true) : (execOp ρ ⟨dst, .store 30 x y, ty, pos, after, gd⟩).run Tryz.prog w = .ok .skip (putRow (ρ x) (ρ y) w) := exec_store_agg 30 8 (by kernel_rfl) dst x y ty pos after gd ρ w h hv
theorem allocName (dst : Option Tmp) (ty : TypeId) (pos : String) (after : Array Edge) (gd : Option (Nat × Bool)) (ρ : Operand → Value) (w : World) :
    (execOp ρ ⟨dst, .alloc 30, ty, pos, after, gd⟩).run Tryz.prog w = .ok (.value (.pointer (some ⟨w.heap.size, 0, none⟩))) (w.alloc (.cells (nameC 0) 30)) := by kernel_rfl
theorem zeroName (dst : Option Tmp) (ty : TypeId) (pos : String) (after : Array Edge) (gd : Option (Nat × Bool)) (ρ : Operand → Value) (w : World) :
    (execOp ρ ⟨dst, .build 30 #[], ty, pos, after, gd⟩).run Tryz.prog w = .ok (.value (.agg (nameC 0))) w := by kernel_rfl
theorem eqName (w : World) (a b : UInt64) : (Op.equalIn 10000 30 (.agg (nameC a)) (.agg (nameC b))).run Tryz.prog w = .ok (a == b) w :=
  run_eq_name w 9998 Tryz.underlying30 (by kernel_rfl) Tryz.underlying5 (by kernel_rfl) a b
theorem indexName (w : World) (n : UInt64) (k : Int) (h0 : 0 ≤ k) (h8 : k < 8) : (Instr.index 30 (.agg (nameC n)) (.int .i64 k)).run Tryz.prog w = .ok (.int .u8 ((nb n (7 - k.toNat)).toNat : Int)) w :=
  run_index_name w Tryz.underlying30 (by kernel_rfl) Tryz.underlying5 n k h0 h8
theorem retName {fn : Func} {p : Tmp} (hr : fn.results = #[.cell p 30]) (tmps : Array Value) (w : World) (h : isRow 8 (tmps.getD p undef) w = true) : (results fn tmps).run Tryz.prog w = .ok (rowVal 8 (tmps.getD p undef) w) w :=
  run_results_cell hr 8 (by kernel_rfl) (by kernel_rfl) tmps w h
theorem bytesT : SlT Tryz.prog 99 5 1 1 (.int .u8 0) := ⟨Tryz.underlying99, by kernel_rfl, rfl, by decide, by decide⟩
theorem strName (w : World) (g : Nat) (h1 : (rowAt w g).isSome = true) (h2 : nameC (nameOfC ((rowAt w g).getD #[])) = (rowAt w g).getD #[]) :
    (convert 99 9 (.slice (some ⟨g, 0, none⟩) 8 8)).run Tryz.prog w = .ok (.string (strB (nameB (nameOfC ((rowAt w g).getD #[]))))) w := run_strName w _ _ _ Tryz.underlying99 Tryz.underlying5 Tryz.underlying9 g h1 h2
attribute [go_sem ↓] strName
attribute [go_sem] strB_toList strB_size strB_append less_names nameOfC_nameC
attribute [go_sem ↓] allocName zeroName storeName loadName eqName
attribute [go_sem] allOne_lit one_int one_bool one_string one_pointer one_slice isAggN_agg nameC_ones putRow_ptr setRow_new rowAt_setRow rowAt_setRow_far size_setRow spliceA_whole
attribute [go_sem] nameC_get cell_row free_row rowAt_put rowAt_far
attribute [go_sem] indexName rowAt_new rowAt_alloc rowAt_drew nameC_size isRow_ptr rowVal_ptr nameC_whole u64_xor u64_or u64_and u64_add u64_mul u64_add_mod
end Go.Proofs.YtkkeeokeihkagaaGreat


/-
  hash.Number, hash.Of, hash.Less and the reference's: what each call returns. Conditions: none.
-/
namespace Go.Proofs.YtkkeeokeihkagaaGreat
open Go.RowKit
attribute [local go_sem ↓] Go.wp_at_zero Go.wp_at_succ

/-- the number of the k highest bytes -/
def top (n : UInt64) (k : Nat) : Nat := n.toNat / 256 ^ (8 - k)
theorem top_zero (n : UInt64) : top n 0 = 0 := by
  have := n.toNat_lt
  unfold top
  simp only [Nat.sub_zero, Nat.reducePow]
  omega
theorem top_eight (n : UInt64) : top n 8 = n.toNat := by simp [top]
theorem top_step (n : UInt64) (k : Nat) (hk : k < 8) : bits .or .u64 (IntKind.u64.wrap ((top n k : Int) * 256)) (IntKind.u64.wrap ((nb n (7 - k)).toNat : Int)) = (top n (k + 1) : Int) := by
  have hn := n.toNat_lt
  have hd : top n k = top n (k + 1) / 256 := by
    unfold top
    rw [Nat.div_div_eq_div_mul, ← Nat.pow_succ, show 8 - k = (8 - (k + 1)).succ from by omega]
  have hb : top n (k + 1) < 18446744073709551616 := Nat.lt_of_le_of_lt (Nat.div_le_self _ _) hn
  have he : (nb n (7 - k)).toNat = top n (k + 1) % 256 := by rw [nb_lt]; unfold top; rw [show 7 - k = 8 - (k + 1) from by omega]
  rw [hd, he]
  generalize top n (k + 1) = q at *
  have := or_shl8 (q / 256) (q % 256) (by omega) (by omega)
  rw [wrap_u64, wrap_u64, show (((q / 256 : Nat) : Int) * 256) % 18446744073709551616 = ((q / 256 * 256 : Nat) : Int) from by omega, show (((q % 256 : Nat) : Int)) % 18446744073709551616 = ((q % 256 : Nat) : Int) from by omega, this]
  omega

set_option maxHeartbeats 400000 in
theorem number_calls (n : UInt64) (w : World) :
    Calls Tryz.prog 102 #[.agg (nameC n)] w fun e w' => e = .returned (.int .u64 (n.toNat : Int)) ∧ Ext w w' := by
  go_enter Tryz.func102, Tryz.ntmps102
  go_wp2
  go_loop [3, 7] (fun v i => ∃ k : Nat, k ≤ 8 ∧ i = .int .i64 k ∧ v = .int .u64 (top n k : Int)) (fun _ i => 8 - (intOf i).toNat)
  case atStart => exact ⟨0, by omega, rfl, by rw [top_zero]; rfl⟩
  case round =>
    obtain ⟨k, hk, rfl, rfl⟩ := hrel
    by_cases hlt : k < 8
    · go_wp2
      go_round
      case rel => exact ⟨k + 1, by omega, by go_num, by rw [top_step n k hlt]⟩
      case measure => simp [intOf]; omega
    · go_wp2
      go_ret
      obtain rfl : k = 8 := by omega
      exact ⟨by rw [← top_eight n]; rfl, (Ext.refl w).alloc _⟩

set_option maxHeartbeats 400000 in
theorem refNumber_calls (n : UInt64) (w : World) :
    Calls Tryz.prog 95 #[.agg (nameC n)] w fun e w' => e = .returned (.int .u64 (n.toNat : Int)) ∧ Ext w w' := by
  go_enter Tryz.func95, Tryz.ntmps95
  go_wp2
  go_loop [3, 4] (fun v i => ∃ k : Nat, k ≤ 8 ∧ i = .int .i64 k ∧ v = .int .u64 (top n k : Int)) (fun _ i => 8 - (intOf i).toNat)
  case atStart => exact ⟨0, by omega, rfl, by rw [top_zero]; rfl⟩
  case round =>
    obtain ⟨k, hk, rfl, rfl⟩ := hrel
    by_cases hlt : k < 8
    · have hc : (nameC n)[k]? = some (.int .u8 ((nb n (7 - k)).toNat : Int)) := nameC_at n k hlt
      go_wp2
      go_round
      case rel => exact ⟨k + 1, by omega, by go_num, by rw [top_step n k hlt]⟩
      case measure => simp [intOf]; omega
    · go_wp2
      go_ret
      obtain rfl : k = 8 := by omega
      exact ⟨by rw [← top_eight n]; rfl, (Ext.refl w).alloc _⟩

theorem of_cells (v : UInt64) : #[Value.int .u8 ((v.toNat : Int) / 72057594037927936), .int .u8 ((v.toNat : Int) / 281474976710656 % 256), .int .u8 ((v.toNat : Int) / 1099511627776 % 256), .int .u8 ((v.toNat : Int) / 4294967296 % 256),
    .int .u8 ((v.toNat : Int) / 16777216 % 256), .int .u8 ((v.toNat : Int) / 65536 % 256), .int .u8 ((v.toNat : Int) / 256 % 256), .int .u8 ((v.toNat : Int) % 256)] = nameC v := by
  have := v.toNat_lt
  unfold nameC
  simp only [nb_lt, Nat.reducePow, Nat.pow_zero, Nat.pow_one, Nat.div_one]
  congr 1
  simp only [List.cons.injEq, Value.int.injEq, true_and, and_true]
  omega
set_option maxHeartbeats 400000 in
theorem of_calls (v : UInt64) (w : World) :
    Calls Tryz.prog 121 #[.int .u64 (v.toNat : Int)] w fun e w' => e = .returned (.agg (nameC v)) ∧ Ext w w' := by
  have hv : (v.toNat : Int) < 18446744073709551616 := by have := v.toNat_lt; omega
  have hc := of_cells v
  have HC := Lib.hid hc
  clear hc
  go_enter Tryz.func121, Tryz.ntmps121
  go_wp2
  rw [HC.out]
  refine bodyPost_ret (retName rfl _ _ (by simp [go_sem])) rfl ⟨by simp [go_sem], (Ext.refl w).alloc _⟩

set_option maxHeartbeats 400000 in
theorem refOf_calls (v : UInt64) (w : World) :
    Calls Tryz.prog 124 #[.int .u64 (v.toNat : Int)] w fun e w' => e = .returned (.agg (nameC v)) ∧ Ext w w' := by
  have hv : (v.toNat : Int) < 18446744073709551616 := by have := v.toNat_lt; omega
  have hc := of_cells v
  have HC := Lib.hid hc
  clear hc
  go_enter Tryz.func124, Tryz.ntmps124
  go_wp2
  rw [HC.out]
  refine bodyPost_ret (retName rfl _ _ (by simp [go_sem])) rfl ⟨by simp [go_sem], (Ext.refl w).alloc _⟩

theorem lt_toNat (a b : UInt64) : decide (a.toNat < b.toNat) = decide (a < b) := by simp [UInt64.lt_iff_toNat_lt]
set_option maxHeartbeats 400000 in
theorem refLess_calls (a b : UInt64) (w : World) :
    Calls Tryz.prog 53 #[.agg (nameC a), .agg (nameC b)] w fun e w' => e = .returned (.bool (decide (a < b))) ∧ Ext w w' := by
  go_enter Tryz.func53, Tryz.ntmps53
  go_wp2
  go_region_held3 (fun w' => rowAt w' w.heap.size = some (nameC a) ∧ rowAt w' (w.heap.size + 1) = some (nameC b) ∧ Ext w w') ((refine ⟨?_, ?_, ?_⟩ <;> (repeat (first | exact Ext.refl _ | assumption | refine Ext.drew ?_ | refine Ext.drewN ?_ _ | refine Ext.alloc ?_ _ | refine Ext.trans ?_ (by assumption) | refine rowAt_keep ?_ (by assumption) | refine cell_keep ?_ (by assumption) | (simp [go_sem]; done)))))
    (first | (go_at_call 95; refine (refNumber_calls _ _).mono ?_; rintro e w' ⟨rfl, hb⟩))
  go_wp2
  rename_i hh
  go_ret
  exact ⟨by simp only [← lt_toNat]; rfl, hh.2.2⟩
end Go.Proofs.YtkkeeokeihkagaaGreat


/-
  hash.Sum and the reference's: what each call returns. Conditions: none.
-/
namespace Go.Proofs.YtkkeeokeihkagaaGreat
open Go.RowKit
attribute [local go_sem ↓] Go.wp_at_zero Go.wp_at_succ

def shlU (x : UInt64) (k : Nat) : UInt64 := UInt64.ofNat (x.toNat * 2 ^ k)
def shrU (x : UInt64) (k : Nat) : UInt64 := UInt64.ofNat (x.toNat / 2 ^ k)
def rotl (x : UInt64) (k : Nat) : UInt64 := orU (shlU x k) (shrU x (64 - k))
def factor : UInt64 := 11400714819323198485
/-- one step of mixing -/
def mixU (s : UInt64 × UInt64) : UInt64 × UInt64 :=
  (mulU (rotl (addU s.1 s.2) 32) factor, xorU (rotl s.2 13) (addU s.1 s.2))

theorem wrap_ofNat (n : Nat) : IntKind.u64.wrap (n : Int) = ((UInt64.ofNat n).toNat : Int) := by
  rw [wrap_u64, UInt64.toNat_ofNat']; omega
theorem shl13 (x : UInt64) : IntKind.u64.wrap ((x.toNat : Int) * 8192) = ((shlU x 13).toNat : Int) := by
  unfold shlU; rw [← wrap_ofNat]; simp only [Nat.reducePow, Int.natCast_mul]; rfl
theorem shl32 (x : UInt64) : IntKind.u64.wrap ((x.toNat : Int) * 4294967296) = ((shlU x 32).toNat : Int) := by
  unfold shlU; rw [← wrap_ofNat]; simp only [Nat.reducePow, Int.natCast_mul]; rfl
theorem shr51 (x : UInt64) : (x.toNat : Int) / 2251799813685248 = ((shrU x 51).toNat : Int) := by
  have := x.toNat_lt
  unfold shrU; rw [UInt64.toNat_ofNat']; simp only [Nat.reducePow]; omega
theorem shr32 (x : UInt64) : (x.toNat : Int) / 4294967296 = ((shrU x 32).toNat : Int) := by
  have := x.toNat_lt
  unfold shrU; rw [UInt64.toNat_ofNat']; simp only [Nat.reducePow]; omega
theorem fac (x : UInt64) : IntKind.u64.wrap ((x.toNat : Int) * 11400714819323198485) = ((mulU x factor).toNat : Int) := by
  have := u64_mul x factor
  exact this
theorem shl13_mod (x : UInt64) : (x.toNat : Int) * 8192 % 18446744073709551616 = ((shlU x 13).toNat : Int) := by rw [← wrap_u64]; exact shl13 x
theorem shl32_mod (x : UInt64) : (x.toNat : Int) * 4294967296 % 18446744073709551616 = ((shlU x 32).toNat : Int) := by rw [← wrap_u64]; exact shl32 x
theorem fac_mod (x : UInt64) : (x.toNat : Int) * 11400714819323198485 % 18446744073709551616 = ((mulU x factor).toNat : Int) := by rw [← wrap_u64]; exact fac x
attribute [local go_sem] shl13 shl32 shr51 shr32 fac shl13_mod shl32_mod fac_mod
theorem and63a : bits .and .u64 13 63 = 13 := by decide +kernel
theorem and63b : bits .and .u64 32 63 = 32 := by decide +kernel
attribute [local go_sem] and63a and63b

set_option maxHeartbeats 400000 in
theorem rot13_calls (x : UInt64) (w : World) :
    Calls Tryz.prog 127 #[.int .u64 (x.toNat : Int), .int .i64 13] w fun e w' => e = .returned (.int .u64 ((rotl x 13).toNat : Int)) ∧ w = w' := by
  go_enter Tryz.func127, Tryz.ntmps127
  go_wp2
  go_ret
  exact ⟨rfl, rfl⟩
set_option maxHeartbeats 400000 in
theorem rot32_calls (x : UInt64) (w : World) :
    Calls Tryz.prog 127 #[.int .u64 (x.toNat : Int), .int .i64 32] w fun e w' => e = .returned (.int .u64 ((rotl x 32).toNat : Int)) ∧ w = w' := by
  go_enter Tryz.func127, Tryz.ntmps127
  go_wp2
  go_ret
  exact ⟨rfl, rfl⟩
set_option maxHeartbeats 400000 in
theorem refRot13_calls (x : UInt64) (w : World) :
    Calls Tryz.prog 128 #[.int .u64 (x.toNat : Int), .int .u64 13] w fun e w' => e = .returned (.int .u64 ((rotl x 13).toNat : Int)) ∧ w = w' := by
  go_enter Tryz.func128, Tryz.ntmps128
  go_wp2
  go_ret
  exact ⟨rfl, rfl⟩
set_option maxHeartbeats 400000 in
theorem refRot32_calls (x : UInt64) (w : World) :
    Calls Tryz.prog 128 #[.int .u64 (x.toNat : Int), .int .u64 32] w fun e w' => e = .returned (.int .u64 ((rotl x 32).toNat : Int)) ∧ w = w' := by
  go_enter Tryz.func128, Tryz.ntmps128
  go_wp2
  go_ret
  exact ⟨rfl, rfl⟩
theorem rot_calls (x : UInt64) (k : Int) (hk : k = 13 ∨ k = 32) (w : World) :
    Calls Tryz.prog 127 #[.int .u64 (x.toNat : Int), .int .i64 k] w fun e w' => e = .returned (.int .u64 ((rotl x k.toNat).toNat : Int)) ∧ w = w' := by
  rcases hk with rfl | rfl
  · exact rot13_calls x w
  · exact rot32_calls x w
theorem refRot_calls (x : UInt64) (k : Int) (hk : k = 13 ∨ k = 32) (w : World) :
    Calls Tryz.prog 128 #[.int .u64 (x.toNat : Int), .int .u64 k] w fun e w' => e = .returned (.int .u64 ((rotl x k.toNat).toNat : Int)) ∧ w = w' := by
  rcases hk with rfl | rfl
  · exact refRot13_calls x w
  · exact refRot32_calls x w
set_option maxHeartbeats 400000 in
theorem refMix_calls (x y : UInt64) (w : World) :
    Calls Tryz.prog 123 #[.int .u64 (x.toNat : Int), .int .u64 (y.toNat : Int)] w fun e w' => e = .returned (.tuple #[.int .u64 ((mixU (x, y)).1.toNat : Int), .int .u64 ((mixU (x, y)).2.toNat : Int)]) ∧ w = w' := by
  go_enter Tryz.func123, Tryz.ntmps123
  go_wp2_with (first | (go_at_call 128; refine (refRot_calls _ _ (by decide) _).mono ?_; rintro e w' ⟨rfl, rfl⟩))
  go_ret2
  exact ⟨rfl, rfl⟩

/-- n steps -/
def mixN : Nat → UInt64 × UInt64 → UInt64 × UInt64
  | 0, s => s
  | n + 1, s => mixU (mixN n s)
def stC (s : UInt64 × UInt64) : Array Value := #[.int .u64 (s.1.toNat : Int), .int .u64 (s.2.toNat : Int)]
/-- only block g has changed -/
def Only (g : Nat) (w w' : World) : Prop := w.grownBy w' (some g)
theorem Only.refl (g : Nat) (w : World) : Only g w w := World.grownBy.refl _ _
theorem Only.drew {g : Nat} {w v : World} (h : Only g w v) : Only g w v.drew := ⟨h.os, h.tape, h.output, h.size, h.block⟩
theorem Only.set {g : Nat} {w v : World} (h : Only g w v) (o : Nat) (x : Value) : Only g w (v.setCell ⟨g, o, none⟩ x) :=
  ⟨h.os, h.tape, h.output, by simpa [World.setCell] using h.size, fun i hi hne => (Below.heap_setCell v ⟨g, o, none⟩ x i (fun e => hne (by rw [e]))).trans (h.block i hi hne)⟩
theorem Only.ext {g : Nat} {w v u : World} (h : Only g v u) (k : Ext w v) (hg : w.heap.size ≤ g) : Ext w u := Ext.grown k h (fun _ e => by injection e with e; omega)
theorem Only.row {g j : Nat} {w v : World} {cs : Array Value} (h : Only g w v) (hj : rowAt w j = some cs) (hne : j ≠ g) : rowAt v j = some cs := by
  have hl := rowAt_lt hj
  unfold rowAt at hj ⊢
  rw [h.block j hl (fun e => hne (by injection e))]
  exact hj
theorem Only.cell {g : Nat} {w v : World} {p : Addr} {x : Value} (h : Only g w v) (hp : w.cell? p = some x) (hne : p.block ≠ g) : v.cell? p = some x :=
  (World.cell?_of_block (h.block p.block (block_lt_of_cell hp) (fun e => hne (by injection e)))).trans hp
set_option maxHeartbeats 1000000 in
theorem mix_calls (g : Nat) (s : UInt64 × UInt64) (n : Nat) (w : World) (hn : n ≤ 4) (hr : rowAt w g = some (stC s)) :
    Calls Tryz.prog 120 #[.pointer (some ⟨g, 0, none⟩), .int .i64 n] w fun e w' => e = .returned (.tuple #[]) ∧ rowAt w' g = some (stC (mixN n s)) ∧ Only g w w' := by
  go_enter Tryz.func120, Tryz.ntmps120
  go_wp2
  go_loopw [5] (fun i wr => ∃ k : Nat, k ≤ n ∧ i = .int .i64 k ∧ rowAt wr g = some (stC (mixN k s)) ∧ Only g w wr) (fun i _ => n - (intOf i).toNat)
  case atStart => exact ⟨0, by omega, rfl, hr, World.grownBy.refl _ _⟩
  case round =>
    obtain ⟨k, hk, rfl, hrk, hok⟩ := hrel
    clear hr
    unfold stC at hrk
    by_cases hlt : k < n
    · go_wp2
      go_region
      go_wp2
      have r1 := hrk
      have hmix : mixN (k + 1) s = mixU ((mixN k s).1, (mixN k s).2) := rfl
      generalize (mixN k s).1 = x at *
      generalize (mixN k s).2 = y at *
      have r2 : rowAt (wr.setCell ⟨g, 0, none⟩ (.int .u64 ((addU x y).toNat : Int))).drew g = some #[.int .u64 ((addU x y).toNat : Int), .int .u64 (y.toNat : Int)] := by simp [go_sem, hrk]
      have o2 : Only g w (wr.setCell ⟨g, 0, none⟩ (.int .u64 ((addU x y).toNat : Int))).drew := (hok.set _ _).drew
      generalize (wr.setCell ⟨g, 0, none⟩ (.int .u64 ((addU x y).toNat : Int))).drew = W1 at *
      clear r1 hrk hok
      go_region_with (go_at_call 127; refine (rot_calls _ _ (by decide) _).mono ?_; rintro e w' ⟨rfl, rfl⟩)
      all_goals
        have r3 : rowAt (W1.setCell ⟨g, 1, none⟩ (.int .u64 ((xorU (rotl y 13) (addU x y)).toNat : Int))).drew g = some #[.int .u64 ((addU x y).toNat : Int), .int .u64 ((xorU (rotl y 13) (addU x y)).toNat : Int)] := by simp [go_sem, r2]
        have o3 : Only g w (W1.setCell ⟨g, 1, none⟩ (.int .u64 ((xorU (rotl y 13) (addU x y)).toNat : Int))).drew := (o2.set _ _).drew
        generalize (W1.setCell ⟨g, 1, none⟩ (.int .u64 ((xorU (rotl y 13) (addU x y)).toNat : Int))).drew = W2 at *
        clear r2 o2
        go_wp2_with (go_at_call 127; refine (rot_calls _ _ (by decide) _).mono ?_; rintro e w' ⟨rfl, rfl⟩)
        go_roundw
        case rel =>
          refine ⟨k + 1, by omega, by go_num, ?_, o3.set _ _⟩
          rw [hmix]
          simp [go_sem, r3, stC, mixU]
        case measure => simp [intOf]; omega
    · obtain rfl : k = n := by omega
      go_wp2
      go_end0
      exact ⟨rfl, hrk, hok⟩
end Go.Proofs.YtkkeeokeihkagaaGreat


/-
  hash.word and the reference's: the number of the first 8 bytes. Conditions: none.
-/
namespace Go.Proofs.YtkkeeokeihkagaaGreat
open Go.RowKit
attribute [local go_sem ↓] Go.wp_at_zero Go.wp_at_succ

/-- the number of the first 8 bytes, with zeros behind the last one -/
def wordOf (bs : List UInt8) : UInt64 := nameOf fun i => bs.getD i 0
/-- a byte at its place -/
def sh (c : UInt8) (k : Nat) : UInt64 := UInt64.ofNat (c.toNat * 256 ^ k)
theorem sh_toNat (c : UInt8) (k : Nat) (h : k ≤ 7) : (sh c k).toNat = c.toNat * 256 ^ k := by
  have hc := c.toNat_lt
  unfold sh
  rw [UInt64.toNat_ofNat']
  match k, h with
  | 0, _ | 1, _ | 2, _ | 3, _ | 4, _ | 5, _ | 6, _ | 7, _ => simp only [Nat.reducePow]; omega
theorem shB (c : UInt8) (k : Nat) (m : Int) (hm : m = ((256 ^ k : Nat) : Int)) : IntKind.u64.wrap ((c.toNat : Int) * m) = ((sh c k).toNat : Int) := by
  subst hm
  unfold sh
  rw [← wrap_ofNat, Int.natCast_mul]
theorem shB7 (c : UInt8) : IntKind.u64.wrap ((c.toNat : Int) * 72057594037927936) = ((sh c 7).toNat : Int) := shB c 7 _ rfl
theorem shB6 (c : UInt8) : IntKind.u64.wrap ((c.toNat : Int) * 281474976710656) = ((sh c 6).toNat : Int) := shB c 6 _ rfl
theorem shB5 (c : UInt8) : IntKind.u64.wrap ((c.toNat : Int) * 1099511627776) = ((sh c 5).toNat : Int) := shB c 5 _ rfl
theorem shB4 (c : UInt8) : IntKind.u64.wrap ((c.toNat : Int) * 4294967296) = ((sh c 4).toNat : Int) := shB c 4 _ rfl
theorem shB3 (c : UInt8) : IntKind.u64.wrap ((c.toNat : Int) * 16777216) = ((sh c 3).toNat : Int) := shB c 3 _ rfl
theorem shB2 (c : UInt8) : IntKind.u64.wrap ((c.toNat : Int) * 65536) = ((sh c 2).toNat : Int) := shB c 2 _ rfl
theorem shB1 (c : UInt8) : IntKind.u64.wrap ((c.toNat : Int) * 256) = ((sh c 1).toNat : Int) := shB c 1 _ rfl
theorem u8_u64 (c : UInt8) : IntKind.u64.wrap (c.toNat : Int) = (c.toNat : Int) := by
  have := c.toNat_lt
  rw [wrap_u64]; omega
theorem or_u8 (x : UInt64) (c : UInt8) : bits .or .u64 (x.toNat : Int) (c.toNat : Int) = ((orU x (sh c 0)).toNat : Int) := by
  rw [← u64_or, sh_toNat c 0 (by omega)]; simp
attribute [local go_sem] shB7 shB6 shB5 shB4 shB3 shB2 shB1 u8_u64 or_u8
/-- bytes behind one another -/
theorem or_next (q c k : Nat) (hc : c < 256) : q * 256 ^ (k + 1) ||| c * 256 ^ k = (q * 256 + c) * 256 ^ k := by
  have e : (256 : Nat) ^ k = 2 ^ (8 * k) := by rw [show (256 : Nat) = 2 ^ 8 from rfl, ← Nat.pow_mul]
  have h1 : q * 256 ||| c = q * 256 + c := by
    have := Nat.shiftLeft_add_eq_or_of_lt (b := c) (i := 8) (by omega) q
    rw [Nat.shiftLeft_eq] at this
    exact this.symm
  rw [Nat.pow_succ, Nat.mul_comm (256 ^ k) 256, ← Nat.mul_assoc, e, ← Nat.shiftLeft_eq, ← Nat.shiftLeft_eq, ← Nat.shiftLeft_eq, ← Nat.shiftLeft_or_distrib, h1]
theorem orU_toNat (x y : UInt64) : (orU x y).toNat = x.toNat ||| y.toNat := by unfold orU; rw [UInt64.toNat_or]
/-- the eight bytes put together -/
def or8 (b : Nat → UInt8) : UInt64 := orU (orU (orU (orU (orU (orU (orU (sh (b 0) 7) (sh (b 1) 6)) (sh (b 2) 5)) (sh (b 3) 4)) (sh (b 4) 3)) (sh (b 5) 2)) (sh (b 6) 1)) (sh (b 7) 0)
theorem or8_eq (b : Nat → UInt8) : or8 b = nameOf b := by
  have h1 := (b 1).toNat_lt; have h2 := (b 2).toNat_lt; have h3 := (b 3).toNat_lt
  have h4 := (b 4).toNat_lt; have h5 := (b 5).toNat_lt; have h6 := (b 6).toNat_lt; have h7 := (b 7).toNat_lt
  apply UInt64.toNat_inj.1
  unfold or8
  simp only [orU_toNat]
  rw [sh_toNat _ 7 (by omega), sh_toNat _ 6 (by omega), sh_toNat _ 5 (by omega), sh_toNat _ 4 (by omega), sh_toNat _ 3 (by omega), sh_toNat _ 2 (by omega), sh_toNat _ 1 (by omega), sh_toNat _ 0 (by omega),
    or_next _ _ 6 h1, or_next _ _ 5 h2, or_next _ _ 4 h3, or_next _ _ 3 h4, or_next _ _ 2 h5, or_next _ _ 1 h6, or_next _ _ 0 h7, nameOf_toNat]
  omega

theorem bytesV_at (bs : List UInt8) (j : Nat) (h : j < bs.length) : (bytesV bs)[j]? = some (.int .u8 ((bs.getD j 0).toNat : Int)) := by
  simp [bytesV, List.getElem?_map, List.getElem?_eq_getElem h, List.getD_eq_getElem?_getD]
theorem bytesV_length (bs : List UInt8) : (bytesV bs).length = bs.length := by simp [bytesV]

theorem bytesV_ne (bs : List UInt8) (h : 0 < bs.length) : bytesV bs ≠ [] := by
  intro e
  have := congrArg List.length e
  rw [bytesV_length] at this
  simp only [List.length_nil] at this
  omega
set_option maxRecDepth 100000 in
set_option maxHeartbeats 1000000 in
theorem word8_calls (g o c n : Nat) (b : Nat → UInt8) (w : World) (hn : 8 ≤ n) (hc : ∀ j, j < 8 → w.cell? ⟨g, o + j, none⟩ = some (.int .u8 ((b j).toNat : Int))) :
    Calls Tryz.prog 119 #[.slice (some ⟨g, o, none⟩) n c] w fun e w' => e = .returned (.int .u64 ((or8 b).toNat : Int)) ∧ Ext w w' := by
  have q0 := hc 0 (by omega); have q1 := hc 1 (by omega); have q2 := hc 2 (by omega); have q3 := hc 3 (by omega)
  have q4 := hc 4 (by omega); have q5 := hc 5 (by omega); have q6 := hc 6 (by omega); have q7 := hc 7 (by omega)
  clear hc
  simp only [Nat.add_zero] at q0
  have hi : (8 : Int) ≤ (n : Int) := by omega
  have i0 : (0 : Int) < (n : Int) := by omega
  have i1 : (1 : Int) < (n : Int) := by omega
  have i2 : (2 : Int) < (n : Int) := by omega
  have i3 : (3 : Int) < (n : Int) := by omega
  have i4 : (4 : Int) < (n : Int) := by omega
  have i5 : (5 : Int) < (n : Int) := by omega
  have i6 : (6 : Int) < (n : Int) := by omega
  have i7 : (7 : Int) < (n : Int) := by omega
  unfold or8
  generalize b 0 = b0 at *
  generalize b 1 = b1 at *
  generalize b 2 = b2 at *
  generalize b 3 = b3 at *
  generalize b 4 = b4 at *
  generalize b 5 = b5 at *
  generalize b 6 = b6 at *
  generalize b 7 = b7 at *
  go_enter Tryz.func119, Tryz.ntmps119
  go_wp2
  go_quiet (fail)
  go_wp2
  go_ret
  exact ⟨rfl, (Ext.refl w).drewN _⟩
theorem splice_name (bs : List UInt8) (h : bs.length ≤ 8) : spliceA (nameC 0) 0 ((bytesV bs).take 8).toArray = nameC (wordOf bs) := by
  unfold wordOf
  rw [nameC_nameOf, List.take_of_length_le (by rw [bytesV_length]; exact h)]
  match bs, h with
  | [], _ | [_], _ | [_, _], _ | [_, _, _], _ | [_, _, _, _], _ | [_, _, _, _, _], _ | [_, _, _, _, _, _], _ | [_, _, _, _, _, _, _], _ | [_, _, _, _, _, _, _, _], _ => rfl
set_option maxHeartbeats 1000000 in
theorem wordS_calls (A : Option Addr) (c : Nat) (bs : List UInt8) (w : World) (hn : bs.length < 8) (hr : Rd w A (bytesV bs)) :
    Calls Tryz.prog 119 #[.slice A bs.length c] w fun e w' => e = .returned (.int .u64 ((wordOf bs).toNat : Int)) ∧ Ext w w' := by
  have hlen : ¬ (8 : Int) ≤ (bs.length : Int) := by omega
  have hcp := fun ty => run_cp (P := Tryz.prog) (sT := 99) (ty := ty) (dc := 8) (c := c) Tryz.underlying99 (by kernel_rfl) (rowAt_new w (nameC 0) 30 w.heap.size rfl) (hr.keep ((Ext.refl w).alloc _)) (bytesV_length bs) (ones_bytes bs) (by simp [nameC_size]) _ (splice_name bs (by omega))
  generalize bs.length = L at *
  go_enter Tryz.func119, Tryz.ntmps119
  go_wp2_with (go_at_call 102; refine (number_calls _ _).mono ?_; rintro e w' ⟨rfl, hb⟩)
  go_ret
  exact ⟨rfl, ((Ext.refl w).alloc _).trans hb⟩
theorem word_calls (A : Option Addr) (c : Nat) (bs : List UInt8) (w : World) (hr : Rd w A (bytesV bs)) :
    Calls Tryz.prog 119 #[.slice A bs.length c] w fun e w' => e = .returned (.int .u64 ((wordOf bs).toNat : Int)) ∧ Ext w w' := by
  by_cases hn : bs.length < 8
  · exact wordS_calls A c bs w hn hr
  · obtain ⟨g, o, rfl, hc⟩ := hr.at (bytesV_ne bs (by omega))
    have := word8_calls g o c bs.length (fun i => bs.getD i 0) w (by omega) (fun j hj => hc j _ (bytesV_at bs j (by omega)))
    rw [or8_eq] at this
    exact this

set_option maxRecDepth 100000 in
set_option maxHeartbeats 1000000 in
theorem refWord8_calls (g o c n : Nat) (b : Nat → UInt8) (w : World) (hn : 8 ≤ n) (hc : ∀ j, j < 8 → w.cell? ⟨g, o + j, none⟩ = some (.int .u8 ((b j).toNat : Int))) :
    Calls Tryz.prog 122 #[.slice (some ⟨g, o, none⟩) n c] w fun e w' => e = .returned (.int .u64 ((or8 b).toNat : Int)) ∧ Ext w w' := by
  have q0 := hc 0 (by omega); have q1 := hc 1 (by omega); have q2 := hc 2 (by omega); have q3 := hc 3 (by omega)
  have q4 := hc 4 (by omega); have q5 := hc 5 (by omega); have q6 := hc 6 (by omega); have q7 := hc 7 (by omega)
  clear hc
  simp only [Nat.add_zero] at q0
  have hi : (8 : Int) ≤ (n : Int) := by omega
  have i0 : (0 : Int) < (n : Int) := by omega
  have i1 : (1 : Int) < (n : Int) := by omega
  have i2 : (2 : Int) < (n : Int) := by omega
  have i3 : (3 : Int) < (n : Int) := by omega
  have i4 : (4 : Int) < (n : Int) := by omega
  have i5 : (5 : Int) < (n : Int) := by omega
  have i6 : (6 : Int) < (n : Int) := by omega
  have i7 : (7 : Int) < (n : Int) := by omega
  unfold or8
  generalize b 0 = b0 at *
  generalize b 1 = b1 at *
  generalize b 2 = b2 at *
  generalize b 3 = b3 at *
  generalize b 4 = b4 at *
  generalize b 5 = b5 at *
  generalize b 6 = b6 at *
  generalize b 7 = b7 at *
  go_enter Tryz.func122, Tryz.ntmps122
  go_wp2
  go_quiet (fail)
  go_wp2
  go_ret
  exact ⟨rfl, (Ext.refl w).drewN _⟩
/-- the first k of at most 8 bytes -/
def wordK (bs : List UInt8) (k : Nat) : UInt64 := wordOf (bs.take k)
theorem take_getD (bs : List UInt8) (k i : Nat) : (bs.take k).getD i 0 = if i < k then bs.getD i 0 else 0 := by
  rw [List.getD_eq_getElem?_getD, List.getElem?_take]
  split
  · rw [List.getD_eq_getElem?_getD]
  · rfl
theorem wordK_toNat (bs : List UInt8) (k : Nat) (h : k ≤ 8) : (wordK bs k).toNat = topB (fun i => bs.getD i 0) k * 256 ^ (8 - k) := by
  unfold wordK wordOf
  rw [nameOf_topB]
  have h1 := topB_zeros (fun i => (bs.take k).getD i 0) k (8 - k) (fun i hi => by show (bs.take k).getD i 0 = 0; rw [take_getD, if_neg (by omega)])
  rw [show k + (8 - k) = 8 from by omega] at h1
  rw [h1, topB_congr _ (fun i => bs.getD i 0) k (fun i hi => by show (bs.take k).getD i 0 = bs.getD i 0; rw [take_getD, if_pos hi])]
theorem wordK_zero (bs : List UInt8) : (wordK bs 0).toNat = 0 := by rw [wordK_toNat bs 0 (by omega)]; simp [topB]
theorem wordK_next (bs : List UInt8) (k : Nat) (h : k < 8) :
    bits .or .u64 ((wordK bs k).toNat : Int) (IntKind.u64.wrap (((bs[k]?.getD 0).toNat : Int) * 2 ^ (56 - 8 * k))) = ((wordK bs (k + 1)).toNat : Int) := by
  have hc := (bs.getD k 0).toNat_lt
  have e0 : (256 : Nat) ^ (7 - k) = 2 ^ (56 - 8 * k) := by
    rw [show (256 : Nat) = 2 ^ 8 from rfl, ← Nat.pow_mul]
    congr 1
    omega
  have e1 : (2 : Int) ^ (56 - 8 * k) = ((256 ^ (7 - k) : Nat) : Int) := by rw [e0, Int.natCast_pow]; rfl
  clear e0
  rw [← List.getD_eq_getElem?_getD, shB _ (7 - k) _ e1, u64_or]
  congr 1
  rw [orU_toNat, wordK_toNat bs k (by omega), wordK_toNat bs (k + 1) (by omega), sh_toNat _ _ (by omega), show 8 - k = (7 - k) + 1 from by omega, or_next _ _ _ hc, show 8 - (k + 1) = 7 - k from by omega, topB]
set_option maxHeartbeats 1000000 in
theorem refWordS_calls (A : Option Addr) (c : Nat) (bs : List UInt8) (w : World) (hn : bs.length < 8) (hr : Rd w A (bytesV bs)) :
    Calls Tryz.prog 122 #[.slice A bs.length c] w fun e w' => e = .returned (.int .u64 ((wordOf bs).toNat : Int)) ∧ Ext w w' := by
  have hlen : ¬ (8 : Int) ≤ (bs.length : Int) := by omega
  generalize hL : bs.length = L at *
  have HL := Lib.hid hL
  clear hL
  go_enter Tryz.func122, Tryz.ntmps122
  go_wp2
  go_loop [3, 4] (fun v i => ∃ k : Nat, k ≤ L ∧ i = .int .i64 k ∧ v = .int .u64 ((wordK bs k).toNat : Int)) (fun _ i => L - (intOf i).toNat)
  case atStart => exact ⟨0, by omega, rfl, by rw [wordK_zero]; rfl⟩
  case round =>
    obtain ⟨k, hk, rfl, rfl⟩ := hrel
    by_cases hlt : k < L
    · obtain ⟨g, o, rfl, hc⟩ := hr.at (bytesV_ne bs (by rw [HL.out]; omega))
      have q1 := hc k _ (bytesV_at bs k (by rw [HL.out]; exact hlt))
      have Hr := Lib.hid hr
      have Hc := Lib.hid hc
      clear hr hc
      go_wp2
      go_round
      case rel => exact ⟨k + 1, by omega, by go_num, by rw [wordK_next bs k (by omega)]⟩
      case measure => simp [intOf]; omega
    · obtain rfl : k = L := by omega
      go_wp2
      go_ret
      refine ⟨?_, Ext.refl w⟩
      rw [show wordK bs k = wordOf bs from by unfold wordK; rw [← HL.out, List.take_length]]
      rfl
theorem refWord_calls (A : Option Addr) (c : Nat) (bs : List UInt8) (w : World) (hr : Rd w A (bytesV bs)) :
    Calls Tryz.prog 122 #[.slice A bs.length c] w fun e w' => e = .returned (.int .u64 ((wordOf bs).toNat : Int)) ∧ Ext w w' := by
  by_cases hn : bs.length < 8
  · exact refWordS_calls A c bs w hn hr
  · obtain ⟨g, o, rfl, hc⟩ := hr.at (bytesV_ne bs (by omega))
    have := refWord8_calls g o c bs.length (fun i => bs.getD i 0) w (by omega) (fun j hj => hc j _ (bytesV_at bs j (by omega)))
    rw [or8_eq] at this
    exact this
end Go.Proofs.YtkkeeokeihkagaaGreat


/-
  hash.Sum and the reference's: what each call returns, for byte strings of at most 2^48 bytes. Conditions: that length.
-/
namespace Go.Proofs.YtkkeeokeihkagaaGreat
open Go.RowKit
attribute [local go_sem ↓] Go.wp_at_zero Go.wp_at_succ

def startS : UInt64 × UInt64 := (2611923443488327891, 1376283091369227076)
/-- the state behind k words -/
def sumTo (bs : List UInt8) : Nat → UInt64 × UInt64
  | 0 => startS
  | k + 1 => mixN 2 (xorU (sumTo bs k).1 (wordOf (bs.drop (8 * k))), (sumTo bs k).2)
def sumEnd (bs : List UInt8) : UInt64 × UInt64 := sumTo bs ((bs.length + 7) / 8)
def lenU (n : Nat) : UInt64 := UInt64.ofNat n
def sumFin (bs : List UInt8) : UInt64 × UInt64 := mixN 4 ((sumEnd bs).1, xorU (sumEnd bs).2 (lenU bs.length))
theorem xor_len (y : UInt64) (L : Nat) (h : L < 18446744073709551616) : bits .xor .u64 (y.toNat : Int) (L : Int) = ((xorU y (lenU L)).toNat : Int) := by
  rw [← u64_xor]
  unfold lenU
  rw [UInt64.toNat_ofNat_of_lt' h]
/-- the hash of bytes -/
def sumN (bs : List UInt8) : UInt64 := xorU (sumFin bs).1 (sumFin bs).2

theorem word_calls_n (A : Option Addr) (c n : Nat) (bs : List UInt8) (w : World) (hn : bs.length = n) (hr : Rd w A (bytesV bs)) :
    Calls Tryz.prog 119 #[.slice A n c] w fun e w' => e = .returned (.int .u64 ((wordOf bs).toNat : Int)) ∧ Ext w w' := by
  subst hn; exact word_calls A c bs w hr
theorem refWord_calls_n (A : Option Addr) (c n : Nat) (bs : List UInt8) (w : World) (hn : bs.length = n) (hr : Rd w A (bytesV bs)) :
    Calls Tryz.prog 122 #[.slice A n c] w fun e w' => e = .returned (.int .u64 ((wordOf bs).toNat : Int)) ∧ Ext w w' := by
  subst hn; exact refWord_calls A c bs w hr
theorem mix_calls_n (g : Nat) (x y : UInt64) (m : Int) (h0 : 0 ≤ m) (h4 : m ≤ 4) (w : World) (hr : rowAt w g = some #[.int .u64 (x.toNat : Int), .int .u64 (y.toNat : Int)]) :
    Calls Tryz.prog 120 #[.pointer (some ⟨g, 0, none⟩), .int .i64 m] w fun e w' => e = .returned (.tuple #[]) ∧ rowAt w' g = some #[.int .u64 ((mixN m.toNat (x, y)).1.toNat : Int), .int .u64 ((mixN m.toNat (x, y)).2.toNat : Int)] ∧ Only g w w' := by
  obtain ⟨n, rfl⟩ := Int.eq_ofNat_of_zero_le h0
  exact mix_calls g (x, y) n w (by omega) hr
theorem addr_add (g o j : Nat) : (⟨g, o, none⟩ : Addr).add j = ⟨g, o + j, none⟩ := by unfold Addr.add; split <;> simp_all
theorem drop_bytes (bs : List UInt8) (k : Nat) : (bytesV bs).drop k = bytesV (bs.drop k) := by simp [bytesV, List.map_drop]

set_option maxHeartbeats 2000000 in
theorem sum_calls (A : Option Addr) (L c : Nat) (bs : List UInt8) (w : World) (hL : bs.length = L) (hlc : L ≤ c) (hlen : L ≤ 281474976710656) (hr : Rd w A (bytesV bs)) :
    Calls Tryz.prog 106 #[.slice A L c] w fun e w' => e = .returned (.agg (nameC (sumN bs))) ∧ Ext w w' := by
  have HL := Lib.hid hL
  clear hL
  go_enter Tryz.func106, Tryz.ntmps106
  go_wp2
  have E : Ext w ((w.alloc (.cells (nameC 0) 30)).alloc (.cells #[.int .u64 2611923443488327891, .int .u64 1376283091369227076] 136)) := by (repeat (first | exact Ext.refl _ | assumption | refine Ext.drew ?_ | refine Ext.drewN ?_ _ | refine Ext.alloc ?_ _ | refine Ext.trans ?_ (by assumption)))
  have R1 : rowAt ((w.alloc (.cells (nameC 0) 30)).alloc (.cells #[.int .u64 2611923443488327891, .int .u64 1376283091369227076] 136)) w.heap.size = some (nameC 0) := (rowAt_alloc _ _ _ (by simp)).trans (rowAt_new _ _ _ _ rfl)
  have R2 : rowAt ((w.alloc (.cells (nameC 0) 30)).alloc (.cells #[.int .u64 2611923443488327891, .int .u64 1376283091369227076] 136)) (w.heap.size + 1) = some #[.int .u64 2611923443488327891, .int .u64 1376283091369227076] := rowAt_new _ _ _ _ (by simp)
  generalize (w.alloc (.cells (nameC 0) 30)).alloc (.cells #[.int .u64 2611923443488327891, .int .u64 1376283091369227076] 136) = W at E R1 R2 ⊢
  go_loopw [4] (fun i wr => ∃ k j : Nat, j = 8 * k ∧ j < L + 8 ∧ i = .int .i64 (j : Int) ∧ rowAt wr w.heap.size = some (nameC 0) ∧ rowAt wr (w.heap.size + 1) = some #[.int .u64 ((sumTo bs k).1.toNat : Int), .int .u64 ((sumTo bs k).2.toNat : Int)] ∧ Ext w wr) (fun i _ => L + 8 - (intOf i).toNat)
  case atStart => exact ⟨0, 0, rfl, by omega, rfl, R1, R2, E⟩
  case round =>
    obtain ⟨k, j, hj, hk, rfl, r1, r2, e⟩ := hrel
    clear E R1 R2
    have HJ := Lib.hid hj
    by_cases hlt : j < L
    · have hnext : sumTo bs (k + 1) = mixN 2 (xorU (sumTo bs k).1 (wordOf (bs.drop (8 * k))), (sumTo bs k).2) := rfl
      rw [← hj] at hnext
      have HN := Lib.hid hnext
      clear hnext hj
      generalize hx : (sumTo bs k).1 = x at *
      generalize hy : (sumTo bs k).2 = y at *
      clear hx hy
      obtain ⟨g, o, rfl, hc⟩ := hr.at (bytesV_ne bs (by rw [HL.out]; omega))
      have hrd := (hr.keep e).drop j c (by rw [bytesV_length, HL.out]; omega) (by rw [bytesV_length, HL.out]; omega)
      rw [drop_bytes, if_neg (by omega), Option.map_some, addr_add] at hrd
      have HR := Lib.hid hrd
      have H2 := Lib.hid (show (bs.drop j).length = L - j by rw [List.length_drop, HL.out])
      clear hr hc hrd
      have i0 : (0 : Int) ≤ (j : Int) := by omega
      have i1 : (j : Int) ≤ (L : Int) := by omega
      have i2 : (L : Int) ≤ (c : Int) := by omega
      have i3 : ¬ c = j := by omega
      go_wp2
      go_region_with (go_at_call 119; refine (word_calls_n _ _ _ (bs.drop j) _ H2.out HR.out.drew).mono ?_; rintro e1 w1 ⟨rfl, hb⟩; replace r1 := rowAt_keep (w := wr.drew) r1 hb; replace r2 := rowAt_keep (w := wr.drew) r2 hb; replace e := Ext.trans e.drew hb; clear hb)
      all_goals
        have r3 : rowAt (w1.setCell ⟨w.heap.size + 1, 0, none⟩ (.int .u64 ((xorU x (wordOf (bs.drop j))).toNat : Int))) (w.heap.size + 1) = some #[.int .u64 ((xorU x (wordOf (bs.drop j))).toNat : Int), .int .u64 (y.toNat : Int)] := by simp [go_sem, r2]
        have r4 : rowAt (w1.setCell ⟨w.heap.size + 1, 0, none⟩ (.int .u64 ((xorU x (wordOf (bs.drop j))).toNat : Int))) w.heap.size = some (nameC 0) := (rowAt_far _ _ (by simp)).trans r1
        have e3 : Ext w (w1.setCell ⟨w.heap.size + 1, 0, none⟩ (.int .u64 ((xorU x (wordOf (bs.drop j))).toNat : Int))) := e.setCell (by simp) _
        generalize w1.setCell ⟨w.heap.size + 1, 0, none⟩ (.int .u64 ((xorU x (wordOf (bs.drop j))).toNat : Int)) = W1 at *
        generalize xorU x (wordOf (bs.drop j)) = z at *
        clear r1 r2 e
        go_wp2_with (go_at_call 120; refine (mix_calls_n _ _ _ _ (by decide) (by decide) _ r3).mono ?_; rintro e1 w2 ⟨rfl, r5, ho⟩; replace r4 := ho.row r4 (by simp); replace e3 := ho.ext e3 (by simp); clear ho r3)
        go_roundw
        case rel => exact ⟨k + 1, j + 8, by rw [HJ.out]; omega, by omega, by go_num, r4, by rw [HN.out]; exact r5, e3⟩
        case measure => simp [intOf]; omega
    · have hend : sumEnd bs = sumTo bs k := by unfold sumEnd; rw [HL.out, show (L + 7) / 8 = k from by omega]
      have hfin : sumFin bs = mixN 4 ((sumTo bs k).1, xorU (sumTo bs k).2 (lenU L)) := by unfold sumFin; rw [hend, HL.out]
      have hN : sumN bs = xorU (mixN 4 ((sumTo bs k).1, xorU (sumTo bs k).2 (lenU L))).1 (mixN 4 ((sumTo bs k).1, xorU (sumTo bs k).2 (lenU L))).2 := by unfold sumN; rw [hfin]
      generalize (sumTo bs k).1 = x at *
      generalize (sumTo bs k).2 = y at *
      have HS := Lib.hid hN
      clear hN hfin hend hj HJ hr
      have hxl := xor_len y L (by omega)
      go_upto_region 8 with (fail)
      have r3 : rowAt (wr.setCell ⟨w.heap.size + 1, 1, none⟩ (.int .u64 ((xorU y (lenU L)).toNat : Int))) (w.heap.size + 1) = some #[.int .u64 (x.toNat : Int), .int .u64 ((xorU y (lenU L)).toNat : Int)] := by simp [go_sem, r2]
      have r4 : rowAt (wr.setCell ⟨w.heap.size + 1, 1, none⟩ (.int .u64 ((xorU y (lenU L)).toNat : Int))) w.heap.size = some (nameC 0) := (rowAt_far _ _ (by simp)).trans r1
      have e3 : Ext w (wr.setCell ⟨w.heap.size + 1, 1, none⟩ (.int .u64 ((xorU y (lenU L)).toNat : Int))) := e.setCell (by simp) _
      clear hxl
      generalize wr.setCell ⟨w.heap.size + 1, 1, none⟩ (.int .u64 ((xorU y (lenU L)).toNat : Int)) = W1 at *
      clear r1 r2 e
      go_upto_region 9 with (go_at_call 120; refine (mix_calls_n _ _ _ _ (by decide) (by decide) _ r3).mono ?_; rintro e1 w2 ⟨rfl, r5, ho⟩; replace r4 := ho.row r4 (by simp); replace e3 := ho.ext e3 (by simp); clear ho r3)
      simp only [Int.reduceToNat] at r5
      generalize (mixN 4 (x, xorU y (lenU L))).1 = x2 at *
      generalize (mixN 4 (x, xorU y (lenU L))).2 = y2 at *
      go_wp2_with (go_at_call 121; refine (of_calls _ _).mono ?_; rintro e1 w3 ⟨rfl, hb⟩; replace r4 := rowAt_keep r4 hb; replace e3 := Ext.trans e3 hb; clear hb r5)
      rw [HS.out]
      refine bodyPost_ret (retName rfl _ _ (by simp [go_sem, r4])) rfl ⟨by simp [go_sem, r4], e3.setRow (Nat.le_refl _) _⟩

theorem mixN_next (n : Nat) (s : UInt64 × UInt64) : mixN (n + 1) s = mixU ((mixN n s).1, (mixN n s).2) := rfl
set_option maxHeartbeats 2000000 in
theorem refSum_calls (A : Option Addr) (L c : Nat) (bs : List UInt8) (w : World) (hL : bs.length = L) (hlc : L ≤ c) (hlen : L ≤ 281474976710656) (hr : Rd w A (bytesV bs)) :
    Calls Tryz.prog 111 #[.slice A L c] w fun e w' => e = .returned (.agg (nameC (sumN bs))) ∧ Ext w w' := by
  have HL := Lib.hid hL
  clear hL
  go_enter Tryz.func111, Tryz.ntmps111
  go_wp2
  have E : Ext w (w.alloc (.cells (nameC 0) 30)) := by (repeat (first | exact Ext.refl _ | assumption | refine Ext.drew ?_ | refine Ext.drewN ?_ _ | refine Ext.alloc ?_ _ | refine Ext.trans ?_ (by assumption)))
  have R1 : rowAt (w.alloc (.cells (nameC 0) 30)) w.heap.size = some (nameC 0) := rowAt_new _ _ _ _ rfl
  generalize w.alloc (.cells (nameC 0) 30) = W at E R1 ⊢
  go_loopw [3, 4, 5] (fun x y i wr => ∃ k j : Nat, j = 8 * k ∧ j < L + 8 ∧ i = .int .i64 (j : Int) ∧ x = .int .u64 ((sumTo bs k).1.toNat : Int) ∧ y = .int .u64 ((sumTo bs k).2.toNat : Int) ∧ rowAt wr w.heap.size = some (nameC 0) ∧ Ext w wr) (fun _ _ i _ => L + 8 - (intOf i).toNat)
  case atStart => exact ⟨0, 0, rfl, by omega, rfl, rfl, rfl, R1, E⟩
  case round =>
    obtain ⟨k, j, hj, hk, rfl, rfl, rfl, r1, e⟩ := hrel
    clear E R1
    have HJ := Lib.hid hj
    by_cases hlt : j < L
    · have hnext : sumTo bs (k + 1) = mixN 2 (xorU (sumTo bs k).1 (wordOf (bs.drop (8 * k))), (sumTo bs k).2) := rfl
      rw [← hj, mixN_next, mixN_next] at hnext
      have HN := Lib.hid hnext
      clear hnext hj
      generalize hx : (sumTo bs k).1 = x at *
      generalize hy : (sumTo bs k).2 = y at *
      clear hx hy
      obtain ⟨g, o, rfl, hc⟩ := hr.at (bytesV_ne bs (by rw [HL.out]; omega))
      have hrd := (hr.keep e).drop j c (by rw [bytesV_length, HL.out]; omega) (by rw [bytesV_length, HL.out]; omega)
      rw [drop_bytes, if_neg (by omega), Option.map_some, addr_add] at hrd
      have HR := Lib.hid hrd
      have H2 := Lib.hid (show (bs.drop j).length = L - j by rw [List.length_drop, HL.out])
      clear hr hc hrd
      have i0 : (0 : Int) ≤ (j : Int) := by omega
      have i1 : (j : Int) ≤ (L : Int) := by omega
      have i2 : (L : Int) ≤ (c : Int) := by omega
      have i3 : ¬ c = j := by omega
      go_wp2_with (first
        | (go_at_call 122; refine (refWord_calls_n _ _ _ (bs.drop j) _ H2.out HR.out).mono ?_; rintro e1 w1 ⟨rfl, hb⟩; replace r1 := rowAt_keep r1 hb; replace e := Ext.trans e hb; clear hb)
        | (go_at_call 123; refine (refMix_calls _ _ _).mono ?_; rintro e w' ⟨rfl, rfl⟩))
      go_roundw
      case rel => exact ⟨k + 1, j + 8, by rw [HJ.out]; omega, by omega, by go_num, by rw [HN.out]; rfl, by rw [HN.out]; rfl, r1, e⟩
      case measure => simp [intOf]; omega
    · have hend : sumEnd bs = sumTo bs k := by unfold sumEnd; rw [HL.out, show (L + 7) / 8 = k from by omega]
      have hfin : sumFin bs = mixN 4 ((sumTo bs k).1, xorU (sumTo bs k).2 (lenU L)) := by unfold sumFin; rw [hend, HL.out]
      have hN : sumN bs = xorU (mixN 4 ((sumTo bs k).1, xorU (sumTo bs k).2 (lenU L))).1 (mixN 4 ((sumTo bs k).1, xorU (sumTo bs k).2 (lenU L))).2 := by unfold sumN; rw [hfin]
      generalize (sumTo bs k).1 = x at *
      generalize (sumTo bs k).2 = y at *
      have HS := Lib.hid hN
      clear hN hfin hend hj HJ hr
      have hxl := xor_len y L (by omega)
      go_wp2
      clear hxl
      generalize xorU y (lenU L) = z at *
      go_loopw [3, 4, 6] (fun a b i wr' => ∃ n : Nat, n ≤ 4 ∧ i = .int .i64 (n : Int) ∧ a = .int .u64 ((mixN n (x, z)).1.toNat : Int) ∧ b = .int .u64 ((mixN n (x, z)).2.toNat : Int) ∧ wr' = wr) (fun _ _ i _ => 4 - (intOf i).toNat)
      case atStart => exact ⟨0, by omega, rfl, rfl, rfl, rfl⟩
      case round =>
        obtain ⟨n, hn, rfl, rfl, rfl, rfl⟩ := hrel
        by_cases hlt4 : n < 4
        · have HN := Lib.hid (mixN_next n (x, z))
          generalize (mixN n (x, z)).1 = a at *
          generalize (mixN n (x, z)).2 = b at *
          go_wp2_with (go_at_call 123; refine (refMix_calls _ _ _).mono ?_; rintro e w' ⟨rfl, rfl⟩)
          go_roundw
          case rel => exact ⟨n + 1, by omega, by go_num, by rw [HN.out], by rw [HN.out], trivial⟩
          case measure => simp [intOf]; omega
        · obtain rfl : n = 4 := by omega
          generalize (mixN 4 (x, z)).1 = a at *
          generalize (mixN 4 (x, z)).2 = b at *
          clear hlt4 hn
          go_wp2_with (go_at_call 124; refine (refOf_calls _ _).mono ?_; rintro e1 w3 ⟨rfl, hb⟩; replace r1 := rowAt_keep r1 hb; replace e := Ext.trans e hb; clear hb)
          rw [HS.out]
          refine bodyPost_ret (retName rfl _ _ (by simp [go_sem, r1])) rfl ⟨by simp [go_sem, r1], e.setRow (Nat.le_refl _) _⟩
end Go.Proofs.YtkkeeokeihkagaaGreat


/-
  hash.Tagged, hash.Pair and the reference's Tagged: what each call returns, for byte strings of less than 2^47 bytes. Conditions: that length.
-/
namespace Go.Proofs.YtkkeeokeihkagaaGreat
open Go.RowKit
attribute [local go_sem ↓] Go.wp_at_zero Go.wp_at_succ

def tagN (tag : UInt8) (bs : List UInt8) : UInt64 := sumN (tag :: bs)
theorem len_47 {L : Nat} (h : L ≤ 140737488355000) : 1 + L ≤ 281474976710656 := by omega
theorem len_47' {L : Nat} (h : L ≤ 140737488355000) : (1 + L) * 1 ≤ 140737488355328 := by omega

set_option maxHeartbeats 1000000 in
theorem tagged_calls (tag : UInt8) (A : Option Addr) (L c : Nat) (bs : List UInt8) (w : World) (hL : bs.length = L) (hlen : L ≤ 140737488355000) (hr : Rd w A (bytesV bs)) :
    Calls Tryz.prog 69 #[.int .u8 (tag.toNat : Int), .slice A L c] w fun e w' => e = .returned (.agg (nameC (tagN tag bs))) ∧ Ext w w' := by
  have hmk := run_mk bytesT .i64 .i64 0 160 (by decide) (by decide) (by decide)
  have c1 := len_47 hlen
  have c2 := len_47' hlen
  have HL := Lib.hid hL
  clear hL hlen
  have tok1 : True := trivial
  go_enter Tryz.func69, Tryz.ntmps69
  go_upto_region 1 with (fail)
  have E : Ext w (w.alloc (.cells (nameC 0) 30)) := by (repeat (first | exact Ext.refl _ | assumption | refine Ext.drew ?_ | refine Ext.drewN ?_ _ | refine Ext.alloc ?_ _ | refine Ext.trans ?_ (by assumption)))
  have R1 : rowAt (w.alloc (.cells (nameC 0) 30)) w.heap.size = some (nameC 0) := rowAt_new _ _ _ _ (by simp)
  generalize (w.alloc (.cells (nameC 0) 30)) = W at E R1 ⊢
  have L1 := rowAt_lt R1
  have HR := Lib.hid (hr.keep E)
  clear hr
  go_wp2_with (first
    | (at_builtin; have _t := tok1; refine wpList_app bytesT ((World.ownsRow_made W _ 160 (Nat.le_refl _) (by decide) (by simp [size_madeCells])).alloc _) (Rd.whole (rowAt_new _ _ _ _ (by simp))) rfl (ones_cons rfl ones_nil) (by decide) (by simp <;> omega) rfl _ _ rfl rfl rfl ?_; intro A1 c1' w1 hown1 hb1 _ _; have E1 : Ext W w1 := Ext.then (by (repeat (first | exact Ext.refl _ | assumption | refine Ext.drew ?_ | refine Ext.drewN ?_ _ | refine Ext.alloc ?_ _ | refine Ext.trans ?_ (by assumption)))) hb1; simp only [Nat.zero_add, List.nil_append] at hown1; clear tok1 _t hb1)
    | (at_builtin; refine wpList_app bytesT hown1 (HR.out.keep E1) (by rw [bytesV_length, HL.out]; simp) (ones_bytes bs) c2 E1.size rfl _ _ rfl rfl rfl ?_; intro A2 c2' w2 hown2 hb2 _ _; have E2 : Ext W w2 := E1.then hb2; clear hb2 hown1)
    | (go_at_call 106; refine (sum_calls A2 (1 + L) c2' (tag :: bs) _ (by rw [List.length_cons, HL.out]; omega) (own_cap hown2).1 c1 (Rd.of_own hown2)).mono ?_; rintro e w3 ⟨rfl, hb3⟩; have E3 := E2.trans hb3; have R3 := rowAt_keep R1 E3; clear hown2 hb3))
  refine bodyPost_ret (retName rfl _ _ (by simp [go_sem, R3])) rfl ⟨by simp [go_sem, R3]; rfl, (E.trans E3).setRow (Nat.le_refl _) _⟩
set_option maxHeartbeats 1000000 in
theorem refTagged_calls (tag : UInt8) (A : Option Addr) (L c : Nat) (bs : List UInt8) (w : World) (hL : bs.length = L) (hlen : L ≤ 140737488355000) (hr : Rd w A (bytesV bs)) :
    Calls Tryz.prog 78 #[.int .u8 (tag.toNat : Int), .slice A L c] w fun e w' => e = .returned (.agg (nameC (tagN tag bs))) ∧ Ext w w' := by
  have hmk := run_mk bytesT .i64 .i64 0 160 (by decide) (by decide) (by decide)
  have c1 := len_47 hlen
  have c2 := len_47' hlen
  have HL := Lib.hid hL
  clear hL hlen
  have tok1 : True := trivial
  go_enter Tryz.func78, Tryz.ntmps78
  go_upto_region 1 with (fail)
  have E : Ext w (w.alloc (.cells (nameC 0) 30)) := by (repeat (first | exact Ext.refl _ | assumption | refine Ext.drew ?_ | refine Ext.drewN ?_ _ | refine Ext.alloc ?_ _ | refine Ext.trans ?_ (by assumption)))
  have R1 : rowAt (w.alloc (.cells (nameC 0) 30)) w.heap.size = some (nameC 0) := rowAt_new _ _ _ _ (by simp)
  generalize (w.alloc (.cells (nameC 0) 30)) = W at E R1 ⊢
  have L1 := rowAt_lt R1
  have HR := Lib.hid (hr.keep E)
  clear hr
  go_wp2_with (first
    | (at_builtin; have _t := tok1; refine wpList_app bytesT ((World.ownsRow_made W _ 160 (Nat.le_refl _) (by decide) (by simp [size_madeCells])).alloc _) (Rd.whole (rowAt_new _ _ _ _ (by simp))) rfl (ones_cons rfl ones_nil) (by decide) (by simp <;> omega) rfl _ _ rfl rfl rfl ?_; intro A1 c1' w1 hown1 hb1 _ _; have E1 : Ext W w1 := Ext.then (by (repeat (first | exact Ext.refl _ | assumption | refine Ext.drew ?_ | refine Ext.drewN ?_ _ | refine Ext.alloc ?_ _ | refine Ext.trans ?_ (by assumption)))) hb1; simp only [Nat.zero_add, List.nil_append] at hown1; clear tok1 _t hb1)
    | (at_builtin; refine wpList_app bytesT hown1 (HR.out.keep E1) (by rw [bytesV_length, HL.out]; simp) (ones_bytes bs) c2 E1.size rfl _ _ rfl rfl rfl ?_; intro A2 c2' w2 hown2 hb2 _ _; have E2 : Ext W w2 := E1.then hb2; clear hb2 hown1)
    | (go_at_call 111; refine (refSum_calls A2 (1 + L) c2' (tag :: bs) _ (by rw [List.length_cons, HL.out]; omega) (own_cap hown2).1 c1 (Rd.of_own hown2)).mono ?_; rintro e w3 ⟨rfl, hb3⟩; have E3 := E2.trans hb3; have R3 := rowAt_keep R1 E3; clear hown2 hb3))
  refine bodyPost_ret (retName rfl _ _ (by simp [go_sem, R3])) rfl ⟨by simp [go_sem, R3]; rfl, (E.trans E3).setRow (Nat.le_refl _) _⟩

/-! ### Pair -/
def z16 : Array Value := Array.replicate 16 (.int .u8 0)
theorem z16_size : z16.size = 16 := by simp [z16]
theorem alloc16 (dst : Option Tmp) (ty : TypeId) (pos : String) (after : Array Edge) (gd : Option (Nat × Bool)) (ρ : Operand → Value) (w : World) :
    (execOp ρ ⟨dst, .alloc 134, ty, pos, after, gd⟩).run Tryz.prog w = .ok (.value (.pointer (some ⟨w.heap.size, 0, none⟩))) (w.alloc (.cells z16 134)) := by kernel_rfl
attribute [local go_sem ↓] alloc16
def pair1 (x : UInt64) : Array Value := (bytesV (nameB x) ++ List.replicate 8 (Value.int .u8 0)).toArray
def pair2 (x y : UInt64) : Array Value := (bytesV (nameB x ++ nameB y)).toArray
theorem pair1_size (x : UInt64) : (pair1 x).size = 16 := by simp [pair1, bytesV, nameB]
theorem splice1 (x : UInt64) : spliceA z16 0 ((nameC x).toList.take 16).toArray = pair1 x := by
  simp [spliceA, z16, pair1, nameC_toList, bytesV, nameB]
theorem splice2 (x y : UInt64) : spliceA (pair1 x) 8 ((nameC y).toList.take 8).toArray = pair2 x y := by
  simp [spliceA, pair1, pair2, nameC_toList, bytesV, nameB]
theorem pair2_toList (x y : UInt64) : (pair2 x y).toList = bytesV (nameB x ++ nameB y) := by simp [pair2]
set_option maxHeartbeats 1000000 in
theorem pair_calls (tag : UInt8) (x y : UInt64) (w : World) :
    Calls Tryz.prog 105 #[.int .u8 (tag.toNat : Int), .agg (nameC x), .agg (nameC y)] w fun e w' => e = .returned (.agg (nameC (tagN tag (nameB x ++ nameB y)))) ∧ Ext w w' := by
  go_enter Tryz.func105, Tryz.ntmps105
  go_upto_region 2 with (fail)
  have E : Ext w ((((w.alloc (.cells (nameC x) 30)).alloc (.cells (nameC y) 30)).alloc (.cells (nameC 0) 30)).alloc (.cells (z16) 134)) := by (repeat (first | exact Ext.refl _ | assumption | refine Ext.drew ?_ | refine Ext.drewN ?_ _ | refine Ext.alloc ?_ _ | refine Ext.trans ?_ (by assumption)))
  have R1 : rowAt ((((w.alloc (.cells (nameC x) 30)).alloc (.cells (nameC y) 30)).alloc (.cells (nameC 0) 30)).alloc (.cells (z16) 134)) w.heap.size = some (nameC x) := (rowAt_alloc _ _ _ (by simp <;> omega)).trans ((rowAt_alloc _ _ _ (by simp <;> omega)).trans ((rowAt_alloc _ _ _ (by simp <;> omega)).trans (rowAt_new _ _ _ _ (by simp))))
  have R2 : rowAt ((((w.alloc (.cells (nameC x) 30)).alloc (.cells (nameC y) 30)).alloc (.cells (nameC 0) 30)).alloc (.cells (z16) 134)) (w.heap.size + 1) = some (nameC y) := (rowAt_alloc _ _ _ (by simp <;> omega)).trans ((rowAt_alloc _ _ _ (by simp <;> omega)).trans (rowAt_new _ _ _ _ (by simp)))
  have R3 : rowAt ((((w.alloc (.cells (nameC x) 30)).alloc (.cells (nameC y) 30)).alloc (.cells (nameC 0) 30)).alloc (.cells (z16) 134)) (w.heap.size + 1 + 1) = some (nameC 0) := (rowAt_alloc _ _ _ (by simp <;> omega)).trans (rowAt_new _ _ _ _ (by simp))
  have R4 : rowAt ((((w.alloc (.cells (nameC x) 30)).alloc (.cells (nameC y) 30)).alloc (.cells (nameC 0) 30)).alloc (.cells (z16) 134)) (w.heap.size + 1 + 1 + 1) = some (z16) := rowAt_new _ _ _ _ (by simp)
  generalize ((((w.alloc (.cells (nameC x) 30)).alloc (.cells (nameC y) 30)).alloc (.cells (nameC 0) 30)).alloc (.cells (z16) 134)) = W at E R1 R2 R3 R4 ⊢
  have L1 := rowAt_lt R1
  have L2 := rowAt_lt R2
  have L3 := rowAt_lt R3
  have L4 := rowAt_lt R4
  have hc1 := fun ty => run_cp (P := Tryz.prog) (w := W.drew) (sT := 99) (ty := ty) (dl := 16) (dc := 16) (c := 8) (n := 8) Tryz.underlying99 (by kernel_rfl) (g := w.heap.size + 1 + 1 + 1) (o := 0) R4 (Rd.whole (w := W.drew) R1) rfl (ones_nameC x) (by simp [z16_size]) _ (splice1 x)
  go_wp2
  go_region
  have E1 : Ext w (W.drew.setRow (w.heap.size + 1 + 1 + 1) (pair1 x)) := E.drew.setRow (by omega) _
  have Q2 : rowAt (W.drew.setRow (w.heap.size + 1 + 1 + 1) (pair1 x)) (w.heap.size + 1) = some (nameC y) := (rowAt_setRow_far _ _ _ _ (by omega)).trans R2
  have Q3 : rowAt (W.drew.setRow (w.heap.size + 1 + 1 + 1) (pair1 x)) (w.heap.size + 1 + 1) = some (nameC 0) := (rowAt_setRow_far _ _ _ _ (by omega)).trans R3
  have Q4 : rowAt (W.drew.setRow (w.heap.size + 1 + 1 + 1) (pair1 x)) (w.heap.size + 1 + 1 + 1) = some (pair1 x) := rowAt_setRow _ _ _ (show (rowAt W _).isSome = true by rw [R4]; rfl)
  clear hc1 E R1 R2 R3 R4 L1 L2 L3 L4
  generalize W.drew.setRow (w.heap.size + 1 + 1 + 1) (pair1 x) = W1 at *
  have hc2 := fun ty => run_cp (P := Tryz.prog) (w := W1.drew) (sT := 99) (ty := ty) (dl := 8) (dc := 8) (c := 8) (n := 8) Tryz.underlying99 (by kernel_rfl) (g := w.heap.size + 1 + 1 + 1) (o := 8) Q4 (Rd.whole (w := W1.drew) Q2) rfl (ones_nameC y) (by simp [pair1_size]) _ (splice2 x y)
  go_wp2
  go_region
  have E2 : Ext w (W1.drew.setRow (w.heap.size + 1 + 1 + 1) (pair2 x y)) := E1.drew.setRow (by omega) _
  have P3 : rowAt (W1.drew.setRow (w.heap.size + 1 + 1 + 1) (pair2 x y)) (w.heap.size + 1 + 1) = some (nameC 0) := (rowAt_setRow_far _ _ _ _ (by omega)).trans Q3
  have P4 : rowAt (W1.drew.setRow (w.heap.size + 1 + 1 + 1) (pair2 x y)) (w.heap.size + 1 + 1 + 1) = some (pair2 x y) := rowAt_setRow _ _ _ (show (rowAt W1 _).isSome = true by rw [Q4]; rfl)
  clear hc2 E1 Q2 Q3 Q4
  generalize W1.drew.setRow (w.heap.size + 1 + 1 + 1) (pair2 x y) = W2 at *
  have hrd := Rd.whole P4
  rw [pair2_toList] at hrd
  have c1 := tagged_calls tag (some ⟨w.heap.size + 1 + 1 + 1, 0, none⟩) 16 16 (nameB x ++ nameB y) W2 (by simp [nameB_length]) (by decide) hrd
  generalize ht : tagN tag (nameB x ++ nameB y) = t at c1
  have HT := Lib.hid ht
  have C1 := Lib.hid c1
  clear c1 hrd ht
  go_wp2_with (go_at_call 69; refine C1.out.mono ?_; rintro e w3 ⟨rfl, hb3⟩; have E3 := E2.trans hb3; have R3 := rowAt_keep P3 hb3; clear hb3)
  refine bodyPost_ret (retName rfl _ _ (by simp [go_sem, R3])) rfl ⟨by rw [HT.out]; simp [go_sem, R3], E3.setRow (by omega) _⟩

/-- What the hash functions return, the hash itself a letter: so that no proof above can look into it. -/
structure HashSpec (S : List UInt8 → UInt64) : Prop where
  sum : ∀ (A : Option Addr) (L c : Nat) (bs : List UInt8) (w : World), bs.length = L → L ≤ c → L ≤ 281474976710656 → Rd w A (bytesV bs) →
    Calls Tryz.prog 106 #[.slice A L c] w fun e w' => e = .returned (.agg (nameC (S bs))) ∧ Ext w w'
  tagged : ∀ (tag : UInt8) (A : Option Addr) (L c : Nat) (bs : List UInt8) (w : World), bs.length = L → L ≤ 140737488355000 → Rd w A (bytesV bs) →
    Calls Tryz.prog 69 #[.int .u8 (tag.toNat : Int), .slice A L c] w fun e w' => e = .returned (.agg (nameC (S (tag :: bs)))) ∧ Ext w w'
  pair : ∀ (tag : UInt8) (x y : UInt64) (w : World),
    Calls Tryz.prog 105 #[.int .u8 (tag.toNat : Int), .agg (nameC x), .agg (nameC y)] w fun e w' => e = .returned (.agg (nameC (S (tag :: (nameB x ++ nameB y))))) ∧ Ext w w'
  refSum : ∀ (A : Option Addr) (L c : Nat) (bs : List UInt8) (w : World), bs.length = L → L ≤ c → L ≤ 281474976710656 → Rd w A (bytesV bs) →
    Calls Tryz.prog 111 #[.slice A L c] w fun e w' => e = .returned (.agg (nameC (S bs))) ∧ Ext w w'
  refTagged : ∀ (tag : UInt8) (A : Option Addr) (L c : Nat) (bs : List UInt8) (w : World), bs.length = L → L ≤ 140737488355000 → Rd w A (bytesV bs) →
    Calls Tryz.prog 78 #[.int .u8 (tag.toNat : Int), .slice A L c] w fun e w' => e = .returned (.agg (nameC (S (tag :: bs)))) ∧ Ext w w'
end Go.Proofs.YtkkeeokeihkagaaGreat


/-
  The contracts of the hash functions in the program logic, the hash itself a letter. Conditions: lengths below 2^47.
-/
namespace Go.Proofs.YtkkeeokeihkagaaGreat
open Go.RowKit

structure HashF (S : List UInt8 → UInt64) : Prop where
  sum : ∀ (bs : List UInt8) (n : Nat) (f : Bool), bs.length = n → n ≤ 281474976710656 → Fresh Tryz.prog 106 [.ex n f (byA bs)] (fun _ => .v (.agg (nameC (S bs)))) []
  tagged : ∀ (tag : UInt8) (bs : List UInt8) (n : Nat) (f : Bool), bs.length = n → n ≤ 140737488355000 → Fresh Tryz.prog 69 [.v (.int .u8 (tag.toNat : Int)), .ex n f (byA bs)] (fun _ => .v (.agg (nameC (S (tag :: bs))))) []
  pair : ∀ (tag : UInt8) (x y : UInt64), Fresh Tryz.prog 105 [.v (.int .u8 (tag.toNat : Int)), .v (.agg (nameC x)), .v (.agg (nameC y))] (fun _ => .v (.agg (nameC (S (tag :: (nameB x ++ nameB y)))))) []
  refSum : ∀ (bs : List UInt8) (n : Nat) (f : Bool), bs.length = n → n ≤ 281474976710656 → Fresh Tryz.prog 111 [.ex n f (byA bs)] (fun _ => .v (.agg (nameC (S bs)))) []
  refTagged : ∀ (tag : UInt8) (bs : List UInt8) (n : Nat) (f : Bool), bs.length = n → n ≤ 140737488355000 → Fresh Tryz.prog 78 [.v (.int .u8 (tag.toNat : Int)), .ex n f (byA bs)] (fun _ => .v (.agg (nameC (S (tag :: bs))))) []
theorem sum_f (bs : List UInt8) (n : Nat) (f : Bool) (h : bs.length = n) (hn : n ≤ 281474976710656) : Fresh Tryz.prog 106 [.ex n f (byA bs)] (fun _ => .v (.agg (nameC (sumN bs)))) [] := .of_calls fun w xs E hw hx => by
  obtain ⟨x, rfl, h1⟩ := arg1 hx
  obtain ⟨A, c, rfl, hc, hr⟩ := ex_bytes h1
  subst hw
  exact sum_calls A n c bs E.w h hc hn hr
theorem refSum_f (bs : List UInt8) (n : Nat) (f : Bool) (h : bs.length = n) (hn : n ≤ 281474976710656) : Fresh Tryz.prog 111 [.ex n f (byA bs)] (fun _ => .v (.agg (nameC (sumN bs)))) [] := .of_calls fun w xs E hw hx => by
  obtain ⟨x, rfl, h1⟩ := arg1 hx
  obtain ⟨A, c, rfl, hc, hr⟩ := ex_bytes h1
  subst hw
  exact refSum_calls A n c bs E.w h hc hn hr
theorem tagged_f (tag : UInt8) (bs : List UInt8) (n : Nat) (f : Bool) (h : bs.length = n) (hn : n ≤ 140737488355000) : Fresh Tryz.prog 69 [.v (.int .u8 (tag.toNat : Int)), .ex n f (byA bs)] (fun _ => .v (.agg (nameC (sumN (tag :: bs))))) [] := .of_calls fun w xs E hw hx => by
  obtain ⟨x, y, rfl, h1, h2⟩ := arg2 hx
  obtain ⟨A, c, rfl, hc, hr⟩ := ex_bytes h2
  rw [h1.v_inv]
  subst hw
  exact tagged_calls tag A n c bs E.w h hn hr
theorem refTagged_f (tag : UInt8) (bs : List UInt8) (n : Nat) (f : Bool) (h : bs.length = n) (hn : n ≤ 140737488355000) : Fresh Tryz.prog 78 [.v (.int .u8 (tag.toNat : Int)), .ex n f (byA bs)] (fun _ => .v (.agg (nameC (sumN (tag :: bs))))) [] := .of_calls fun w xs E hw hx => by
  obtain ⟨x, y, rfl, h1, h2⟩ := arg2 hx
  obtain ⟨A, c, rfl, hc, hr⟩ := ex_bytes h2
  rw [h1.v_inv]
  subst hw
  exact refTagged_calls tag A n c bs E.w h hn hr
theorem pair_f (tag : UInt8) (x y : UInt64) : Fresh Tryz.prog 105 [.v (.int .u8 (tag.toNat : Int)), .v (.agg (nameC x)), .v (.agg (nameC y))] (fun _ => .v (.agg (nameC (sumN (tag :: (nameB x ++ nameB y)))))) [] := .of_calls fun w xs E hw hx => by
  obtain ⟨a, b, c, rfl, h1, h2, h3⟩ := arg3 hx
  rw [h1.v_inv, h2.v_inv, h3.v_inv]
  exact pair_calls tag x y w
theorem hashF : HashF sumN := ⟨sum_f, tagged_f, pair_f, refSum_f, refTagged_f⟩
end Go.Proofs.YtkkeeokeihkagaaGreat


/-
  Layer 21, state: cells, entries, locks and states as data; equality of cells, entries and locks. No condition.
-/
namespace Go.Proofs.YtkkeeokeihkagaaGreat
open Go.RowKit

def cellC (k i : Int) (n : UInt64) : Array Value := #[.int .i64 k, .int .i64 i,
  .int .u8 ((nb n 7).toNat : Int), .int .u8 ((nb n 6).toNat : Int), .int .u8 ((nb n 5).toNat : Int), .int .u8 ((nb n 4).toNat : Int), .int .u8 ((nb n 3).toNat : Int), .int .u8 ((nb n 2).toNat : Int), .int .u8 ((nb n 1).toNat : Int), .int .u8 ((nb n 0).toNat : Int)]
def deltaC (k i : Int) (n : UInt64) (a : Int) : Array Value := #[.int .i64 k, .int .i64 i,
  .int .u8 ((nb n 7).toNat : Int), .int .u8 ((nb n 6).toNat : Int), .int .u8 ((nb n 5).toNat : Int), .int .u8 ((nb n 4).toNat : Int), .int .u8 ((nb n 3).toNat : Int), .int .u8 ((nb n 2).toNat : Int), .int .u8 ((nb n 1).toNat : Int), .int .u8 ((nb n 0).toNat : Int), .int .i64 a]
def lockC (n h : UInt64) (o t u : Int) : Array Value := #[
  .int .u8 ((nb n 7).toNat : Int), .int .u8 ((nb n 6).toNat : Int), .int .u8 ((nb n 5).toNat : Int), .int .u8 ((nb n 4).toNat : Int), .int .u8 ((nb n 3).toNat : Int), .int .u8 ((nb n 2).toNat : Int), .int .u8 ((nb n 1).toNat : Int), .int .u8 ((nb n 0).toNat : Int),
  .int .u8 ((nb h 7).toNat : Int), .int .u8 ((nb h 6).toNat : Int), .int .u8 ((nb h 5).toNat : Int), .int .u8 ((nb h 4).toNat : Int), .int .u8 ((nb h 3).toNat : Int), .int .u8 ((nb h 2).toNat : Int), .int .u8 ((nb h 1).toNat : Int), .int .u8 ((nb h 0).toNat : Int),
  .int .i64 o, .int .i64 t, .int .i64 u]
structure Cl where
  k : Int
  i : Int
  n : UInt64
deriving DecidableEq
structure Dl where
  k : Int
  i : Int
  n : UInt64
  a : Int
deriving DecidableEq
structure Lk where
  n : UInt64
  h : UInt64
  o : Int
  t : Int
  u : Int
deriving DecidableEq
structure Stt where
  cells : List Dl
  seqs : List Int
  locks : List Lk
  applied : List UInt64
  guilty : Int
def dA (d : Dl) : List AV := (deltaC d.k d.i d.n d.a).toList.map .v
def dsA (l : List Dl) : List AV := l.flatMap dA
def lA (d : Lk) : List AV := (lockC d.n d.h d.o d.t d.u).toList.map .v
def lsA (l : List Lk) : List AV := l.flatMap lA
/-- a state as an argument -/
def stA (s : Stt) : AV := .ag [.ex s.cells.length false (dsA s.cells), .ex s.seqs.length false (inA s.seqs), .ex s.locks.length false (lsA s.locks), .ex s.applied.length false (byA (flat s.applied)), .v (.int .i64 s.guilty)]
/-- a new state, its blocks from k on -/
def stO (s : Stt) : Nat → AV := fun k => .ag [.sl k s.cells.length, .sl (k + 1) s.seqs.length, .sl (k + 2) s.locks.length, .sl (k + 3) s.applied.length, .v (.int .i64 s.guilty)]
def stB (s : Stt) : List ABlk := [⟨dsA s.cells, 46, 11⟩, ⟨inA s.seqs, 3, 1⟩, ⟨lsA s.locks, 50, 19⟩, ⟨byA (flat s.applied), 30, 8⟩]
theorem dsA_vals (l : List Dl) : dsA l = (l.flatMap fun d => (deltaC d.k d.i d.n d.a).toList).map .v := by rw [List.map_flatMap]; rfl
theorem lsA_vals (l : List Lk) : lsA l = (l.flatMap fun d => (lockC d.n d.h d.o d.t d.u).toList).map .v := by rw [List.map_flatMap]; rfl
instance (l : List Dl) : CloL (dsA l) := by rw [dsA_vals]; infer_instance
instance (l : List Dl) : ValL (dsA l) := by rw [dsA_vals]; infer_instance
instance (l : List Lk) : CloL (lsA l) := by rw [lsA_vals]; infer_instance
instance (l : List Lk) : ValL (lsA l) := by rw [lsA_vals]; infer_instance
instance (d : Dl) : CloL (dA d) := CloL.vals _
instance (d : Dl) : ValL (dA d) := ValL.vals _
instance (d : Lk) : CloL (lA d) := CloL.vals _
instance (d : Lk) : ValL (lA d) := ValL.vals _
theorem dA_length (d : Dl) : (dA d).length = 11 := rfl
theorem lA_length (d : Lk) : (lA d).length = 19 := rfl
theorem dsA_length (l : List Dl) : (dsA l).length = l.length * 11 := by
  induction l with
  | nil => rfl
  | cons d l ih => rw [dsA, List.flatMap_cons, List.length_append, dA_length]; rw [dsA] at ih; rw [ih, List.length_cons]; omega
theorem lsA_length (l : List Lk) : (lsA l).length = l.length * 19 := by
  induction l with
  | nil => rfl
  | cons d l ih => rw [lsA, List.flatMap_cons, List.length_append, lA_length]; rw [lsA] at ih; rw [ih, List.length_cons]; omega
theorem dsA_cons (d : Dl) (l : List Dl) : dsA (d :: l) = dA d ++ dsA l := rfl
theorem lsA_cons (d : Lk) (l : List Lk) : lsA (d :: l) = lA d ++ lsA l := rfl
theorem dsA_append (a b : List Dl) : dsA (a ++ b) = dsA a ++ dsA b := by simp [dsA]
theorem lsA_append (a b : List Lk) : lsA (a ++ b) = lsA a ++ lsA b := by simp [lsA]
theorem dA_ones (d : Dl) : (dA d).all AV.one = true := rfl
theorem lA_ones (d : Lk) : (lA d).all AV.one = true := rfl
theorem dsA_ones (l : List Dl) : (dsA l).all AV.one = true := by
  induction l with
  | nil => rfl
  | cons d l ih => rw [dsA_cons, List.all_append, ih, dA_ones]; rfl
theorem lsA_ones (l : List Lk) : (lsA l).all AV.one = true := by
  induction l with
  | nil => rfl
  | cons d l ih => rw [lsA_cons, List.all_append, ih, lA_ones]; rfl
instance (l : List Dl) : OneL (dsA l) := ⟨dsA_ones l⟩
instance (l : List Lk) : OneL (lsA l) := ⟨lsA_ones l⟩
theorem dsA_take : ∀ (l : List Dl) (i : Nat), (dsA l).take (i * 11) = dsA (l.take i)
  | _, 0 => by simp [dsA]
  | [], i + 1 => by simp [dsA]
  | d :: l, i + 1 => by rw [dsA_cons, List.take_succ_cons, dsA_cons, Nat.succ_mul, Nat.add_comm, ← dA_length d, List.take_length_add_append, dA_length, dsA_take l i]
theorem lsA_take : ∀ (l : List Lk) (i : Nat), (lsA l).take (i * 19) = lsA (l.take i)
  | _, 0 => by simp [lsA]
  | [], i + 1 => by simp [lsA]
  | d :: l, i + 1 => by rw [lsA_cons, List.take_succ_cons, lsA_cons, Nat.succ_mul, Nat.add_comm, ← lA_length d, List.take_length_add_append, lA_length, lsA_take l i]
theorem dsA_drop : ∀ (l : List Dl) (i : Nat), (dsA l).drop (i * 11) = dsA (l.drop i)
  | _, 0 => by simp
  | [], i + 1 => by simp [dsA]
  | d :: l, i + 1 => by rw [dsA_cons, List.drop_succ_cons, Nat.succ_mul, Nat.add_comm, ← dA_length d, List.drop_length_add_append, dA_length, dsA_drop l i]
theorem lsA_drop : ∀ (l : List Lk) (i : Nat), (lsA l).drop (i * 19) = lsA (l.drop i)
  | _, 0 => by simp
  | [], i + 1 => by simp [lsA]
  | d :: l, i + 1 => by rw [lsA_cons, List.drop_succ_cons, Nat.succ_mul, Nat.add_comm, ← lA_length d, List.drop_length_add_append, lA_length, lsA_drop l i]
theorem drop_of {α : Type} {l : List α} {i : Nat} {x : α} (h : l[i]? = some x) : l.drop i = x :: l.drop (i + 1) := by
  obtain ⟨hi, e⟩ := List.getElem?_eq_some_iff.1 h
  rw [List.drop_eq_getElem_cons hi, e]
theorem ds_at {l : List Dl} {i : Nat} {d : Dl} (h : l[i]? = some d) : (dsA l).drop (i * 11) = dA d ++ dsA (l.drop (i + 1)) := by rw [dsA_drop, drop_of h, dsA_cons]
theorem ls_at {l : List Lk} {i : Nat} {d : Lk} (h : l[i]? = some d) : (lsA l).drop (i * 19) = lA d ++ lsA (l.drop (i + 1)) := by rw [lsA_drop, drop_of h, lsA_cons]
theorem ds_ne {l : List Dl} {i : Nat} (h : i < l.length) : dsA l ≠ [] := fun e => by have := dsA_length l; rw [e] at this; simp at this; omega
theorem ls_ne {l : List Lk} {i : Nat} (h : i < l.length) : lsA l ≠ [] := fun e => by have := lsA_length l; rw [e] at this; simp at this; omega
theorem agu_d {l : List Dl} {i : Nat} {d : Dl} (h : l[i]? = some d) : agu (.v (.agg (deltaC d.k d.i d.n d.a))) (((dsA l).drop (i * 11)).take 11) := by
  rw [ds_at h]; exact agu_v (deltaC d.k d.i d.n d.a)
theorem agu_l {l : List Lk} {i : Nat} {d : Lk} (h : l[i]? = some d) : agu (.v (.agg (lockC d.n d.h d.o d.t d.u))) (((lsA l).drop (i * 19)).take 19) := by
  rw [ls_at h]; exact agu_v (lockC d.n d.h d.o d.t d.u)
theorem agu_ln {l : List Lk} {i : Nat} {d : Lk} (h : l[i]? = some d) : agu (.v (.agg (nameC d.n))) ((((lsA l).drop (i * 19)).drop 0).take 8) := by
  rw [ls_at h]; exact agu_v (nameC d.n)
theorem d_amt {l : List Dl} {i : Nat} {d : Dl} (h : l[i]? = some d) : (((dsA l).drop (i * 11)).drop 10)[0]? = some (.v (.int .i64 d.a)) := by
  rw [ds_at h]; rfl
theorem agu_cell {k i : Int} {n : UInt64} {cs : List AV} (h : cs = (cellC k i n).toList.map .v) : agu (.v (.agg (cellC k i n))) cs := h ▸ agu_v _
theorem agu_delta {k i : Int} {n : UInt64} {a : Int} {cs : List AV} (h : cs = (deltaC k i n a).toList.map .v) : agu (.v (.agg (deltaC k i n a))) cs := h ▸ agu_v _
theorem agu_lock {n h : UInt64} {o t u : Int} {cs : List AV} (e : cs = (lockC n h o t u).toList.map .v) : agu (.v (.agg (lockC n h o t u))) cs := e ▸ agu_v _
/-! ### Equality -/
theorem cell_eq (k i k' i' : Int) (n n' : UInt64) (w : World) : (Op.equal 32 (.agg (cellC k i n)) (.agg (cellC k' i' n'))).run Tryz.prog w = .ok (decide (k = k' ∧ i = i' ∧ n = n')) w := by
  have hI := Tryz.underlying3
  have hN := Tryz.underlying30
  have key : EqFs Tryz.prog w 9999 (cellC k i n) (cellC k' i' n') (Tryz.prog.fieldsOf 32).toList [k == k', i == i', n == n'] := by
    simp only [Program.fieldsOf, Tryz.underlying32]
    refine .cons (by decide) (part_int hI rfl) (part_int hI rfl) (run_equalIn_int w _ _ _ _ _ _ hI) ?_
    refine .cons (by decide) (part_int hI rfl) (part_int hI rfl) (run_equalIn_int w _ _ _ _ _ _ hI) ?_
    refine .cons (by decide) (part_name (v := n) hN (by kernel_rfl) rfl) (part_name (v := n') hN (by kernel_rfl) rfl) (run_eq_name w 9997 hN (by kernel_rfl) Tryz.underlying5 (by kernel_rfl) _ _) ?_
    exact .nil
  have h := run_equalIn_struct (P := Tryz.prog) w 9999 32 (cellC k i n) (cellC k' i' n') (by kernel_rfl) (by kernel_rfl)
  rw [key.run] at h
  refine h.trans (congrArg (fun b => Result.ok b w) ?_)
  rw [Bool.eq_iff_iff]
  simp [Bool.and_eq_true]
instance (k i k' i' : Int) (n n' : UInt64) : EqR Tryz.prog 32 (cellC k i n) (cellC k' i' n') (decide (k = k' ∧ i = i' ∧ n = n')) := ⟨by kernel_rfl, cell_eq k i k' i' n n'⟩
end Go.Proofs.YtkkeeokeihkagaaGreat


/-
  Layer 21, state: the orders of names and cells, of the program and of the reference. No condition.
-/
namespace Go.Proofs.YtkkeeokeihkagaaGreat
open Go.RowKit

def cmpI (x y : Int) : Int := if x < y then -1 else if y < x then 1 else 0
def cmpN (a b : UInt64) : Int := cmpI (a.toNat : Int) (b.toNat : Int)
def cmpC (k i : Int) (n : UInt64) (k' i' : Int) (n' : UInt64) : Int := if cmpI k k' ≠ 0 then cmpI k k' else if cmpI i i' ≠ 0 then cmpI i i' else cmpN n n'
theorem isNaN_ok (x : Int) : Fresh Tryz.prog 108 [.v (.int .i64 x)] (fun _ => .v (.bool false)) [] := by
  apply Fresh.bool
  · refine Fresh.of (fn := Tryz.f108) Tryz.func108 rfl (Nat.le_of_ble_eq_true rfl) fun w => ?_
    (refine Gol.seq ?_; apply Gol.region; apply Trc.stp rfl rfl rfl; apply s_assign; exact rfl
     dsimp only [Nat.reduceAdd, Nat.reduceMul, List.nil_append]; exact Trc.done _ _ _; exact rfl
     refine thn_n ?_; refine Gol.seq ?_; apply Gol.region; apply Trc.stp rfl rfl rfl; apply s_move
     exact rfl; dsimp only [Nat.reduceAdd, Nat.reduceMul, List.nil_append]; apply Trc.stp rfl rfl rfl; apply s_move; exact rfl; dsimp only [Nat.reduceAdd, Nat.reduceMul, List.nil_append]
     apply Trc.stp rfl rfl rfl; apply s_ne; exact rfl; exact rfl; dsimp only [Nat.reduceAdd, Nat.reduceMul, List.nil_append]
     apply Trc.stp rfl rfl rfl; apply s_assign; exact rfl; dsimp only [Nat.reduceAdd, Nat.reduceMul, List.nil_append]
     exact Trc.done _ _ _; exact rfl; refine thn_n ?_; refine Gol.ret ?_)
    (apply RetQ.mk (by first | exact .inr rfl | exact .inl rfl); apply res_1 rfl; exact res_tmp rfl; exact out_val)
  · simp
theorem isNaNU_ok (x : UInt64) : Fresh Tryz.prog 118 [.v (.int .u64 (x.toNat : Int))] (fun _ => .v (.bool false)) [] := by
  apply Fresh.bool
  · refine Fresh.of (fn := Tryz.f118) Tryz.func118 rfl (Nat.le_of_ble_eq_true rfl) fun w => ?_
    (refine Gol.seq ?_; apply Gol.region; apply Trc.stp rfl rfl rfl; apply s_assign; exact rfl
     dsimp only [Nat.reduceAdd, Nat.reduceMul, List.nil_append]; exact Trc.done _ _ _; exact rfl
     refine thn_n ?_; refine Gol.seq ?_; apply Gol.region; apply Trc.stp rfl rfl rfl; apply s_move
     exact rfl; dsimp only [Nat.reduceAdd, Nat.reduceMul, List.nil_append]; apply Trc.stp rfl rfl rfl; apply s_move; exact rfl; dsimp only [Nat.reduceAdd, Nat.reduceMul, List.nil_append]
     apply Trc.stp rfl rfl rfl; apply s_nen; exact rfl; exact rfl; dsimp only [Nat.reduceAdd, Nat.reduceMul, List.nil_append]
     apply Trc.stp rfl rfl rfl; apply s_assign; exact rfl; dsimp only [Nat.reduceAdd, Nat.reduceMul, List.nil_append]
     exact Trc.done _ _ _; exact rfl; refine thn_n ?_; refine Gol.ret ?_)
    (apply RetQ.mk (by first | exact .inr rfl | exact .inl rfl); apply res_1 rfl; exact res_tmp rfl; exact out_val)
  · simp
theorem compareI_ok (x y : Int) : Fresh Tryz.prog 73 [.v (.int .i64 x), .v (.int .i64 y)] (fun _ => .v (.int .i64 (cmpI x y))) [] := by
  refine Fresh.of (fn := Tryz.f73) Tryz.func73 rfl (Nat.le_of_ble_eq_true rfl) fun w => ?_
  (refine Gol.seq ?_; apply Gol.region; apply Trc.stp rfl rfl rfl; apply s_assign; exact rfl
   dsimp only [Nat.reduceAdd, Nat.reduceMul, List.nil_append]; exact Trc.done _ _ _; exact rfl
   refine thn_n ?_; refine Gol.seq ?_; apply Gol.region; apply Trc.stp rfl rfl rfl; apply s_move
   exact rfl; dsimp only [Nat.reduceAdd, Nat.reduceMul, List.nil_append]; apply Trc.stp rfl rfl rfl; apply s_call (f := 108) rfl; apply evs.cons rfl; exact evs.nil; apply ArgL.cons; exact arg_clo; exact ArgL.nil; exact isNaN_ok x
   exact Nat.le_of_ble_eq_true rfl; dsimp only [Nat.reduceAdd, Nat.reduceMul, Nat.reduceSub, List.nil_append, List.cons_append, nbk, List.map_cons, List.map_nil]
   apply Trc.stp rfl rfl rfl; apply s_assign; exact rfl; dsimp only [Nat.reduceAdd, Nat.reduceMul, List.nil_append]
   exact Trc.done _ _ _; exact rfl; refine thn_n ?_; refine Gol.seq ?_; apply Gol.region; apply Trc.stp rfl rfl rfl; apply s_move; exact rfl; dsimp only [Nat.reduceAdd, Nat.reduceMul, List.nil_append]
   apply Trc.stp rfl rfl rfl; apply s_call (f := 108) rfl; apply evs.cons rfl; exact evs.nil; apply ArgL.cons; exact arg_clo
   exact ArgL.nil; exact isNaN_ok y; exact Nat.le_of_ble_eq_true rfl; dsimp only [Nat.reduceAdd, Nat.reduceMul, Nat.reduceSub, List.nil_append, List.cons_append, nbk, List.map_cons, List.map_nil]
   apply Trc.stp rfl rfl rfl; apply s_assign; exact rfl; dsimp only [Nat.reduceAdd, Nat.reduceMul, List.nil_append]
   exact Trc.done _ _ _; exact rfl; refine thn_n ?_; refine Gol.seq ?_; refine Gol.seq ?_; apply Gol.region
   apply Trc.stp rfl rfl rfl; apply s_move; exact rfl; dsimp only [Nat.reduceAdd, Nat.reduceMul, List.nil_append]
   exact Trc.done _ _ _; exact rfl; refine thn_n ?_)
  refine Gol.cond_f rfl rfl ?_
  (refine Gol.skip ?_; refine thn_n ?_; refine Gol.seq ?_; refine Gol.seq ?_; apply Gol.region
   apply Trc.stp rfl rfl rfl; apply s_move; exact rfl; dsimp only [Nat.reduceAdd, Nat.reduceMul, List.nil_append]
   exact Trc.done _ _ _; exact rfl; refine thn_n ?_)
  refine Gol.cond_f rfl rfl ?_
  (refine Gol.skip ?_; refine thn_n ?_; refine Gol.seq ?_; refine Gol.seq ?_; apply Gol.region
   apply Trc.stp rfl rfl rfl; apply s_move; exact rfl; dsimp only [Nat.reduceAdd, Nat.reduceMul, List.nil_append]
   apply Trc.stp rfl rfl rfl; apply s_move; exact rfl; dsimp only [Nat.reduceAdd, Nat.reduceMul, List.nil_append]
   apply Trc.stp rfl rfl rfl; apply s_lt; exact rfl; exact rfl; dsimp only [Nat.reduceAdd, Nat.reduceMul, List.nil_append]
   exact Trc.done _ _ _; exact rfl; refine thn_n ?_)
  refine Gol.cond rfl (fun h => ?_) (fun h => ?_)
  · have h1 : x < y := of_decide_eq_true h
    rw [cmpI, if_pos h1]
    (refine Gol.seq ?_; apply Gol.region; apply Trc.stp rfl rfl rfl; apply s_assign; exact rfl
     dsimp only [Nat.reduceAdd, Nat.reduceMul, List.nil_append]; exact Trc.done _ _ _; exact rfl
     refine thn_n ?_; refine Gol.ret ?_; refine thn_r ?_)
    (apply RetQ.mk (by first | exact .inr rfl | exact .inl rfl); apply res_1 rfl; exact res_tmp rfl; exact out_val)
  · have h1 : ¬ x < y := of_decide_eq_false h
    (refine Gol.skip ?_; refine thn_n ?_; refine Gol.seq ?_; refine Gol.seq ?_; apply Gol.region
     apply Trc.stp rfl rfl rfl; apply s_move; exact rfl; dsimp only [Nat.reduceAdd, Nat.reduceMul, List.nil_append]
     apply Trc.stp rfl rfl rfl; apply s_move; exact rfl; dsimp only [Nat.reduceAdd, Nat.reduceMul, List.nil_append]
     apply Trc.stp rfl rfl rfl; apply s_gt; exact rfl; exact rfl; dsimp only [Nat.reduceAdd, Nat.reduceMul, List.nil_append]
     exact Trc.done _ _ _; exact rfl; refine thn_n ?_)
    refine Gol.cond rfl (fun h => ?_) (fun h => ?_)
    · have h2 : y < x := of_decide_eq_true h
      rw [cmpI, if_neg h1, if_pos h2]
      (refine Gol.seq ?_; apply Gol.region; apply Trc.stp rfl rfl rfl; apply s_assign; exact rfl
       dsimp only [Nat.reduceAdd, Nat.reduceMul, List.nil_append]; exact Trc.done _ _ _; exact rfl
       refine thn_n ?_; refine Gol.ret ?_; refine thn_r ?_)
      (apply RetQ.mk (by first | exact .inr rfl | exact .inl rfl); apply res_1 rfl; exact res_tmp rfl; exact out_val)
    · have h2 : ¬ y < x := of_decide_eq_false h
      rw [cmpI, if_neg h1, if_neg h2]
      (refine Gol.skip ?_; refine thn_n ?_; refine Gol.seq ?_; apply Gol.region; apply Trc.stp rfl rfl rfl; apply s_assign; exact rfl; dsimp only [Nat.reduceAdd, Nat.reduceMul, List.nil_append]
       exact Trc.done _ _ _; exact rfl; refine thn_n ?_; refine Gol.ret ?_)
      (apply RetQ.mk (by first | exact .inr rfl | exact .inl rfl); apply res_1 rfl; exact res_tmp rfl; exact out_val)
theorem compareU_ok (x y : UInt64) : Fresh Tryz.prog 101 [.v (.int .u64 (x.toNat : Int)), .v (.int .u64 (y.toNat : Int))] (fun _ => .v (.int .i64 (cmpN x y))) [] := by
  refine Fresh.of (fn := Tryz.f101) Tryz.func101 rfl (Nat.le_of_ble_eq_true rfl) fun w => ?_
  (refine Gol.seq ?_; apply Gol.region; apply Trc.stp rfl rfl rfl; apply s_assign; exact rfl
   dsimp only [Nat.reduceAdd, Nat.reduceMul, List.nil_append]; exact Trc.done _ _ _; exact rfl
   refine thn_n ?_; refine Gol.seq ?_; apply Gol.region; apply Trc.stp rfl rfl rfl; apply s_move
   exact rfl; dsimp only [Nat.reduceAdd, Nat.reduceMul, List.nil_append]; apply Trc.stp rfl rfl rfl; apply s_call (f := 118) rfl; apply evs.cons rfl; exact evs.nil; apply ArgL.cons; exact arg_clo; exact ArgL.nil; exact isNaNU_ok x
   exact Nat.le_of_ble_eq_true rfl; dsimp only [Nat.reduceAdd, Nat.reduceMul, Nat.reduceSub, List.nil_append, List.cons_append, nbk, List.map_cons, List.map_nil]
   apply Trc.stp rfl rfl rfl; apply s_assign; exact rfl; dsimp only [Nat.reduceAdd, Nat.reduceMul, List.nil_append]
   exact Trc.done _ _ _; exact rfl; refine thn_n ?_; refine Gol.seq ?_; apply Gol.region; apply Trc.stp rfl rfl rfl; apply s_move; exact rfl; dsimp only [Nat.reduceAdd, Nat.reduceMul, List.nil_append]
   apply Trc.stp rfl rfl rfl; apply s_call (f := 118) rfl; apply evs.cons rfl; exact evs.nil; apply ArgL.cons; exact arg_clo
   exact ArgL.nil; exact isNaNU_ok y; exact Nat.le_of_ble_eq_true rfl; dsimp only [Nat.reduceAdd, Nat.reduceMul, Nat.reduceSub, List.nil_append, List.cons_append, nbk, List.map_cons, List.map_nil]
   apply Trc.stp rfl rfl rfl; apply s_assign; exact rfl; dsimp only [Nat.reduceAdd, Nat.reduceMul, List.nil_append]
   exact Trc.done _ _ _; exact rfl; refine thn_n ?_; refine Gol.seq ?_; refine Gol.seq ?_; apply Gol.region
   apply Trc.stp rfl rfl rfl; apply s_move; exact rfl; dsimp only [Nat.reduceAdd, Nat.reduceMul, List.nil_append]
   exact Trc.done _ _ _; exact rfl; refine thn_n ?_)
  refine Gol.cond_f rfl rfl ?_
  (refine Gol.skip ?_; refine thn_n ?_; refine Gol.seq ?_; refine Gol.seq ?_; apply Gol.region
   apply Trc.stp rfl rfl rfl; apply s_move; exact rfl; dsimp only [Nat.reduceAdd, Nat.reduceMul, List.nil_append]
   exact Trc.done _ _ _; exact rfl; refine thn_n ?_)
  refine Gol.cond_f rfl rfl ?_
  (refine Gol.skip ?_; refine thn_n ?_; refine Gol.seq ?_; refine Gol.seq ?_; apply Gol.region
   apply Trc.stp rfl rfl rfl; apply s_move; exact rfl; dsimp only [Nat.reduceAdd, Nat.reduceMul, List.nil_append]
   apply Trc.stp rfl rfl rfl; apply s_move; exact rfl; dsimp only [Nat.reduceAdd, Nat.reduceMul, List.nil_append]
   apply Trc.stp rfl rfl rfl; apply s_ltn; exact rfl; exact rfl; dsimp only [Nat.reduceAdd, Nat.reduceMul, List.nil_append]
   exact Trc.done _ _ _; exact rfl; refine thn_n ?_)
  refine Gol.cond rfl (fun h => ?_) (fun h => ?_)
  · have h1 : (x.toNat : Int) < (y.toNat : Int) := by have := of_decide_eq_true h; omega
    rw [cmpN, cmpI, if_pos h1]
    (refine Gol.seq ?_; apply Gol.region; apply Trc.stp rfl rfl rfl; apply s_assign; exact rfl
     dsimp only [Nat.reduceAdd, Nat.reduceMul, List.nil_append]; exact Trc.done _ _ _; exact rfl
     refine thn_n ?_; refine Gol.ret ?_; refine thn_r ?_)
    (apply RetQ.mk (by first | exact .inr rfl | exact .inl rfl); apply res_1 rfl; exact res_tmp rfl; exact out_val)
  · have h1 : ¬ (x.toNat : Int) < (y.toNat : Int) := by have := of_decide_eq_false h; omega
    (refine Gol.skip ?_; refine thn_n ?_; refine Gol.seq ?_; refine Gol.seq ?_; apply Gol.region
     apply Trc.stp rfl rfl rfl; apply s_move; exact rfl; dsimp only [Nat.reduceAdd, Nat.reduceMul, List.nil_append]
     apply Trc.stp rfl rfl rfl; apply s_move; exact rfl; dsimp only [Nat.reduceAdd, Nat.reduceMul, List.nil_append]
     apply Trc.stp rfl rfl rfl; apply s_gtn; exact rfl; exact rfl; dsimp only [Nat.reduceAdd, Nat.reduceMul, List.nil_append]
     exact Trc.done _ _ _; exact rfl; refine thn_n ?_)
    refine Gol.cond rfl (fun h => ?_) (fun h => ?_)
    · have h2 : (y.toNat : Int) < (x.toNat : Int) := by have := of_decide_eq_true h; omega
      rw [cmpN, cmpI, if_neg h1, if_pos h2]
      (refine Gol.seq ?_; apply Gol.region; apply Trc.stp rfl rfl rfl; apply s_assign; exact rfl
       dsimp only [Nat.reduceAdd, Nat.reduceMul, List.nil_append]; exact Trc.done _ _ _; exact rfl
       refine thn_n ?_; refine Gol.ret ?_; refine thn_r ?_)
      (apply RetQ.mk (by first | exact .inr rfl | exact .inl rfl); apply res_1 rfl; exact res_tmp rfl; exact out_val)
    · have h2 : ¬ (y.toNat : Int) < (x.toNat : Int) := by have := of_decide_eq_false h; omega
      rw [cmpN, cmpI, if_neg h1, if_neg h2]
      (refine Gol.skip ?_; refine thn_n ?_; refine Gol.seq ?_; apply Gol.region; apply Trc.stp rfl rfl rfl; apply s_assign; exact rfl; dsimp only [Nat.reduceAdd, Nat.reduceMul, List.nil_append]
       exact Trc.done _ _ _; exact rfl; refine thn_n ?_; refine Gol.ret ?_)
      (apply RetQ.mk (by first | exact .inr rfl | exact .inl rfl); apply res_1 rfl; exact res_tmp rfl; exact out_val)
theorem number_f (n : UInt64) : Fresh Tryz.prog 102 [.v (.agg (nameC n))] (fun _ => .v (.int .u64 (n.toNat : Int))) [] := .of_calls fun w xs E hw hx => by
  obtain ⟨x, rfl, h1⟩ := arg1 hx
  rw [h1.v_inv]
  exact number_calls n w
theorem compareNames_ok (a b : UInt64) : Fresh Tryz.prog 67 [.v (.agg (nameC a)), .v (.agg (nameC b))] (fun _ => .v (.int .i64 (cmpN a b))) [] := by
  refine Fresh.of (fn := Tryz.f67) Tryz.func67 rfl (Nat.le_of_ble_eq_true rfl) fun w => ?_
  (refine Gol.seq ?_; apply Gol.region; apply Trc.stp rfl rfl rfl; apply s_box; exact rfl
   exact rfl; dsimp only [Nat.reduceAdd, Nat.reduceMul, Nat.reduceSub, List.nil_append, List.cons_append, nbk, List.map_cons, List.map_nil]; apply Trc.stp rfl rfl rfl; apply s_box; exact rfl; exact rfl; dsimp only [Nat.reduceAdd, Nat.reduceMul, Nat.reduceSub, List.nil_append, List.cons_append, nbk, List.map_cons, List.map_nil]
   apply Trc.stp rfl rfl rfl; apply s_assign; exact rfl; dsimp only [Nat.reduceAdd, Nat.reduceMul, List.nil_append]
   exact Trc.done _ _ _; exact rfl; refine thn_n ?_; refine Gol.seq ?_; apply Gol.any; kernel_rfl; apply Trc.stp rfl rfl rfl; apply s_loadW; exact rfl; exact rfl; exact rfl; exact agu_cuv _; dsimp only [Nat.reduceAdd, Nat.reduceMul, List.nil_append]
   apply Trc.stp rfl rfl rfl; apply s_call (f := 102) rfl; apply evs.cons rfl; exact evs.nil; apply ArgL.cons; exact arg_clo
   exact ArgL.nil; exact number_f _; exact Nat.le_of_ble_eq_true rfl; dsimp only [Nat.reduceAdd, Nat.reduceMul, Nat.reduceSub, List.nil_append, List.cons_append, nbk, List.map_cons, List.map_nil]
   apply Trc.stp rfl rfl rfl; apply s_loadW; exact rfl; exact rfl; exact rfl; exact agu_cuv _; dsimp only [Nat.reduceAdd, Nat.reduceMul, List.nil_append]
   apply Trc.stp rfl rfl rfl; apply s_call (f := 102) rfl; apply evs.cons rfl; exact evs.nil; apply ArgL.cons; exact arg_clo
   exact ArgL.nil; exact number_f _; exact Nat.le_of_ble_eq_true rfl; dsimp only [Nat.reduceAdd, Nat.reduceMul, Nat.reduceSub, List.nil_append, List.cons_append, nbk, List.map_cons, List.map_nil]
   apply Trc.stp rfl rfl rfl; apply s_call (f := 101) rfl; apply evs.cons rfl; apply evs.cons rfl; exact evs.nil; apply ArgL.cons
   exact arg_clo; apply ArgL.cons; exact arg_clo; exact ArgL.nil; exact compareU_ok a b; exact Nat.le_of_ble_eq_true rfl; dsimp only [Nat.reduceAdd, Nat.reduceMul, Nat.reduceSub, List.nil_append, List.cons_append, nbk, List.map_cons, List.map_nil]
   apply Trc.stp rfl rfl rfl; apply s_assign; exact rfl; dsimp only [Nat.reduceAdd, Nat.reduceMul, List.nil_append]
   exact Trc.done _ _ _; kernel_rfl; exact rfl; refine thn_n ?_; refine Gol.ret ?_)
  (apply RetQ.mk (by first | exact .inr rfl | exact .inl rfl); apply res_1 rfl; exact res_tmp rfl; exact out_val)
def orL : List Int → Int
  | [] => 0
  | a :: l => if a ≠ 0 then a else orL l
theorem orL_drop {l : List Int} {i : Nat} (h : i < l.length) : orL (l.drop i) = if l.getD i 0 ≠ 0 then l.getD i 0 else orL (l.drop (i + 1)) := by
  rw [List.drop_eq_getElem_cons h, orL, List.getD_eq_getElem?_getD, List.getElem?_eq_getElem h]; rfl
theorem or_ok (l : List Int) (f : Bool) (hl : l.length ≤ 100) : Fresh Tryz.prog 72 [.ex l.length f (inA l)] (fun _ => .v (.int .i64 (orL l))) [] := by
  refine Fresh.of (fn := Tryz.f72) Tryz.func72 rfl (Nat.le_of_ble_eq_true rfl) fun w => ?_
  (refine Gol.seq ?_; apply Gol.region; apply Trc.stp rfl rfl rfl; apply s_assign; exact rfl
   dsimp only [Nat.reduceAdd, Nat.reduceMul, List.nil_append]; exact Trc.done _ _ _; exact rfl
   refine thn_n ?_; refine Gol.seq ?_; apply Gol.region; apply Trc.stp rfl rfl rfl; apply s_assign
   exact rfl; dsimp only [Nat.reduceAdd, Nat.reduceMul, List.nil_append]; exact Trc.done _ _ _
   exact rfl; refine thn_n ?_; refine Gol.seq ?_; refine Gol.seq ?_; apply Gol.region
   apply Trc.stp rfl rfl rfl; apply s_move; exact rfl; dsimp only [Nat.reduceAdd, Nat.reduceMul, List.nil_append]
   apply Trc.stp rfl rfl rfl; apply s_len; exact rfl; exact ln_ex; dsimp only [Nat.reduceAdd, Nat.reduceMul, List.nil_append]
   apply Trc.stp rfl rfl rfl; apply s_move; exact rfl; dsimp only [Nat.reduceAdd, Nat.reduceMul, List.nil_append]
   exact Trc.done _ _ _; exact rfl; refine thn_n ?_; refine Gol.block ?_)
  refine Gol.loop (ι := Nat) (fun i => i ≤ l.length ∧ orL (l.drop i) = orL l) (fun i => l.length - i) 40 (fun i => []) (fun i => [(8, .v (.int .i64 (i : Int))), (7, .v (.int .i64 (l.length : Int))), (6, .ex l.length f (inA l)), (3, .v (.int .i64 0))]) 0 ⟨Nat.zero_le _, rfl⟩ ?_ ?_
  · (apply Le.mk' []; apply RnT.c; exact rfl; exact Rn.v rfl; apply RnT.c; exact rfl; exact Rn.v rfl; apply RnT.c; exact rfl; exact Rn.clo inferInstance rfl
     apply RnT.c; exact rfl; exact Rn.v rfl; exact RnT.n; exact RnH.n; exact rfl)
  rintro i ⟨h1, h2⟩
  (refine Gol.seq ?_; apply Gol.region; apply Trc.stp rfl rfl rfl; apply s_ltn; exact rfl
   exact rfl; dsimp only [Nat.reduceAdd, Nat.reduceMul, List.nil_append]; exact Trc.done _ _ _
   exact rfl; refine thn_n ?_; refine Gol.seq ?_)
  refine Gol.cond rfl (fun h => ?_) (fun h => ?_)
  · have hlt : i < l.length := of_decide_eq_true h
    have hne : inA l ≠ [] := fun e => by have := inA_length l; rw [e] at this; simp at this; omega
    have ho := orL_drop hlt
    (refine Gol.skip ?_; refine thn_n ?_; refine Gol.seq ?_; refine Gol.block ?_; refine Gol.seq ?_
     apply Gol.region; apply Trc.stp rfl rfl rfl; apply s_ixe; exact rfl; exact rfl; omega; assumption; dsimp only [Nat.reduceAdd, Nat.reduceMul, List.nil_append]
     apply Trc.stp rfl rfl rfl; apply s_loadE; exact rfl; apply in_get0; assumption; dsimp only [Nat.reduceAdd, Nat.reduceMul, List.nil_append]
     apply Trc.stp rfl rfl rfl; apply s_assign; exact rfl; dsimp only [Nat.reduceAdd, Nat.reduceMul, List.nil_append]
     exact Trc.done _ _ _; exact rfl; refine thn_n ?_; refine Gol.seq ?_; apply Gol.region; apply Trc.stp rfl rfl rfl; apply s_move; exact rfl; dsimp only [Nat.reduceAdd, Nat.reduceMul, List.nil_append]
     apply Trc.stp rfl rfl rfl; apply s_move; exact rfl; dsimp only [Nat.reduceAdd, Nat.reduceMul, List.nil_append]
     apply Trc.stp rfl rfl rfl; apply s_ne; exact rfl; exact rfl; dsimp only [Nat.reduceAdd, Nat.reduceMul, List.nil_append]
     exact Trc.done _ _ _; exact rfl; refine thn_n ?_)
    refine Gol.cond rfl (fun h => ?_) (fun h => ?_)
    · have h0 : l.getD i 0 ≠ 0 := by simpa using h
      rw [if_pos h0] at ho
      rw [← h2, ho]
      (refine Gol.seq ?_; apply Gol.region; apply Trc.stp rfl rfl rfl; apply s_move; exact rfl
       dsimp only [Nat.reduceAdd, Nat.reduceMul, List.nil_append]; apply Trc.stp rfl rfl rfl; apply s_assign; exact rfl; dsimp only [Nat.reduceAdd, Nat.reduceMul, List.nil_append]
       exact Trc.done _ _ _; exact rfl; refine thn_n ?_; refine Gol.ret ?_; refine inBlk_r ?_; refine thn_r ?_
       refine rnd_r ?_; refine inBlk_r ?_; refine thn_r ?_)
      (apply RetQ.mk (by first | exact .inr rfl | exact .inl rfl); apply res_1 rfl; exact res_tmp rfl; exact out_val)
    · have h0 : l.getD i 0 = 0 := by simpa using h
      rw [if_neg (fun q => q h0)] at ho
      (refine Gol.skip ?_; refine inBlk_n ?_; refine thn_n ?_; apply Gol.region; apply Trc.stp rfl rfl rfl; apply s_addn; exact rfl; exact rfl; simp <;> omega; dsimp only [Nat.reduceAdd, Nat.reduceMul, List.nil_append]
       apply Trc.stp rfl rfl rfl; apply s_move; exact rfl; dsimp only [Nat.reduceAdd, Nat.reduceMul, List.nil_append]
       exact Trc.done _ _ _; exact rfl)
      refine rnd_n (i + 1) ⟨by omega, by rw [← h2, ho]⟩ (by omega) ?_
      (apply Le.mk' []; apply RnT.c; exact rfl; exact Rn.v rfl; apply RnT.c; exact rfl; exact Rn.v rfl; apply RnT.c; exact rfl; exact Rn.clo inferInstance rfl
       apply RnT.c; exact rfl; exact Rn.v rfl; exact RnT.n; exact RnH.n; exact rfl)
  · have hge : ¬ i < l.length := of_decide_eq_false h
    rw [List.drop_of_length_le (by omega)] at h2
    rw [← h2]
    (refine Gol.exit ?_; refine thn_x ?_; refine rnd_x ?_; refine inBlk_hit ?_; refine thn_n ?_
     refine Gol.seq ?_; apply Gol.region; apply Trc.stp rfl rfl rfl; apply s_move; exact rfl
     dsimp only [Nat.reduceAdd, Nat.reduceMul, List.nil_append]; apply Trc.stp rfl rfl rfl; apply s_assign; exact rfl; dsimp only [Nat.reduceAdd, Nat.reduceMul, List.nil_append]
     exact Trc.done _ _ _; exact rfl; refine thn_n ?_; refine Gol.ret ?_)
    (apply RetQ.mk (by first | exact .inr rfl | exact .inl rfl); apply res_1 rfl; exact res_tmp rfl; exact out_val)
theorem compare_ok (k i k' i' : Int) (n n' : UInt64) : Fresh Tryz.prog 32 [.v (.agg (cellC k i n)), .v (.agg (cellC k' i' n'))] (fun _ => .v (.int .i64 (cmpC k i n k' i' n'))) [] := by
  have ho : ∀ f, Fresh Tryz.prog 72 [.ex 3 f (inA [cmpI k k', cmpI i i', cmpN n n'])] (fun _ => .v (.int .i64 (cmpC k i n k' i' n'))) [] := fun f => by
    have := or_ok [cmpI k k', cmpI i i', cmpN n n'] f (by simp)
    have e : orL [cmpI k k', cmpI i i', cmpN n n'] = cmpC k i n k' i' n' := by
      simp only [orL, cmpC]
      split
      · rfl
      · split
        · rfl
        · split
          · rfl
          · rename_i h; simp at h; exact h.symm
    rw [e] at this
    exact this
  refine Fresh.of (fn := Tryz.f32) Tryz.func32 rfl (Nat.le_of_ble_eq_true rfl) fun w => ?_
  (refine Gol.seq ?_; apply Gol.region; apply Trc.stp rfl rfl rfl; apply s_box; exact rfl
   exact rfl; dsimp only [Nat.reduceAdd, Nat.reduceMul, Nat.reduceSub, List.nil_append, List.cons_append, nbk, List.map_cons, List.map_nil]; apply Trc.stp rfl rfl rfl; apply s_box; exact rfl; exact rfl; dsimp only [Nat.reduceAdd, Nat.reduceMul, Nat.reduceSub, List.nil_append, List.cons_append, nbk, List.map_cons, List.map_nil]
   apply Trc.stp rfl rfl rfl; apply s_assign; exact rfl; dsimp only [Nat.reduceAdd, Nat.reduceMul, List.nil_append]
   exact Trc.done _ _ _; exact rfl; refine thn_n ?_; refine Gol.seq ?_; apply Gol.any; kernel_rfl; apply Trc.stp rfl rfl rfl; apply s_fieldAddr; exact rfl; dsimp only [Nat.reduceAdd, Nat.reduceMul, List.nil_append]
   apply Trc.stp rfl rfl rfl; apply s_load; exact rfl; exact rfl; exact rfl; dsimp only [Nat.reduceAdd, Nat.reduceMul, List.nil_append]
   apply Trc.stp rfl rfl rfl; apply s_fieldAddr; exact rfl; dsimp only [Nat.reduceAdd, Nat.reduceMul, List.nil_append]
   apply Trc.stp rfl rfl rfl; apply s_load; exact rfl; exact rfl; exact rfl; dsimp only [Nat.reduceAdd, Nat.reduceMul, List.nil_append]
   apply Trc.stp rfl rfl rfl; apply s_call (f := 73) rfl; apply evs.cons rfl; apply evs.cons rfl; exact evs.nil; apply ArgL.cons
   exact arg_clo; apply ArgL.cons; exact arg_clo; exact ArgL.nil; exact compareI_ok k k'; exact Nat.le_of_ble_eq_true rfl; dsimp only [Nat.reduceAdd, Nat.reduceMul, Nat.reduceSub, List.nil_append, List.cons_append, nbk, List.map_cons, List.map_nil]
   apply Trc.stp rfl rfl rfl; apply s_fieldAddr; exact rfl; dsimp only [Nat.reduceAdd, Nat.reduceMul, List.nil_append]
   apply Trc.stp rfl rfl rfl; apply s_load; exact rfl; exact rfl; exact rfl; dsimp only [Nat.reduceAdd, Nat.reduceMul, List.nil_append]
   apply Trc.stp rfl rfl rfl; apply s_fieldAddr; exact rfl; dsimp only [Nat.reduceAdd, Nat.reduceMul, List.nil_append]
   apply Trc.stp rfl rfl rfl; apply s_load; exact rfl; exact rfl; exact rfl; dsimp only [Nat.reduceAdd, Nat.reduceMul, List.nil_append]
   apply Trc.stp rfl rfl rfl; apply s_call (f := 73) rfl; apply evs.cons rfl; apply evs.cons rfl; exact evs.nil; apply ArgL.cons
   exact arg_clo; apply ArgL.cons; exact arg_clo; exact ArgL.nil; exact compareI_ok i i'; exact Nat.le_of_ble_eq_true rfl; dsimp only [Nat.reduceAdd, Nat.reduceMul, Nat.reduceSub, List.nil_append, List.cons_append, nbk, List.map_cons, List.map_nil]
   apply Trc.stp rfl rfl rfl; apply s_fieldAddr; exact rfl; dsimp only [Nat.reduceAdd, Nat.reduceMul, List.nil_append]
   apply Trc.stp rfl rfl rfl; apply s_loadN; exact rfl; exact rfl; exact Nat.le_of_ble_eq_true rfl; exact agu_nm8 rfl; dsimp only [Nat.reduceAdd, Nat.reduceMul, List.nil_append]
   apply Trc.stp rfl rfl rfl; apply s_fieldAddr; exact rfl; dsimp only [Nat.reduceAdd, Nat.reduceMul, List.nil_append]
   apply Trc.stp rfl rfl rfl; apply s_loadN; exact rfl; exact rfl; exact Nat.le_of_ble_eq_true rfl; exact agu_nm8 rfl; dsimp only [Nat.reduceAdd, Nat.reduceMul, List.nil_append]
   apply Trc.stp rfl rfl rfl; apply s_call (f := 67) rfl; apply evs.cons rfl; apply evs.cons rfl; exact evs.nil
   apply ArgL.cons; exact arg_clo; apply ArgL.cons; exact arg_clo; exact ArgL.nil; exact compareNames_ok n n'; exact Nat.le_of_ble_eq_true rfl; dsimp only [Nat.reduceAdd, Nat.reduceMul, Nat.reduceSub, List.nil_append, List.cons_append, nbk, List.map_cons, List.map_nil]
   apply Trc.stp rfl rfl rfl; apply s_bytesP; apply PV.cons; exact rfl; exact rfl; exact rfl; apply PV.cons; exact rfl; exact rfl
   exact rfl; apply PV.cons; exact rfl; exact rfl; exact rfl; exact PV.nil; exact rfl; omega; dsimp only [Nat.reduceAdd, Nat.reduceMul, Nat.reduceSub, List.nil_append, List.cons_append, nbk, List.map_cons, List.map_nil]
   apply Trc.stp rfl rfl rfl; apply s_call (f := 72) rfl; apply evs.cons rfl; exact evs.nil; apply ArgL.cons; exact arg_sl rfl
   exact ArgL.nil; exact ho _; exact Nat.le_of_ble_eq_true rfl; dsimp only [Nat.reduceAdd, Nat.reduceMul, Nat.reduceSub, List.nil_append, List.cons_append, nbk, List.map_cons, List.map_nil]
   apply Trc.stp rfl rfl rfl; apply s_assign; exact rfl; dsimp only [Nat.reduceAdd, Nat.reduceMul, List.nil_append]
   exact Trc.done _ _ _; kernel_rfl; exact rfl; refine thn_n ?_; refine Gol.ret ?_)
  (apply RetQ.mk (by first | exact .inr rfl | exact .inl rfl); apply res_1 rfl; exact res_tmp rfl; exact out_val)
theorem refLess_f (a b : UInt64) : Fresh Tryz.prog 53 [.v (.agg (nameC a)), .v (.agg (nameC b))] (fun _ => .v (.bool (decide (a.toNat < b.toNat)))) [] := .of_calls fun w xs E hw hx => by
  obtain ⟨x, y, rfl, h1, h2⟩ := arg2 hx
  rw [h1.v_inv, h2.v_inv]
  exact refLess_calls a b w
end Go.Proofs.YtkkeeokeihkagaaGreat


/-
  Layer 21, state: searching lists by a function value. No condition.
-/
namespace Go.Proofs.YtkkeeokeihkagaaGreat
open Go.RowKit

/-- the index of the first element with p, or -1 -/
def fIx {α : Type} (p : α → Bool) : List α → Nat → Int
  | [], _ => -1
  | a :: l, i => if p a then (i : Int) else fIx p l (i + 1)
theorem fIx_hit {α : Type} {p : α → Bool} {l : List α} {i : Nat} {a : α} (h : l[i]? = some a) (hp : p a = true) : fIx p (l.drop i) i = (i : Int) := by rw [drop_of h, fIx, if_pos hp]
theorem fIx_miss {α : Type} {p : α → Bool} {l : List α} {i : Nat} {a : α} (h : l[i]? = some a) (hp : p a = false) : fIx p (l.drop i) i = fIx p (l.drop (i + 1)) (i + 1) := by rw [drop_of h, fIx, if_neg (by simp [hp])]
theorem idxD_ok (l : List Dl) (fl : Bool) (g : FuncId) (ds : List AV) [hc : CloL ds] [hF : FnI Tryz.prog g] (p : Dl → Bool) (hl : l.length ≤ 140737488355000) (h0 : ∀ d ∈ l, Fresh Tryz.prog g (.v (.agg (deltaC d.k d.i d.n d.a)) :: ds) (fun _ => .v (.bool (p d))) []) :
    Fresh Tryz.prog 74 [.ex l.length fl (dsA l), .fn g ds] (fun _ => .v (.int .i64 (fIx p l 0))) [] := by
  refine Fresh.of (fn := Tryz.f74) Tryz.func74 rfl (Nat.le_of_ble_eq_true rfl) fun w => ?_
  (refine Gol.seq ?_; apply Gol.region; apply Trc.stp rfl rfl rfl; apply s_assign; exact rfl
   dsimp only [Nat.reduceAdd, Nat.reduceMul, List.nil_append]; exact Trc.done _ _ _; exact rfl
   refine thn_n ?_; refine Gol.seq ?_; refine Gol.seq ?_; apply Gol.region; apply Trc.stp rfl rfl rfl; apply s_move; exact rfl; dsimp only [Nat.reduceAdd, Nat.reduceMul, List.nil_append]
   apply Trc.stp rfl rfl rfl; apply s_len; exact rfl; exact ln_ex; dsimp only [Nat.reduceAdd, Nat.reduceMul, List.nil_append]
   apply Trc.stp rfl rfl rfl; apply s_move; exact rfl; dsimp only [Nat.reduceAdd, Nat.reduceMul, List.nil_append]
   exact Trc.done _ _ _; exact rfl; refine thn_n ?_; refine Gol.block ?_)
  refine Gol.loop (ι := Nat) (fun i => i ≤ l.length ∧ fIx p (l.drop i) i = fIx p l 0) (fun i => l.length - i) 32 (fun i => []) (fun i => [(8, .v (.int .i64 (i : Int))), (7, .v (.int .i64 (l.length : Int))), (0, .ex l.length fl (dsA l)), (1, .fn g ds)]) 0 ⟨Nat.zero_le _, rfl⟩ ?_ ?_
  · (apply Le.mk' []; apply RnT.c; exact rfl; exact Rn.v rfl; apply RnT.c; exact rfl; exact Rn.v rfl; apply RnT.c; exact rfl; exact Rn.clo inferInstance rfl
     apply RnT.c; exact rfl; exact Rn.clo inferInstance rfl; exact RnT.n; exact RnH.n; exact rfl)
  rintro i ⟨h1, h2⟩
  (refine Gol.seq ?_; apply Gol.region; apply Trc.stp rfl rfl rfl; apply s_ltn; exact rfl
   exact rfl; dsimp only [Nat.reduceAdd, Nat.reduceMul, List.nil_append]; exact Trc.done _ _ _
   exact rfl; refine thn_n ?_; refine Gol.seq ?_)
  refine Gol.cond rfl (fun h => ?_) (fun h => ?_)
  · have hlt : i < l.length := of_decide_eq_true h
    obtain ⟨d, hd⟩ : ∃ d, l[i]? = some d := ⟨l[i], List.getElem?_eq_getElem hlt⟩
    have hf := h0 d (List.mem_of_getElem? hd)
    (refine Gol.skip ?_; refine thn_n ?_; refine Gol.seq ?_; refine Gol.block ?_; refine Gol.seq ?_
     apply Gol.region; apply Trc.stp rfl rfl rfl; apply s_move; exact rfl; dsimp only [Nat.reduceAdd, Nat.reduceMul, List.nil_append]
     apply Trc.stp rfl rfl rfl; apply s_assign; exact rfl; dsimp only [Nat.reduceAdd, Nat.reduceMul, List.nil_append]
     exact Trc.done _ _ _; exact rfl; refine thn_n ?_; refine Gol.seq ?_; apply Gol.region; apply Trc.stp rfl rfl rfl; apply s_move; exact rfl; dsimp only [Nat.reduceAdd, Nat.reduceMul, List.nil_append]
     apply Trc.stp rfl rfl rfl; apply s_move; exact rfl; dsimp only [Nat.reduceAdd, Nat.reduceMul, List.nil_append]
     apply Trc.stp rfl rfl rfl; apply s_move; exact rfl; dsimp only [Nat.reduceAdd, Nat.reduceMul, List.nil_append]
     apply Trc.stp rfl rfl rfl; apply s_ixe; exact rfl; exact rfl; omega; exact ds_ne (by omega); dsimp only [Nat.reduceAdd, Nat.reduceMul, List.nil_append]
     apply Trc.stp rfl rfl rfl; apply s_loadEN; exact rfl; simp only [byA_length, List.length_append, List.length_cons, List.length_nil, List.length_take, List.length_drop, List.length_replicate, List.length_map, Nat.mul_one, nameB_length, flat_length, List.length_set, inA_length, dsA_length, lsA_length, dA_length, lA_length] <;> omega
     exact agu_d (by assumption); dsimp only [Nat.reduceAdd, Nat.reduceMul, List.nil_append]
     apply Trc.stp rfl rfl rfl; apply s_callC rfl; assumption; apply evs.cons rfl; exact evs.nil; dsimp only [List.cons_append, List.nil_append]
     apply ArgL.cons; exact arg_clo; exact ArgL.clos; exact hf; exact Nat.le_of_ble_eq_true rfl; dsimp only [Nat.reduceAdd, Nat.reduceMul, Nat.reduceSub, List.nil_append, List.cons_append, nbk, List.map_cons, List.map_nil]
     exact Trc.done _ _ _; exact rfl; refine thn_n ?_)
    refine Gol.cond rfl (fun h => ?_) (fun h => ?_)
    · rw [← h2, fIx_hit hd h]
      (refine Gol.seq ?_; apply Gol.region; apply Trc.stp rfl rfl rfl; apply s_move; exact rfl
       dsimp only [Nat.reduceAdd, Nat.reduceMul, List.nil_append]; apply Trc.stp rfl rfl rfl; apply s_assign; exact rfl; dsimp only [Nat.reduceAdd, Nat.reduceMul, List.nil_append]
       exact Trc.done _ _ _; exact rfl; refine thn_n ?_; refine Gol.ret ?_; refine inBlk_r ?_; refine thn_r ?_
       refine rnd_r ?_; refine inBlk_r ?_; refine thn_r ?_)
      (apply RetQ.mk (by first | exact .inr rfl | exact .inl rfl); apply res_1 rfl; exact res_tmp rfl; exact out_val)
    · (refine Gol.skip ?_; refine inBlk_n ?_; refine thn_n ?_; apply Gol.region; apply Trc.stp rfl rfl rfl; apply s_addn; exact rfl; exact rfl; simp <;> omega; dsimp only [Nat.reduceAdd, Nat.reduceMul, List.nil_append]
       apply Trc.stp rfl rfl rfl; apply s_move; exact rfl; dsimp only [Nat.reduceAdd, Nat.reduceMul, List.nil_append]
       exact Trc.done _ _ _; exact rfl)
      refine rnd_n (i + 1) ⟨by omega, by rw [← h2, fIx_miss hd h]⟩ (by omega) ?_
      (apply Le.mk' []; apply RnT.c; exact rfl; exact Rn.v rfl; apply RnT.c; exact rfl; exact Rn.v rfl; apply RnT.c; exact rfl; exact Rn.clo inferInstance rfl
       apply RnT.c; exact rfl; exact Rn.clo inferInstance rfl; exact RnT.n; exact RnH.n; exact rfl)
  · have hge : ¬ i < l.length := of_decide_eq_false h
    rw [List.drop_of_length_le (by omega)] at h2
    rw [← h2]
    (refine Gol.exit ?_; refine thn_x ?_; refine rnd_x ?_; refine inBlk_hit ?_; refine thn_n ?_
     refine Gol.seq ?_; apply Gol.region; apply Trc.stp rfl rfl rfl; apply s_assign; exact rfl
     dsimp only [Nat.reduceAdd, Nat.reduceMul, List.nil_append]; exact Trc.done _ _ _; exact rfl
     refine thn_n ?_; refine Gol.ret ?_)
    (apply RetQ.mk (by first | exact .inr rfl | exact .inl rfl); apply res_1 rfl; exact res_tmp rfl; exact out_val)
def eqC (k i : Int) (n : UInt64) (d : Dl) : Bool := decide (d.k = k ∧ d.i = i ∧ d.n = n)
theorem find1_ok (d : Dl) (k i : Int) (n : UInt64) : Fresh Tryz.prog 75 [.v (.agg (deltaC d.k d.i d.n d.a)), .ep (cu (.v (.agg (cellC k i n))))] (fun _ => .v (.bool (eqC k i n d))) [] := by
  refine Fresh.of (fn := Tryz.f75) Tryz.func75 rfl (Nat.le_of_ble_eq_true rfl) fun w => ?_
  (refine Gol.seq ?_; apply Gol.region; apply Trc.stp rfl rfl rfl; apply s_box; exact rfl
   exact rfl; dsimp only [Nat.reduceAdd, Nat.reduceMul, Nat.reduceSub, List.nil_append, List.cons_append, nbk, List.map_cons, List.map_nil]; apply Trc.stp rfl rfl rfl; apply s_assign; exact rfl; dsimp only [Nat.reduceAdd, Nat.reduceMul, List.nil_append]
   exact Trc.done _ _ _; exact rfl; refine thn_n ?_; refine Gol.seq ?_; apply Gol.region; apply Trc.stp rfl rfl rfl; apply s_fieldAddr; exact rfl; dsimp only [Nat.reduceAdd, Nat.reduceMul, List.nil_append]
   apply Trc.stp rfl rfl rfl; apply s_loadN; exact rfl; exact rfl; exact Nat.le_of_ble_eq_true rfl; exact agu_cell rfl; dsimp only [Nat.reduceAdd, Nat.reduceMul, List.nil_append]
   apply Trc.stp rfl rfl rfl; apply s_loadEN; exact rfl; exact Nat.le_of_ble_eq_true rfl; exact agu_cell rfl; dsimp only [Nat.reduceAdd, Nat.reduceMul, List.nil_append]
   apply Trc.stp rfl rfl rfl; apply s_eqR; exact rfl; exact rfl; exact inferInstance; dsimp only [Nat.reduceAdd, Nat.reduceMul, List.nil_append]
   apply Trc.stp rfl rfl rfl; apply s_assign; exact rfl; dsimp only [Nat.reduceAdd, Nat.reduceMul, List.nil_append]
   exact Trc.done _ _ _; exact rfl; refine thn_n ?_; refine Gol.ret ?_)
  (apply RetQ.mk (by first | exact .inr rfl | exact .inl rfl); apply res_1 rfl; exact res_tmp rfl; exact out_val)
theorem find_ok (s : Stt) (k i : Int) (n : UInt64) (hl : s.cells.length ≤ 140737488355000) : Fresh Tryz.prog 33 [stA s, .v (.agg (cellC k i n))] (fun _ => .v (.int .i64 (fIx (eqC k i n) s.cells 0))) [] := by
  unfold stA
  refine Fresh.of (fn := Tryz.f33) Tryz.func33 rfl (Nat.le_of_ble_eq_true rfl) fun w => ?_
  (refine Gol.seq ?_; apply Gol.region; apply Trc.stp rfl rfl rfl; apply s_box; exact rfl
   exact rfl; dsimp only [Nat.reduceAdd, Nat.reduceMul, Nat.reduceSub, List.nil_append, List.cons_append, nbk, List.map_cons, List.map_nil]; apply Trc.stp rfl rfl rfl; apply s_box; exact rfl; exact rfl; dsimp only [Nat.reduceAdd, Nat.reduceMul, Nat.reduceSub, List.nil_append, List.cons_append, nbk, List.map_cons, List.map_nil]
   apply Trc.stp rfl rfl rfl; apply s_assign; exact rfl; dsimp only [Nat.reduceAdd, Nat.reduceMul, List.nil_append]
   exact Trc.done _ _ _; exact rfl; refine thn_n ?_; refine Gol.seq ?_; apply Gol.region; apply Trc.stp rfl rfl rfl; apply s_fieldAddr; exact rfl; dsimp only [Nat.reduceAdd, Nat.reduceMul, List.nil_append]
   apply Trc.stp rfl rfl rfl; apply s_load; exact rfl; exact rfl; exact rfl; dsimp only [Nat.reduceAdd, Nat.reduceMul, List.nil_append]
   apply Trc.stp rfl rfl rfl; apply s_mkf; apply evs.cons rfl; exact evs.nil; dsimp only [Nat.reduceAdd, Nat.reduceMul, List.nil_append]
   apply Trc.stp rfl rfl rfl; apply s_call (f := 74) rfl; apply evs.cons rfl
   apply evs.cons rfl; exact evs.nil; apply ArgL.cons; exact arg_clo; apply ArgL.cons; apply arg_fn; apply ArgL.cons; exact arg_pt0 rfl; exact ArgL.nil; exact ArgL.nil
   exact idxD_ok s.cells _ _ _ (eqC k i n) hl (fun d _ => find1_ok d k i n); exact Nat.le_of_ble_eq_true rfl; dsimp only [Nat.reduceAdd, Nat.reduceMul, Nat.reduceSub, List.nil_append, List.cons_append, nbk, List.map_cons, List.map_nil]
   apply Trc.stp rfl rfl rfl; apply s_assign; exact rfl; dsimp only [Nat.reduceAdd, Nat.reduceMul, List.nil_append]
   exact Trc.done _ _ _; exact rfl; refine thn_n ?_; refine Gol.ret ?_)
  (apply RetQ.mk (by first | exact .inr rfl | exact .inl rfl); apply res_1 rfl; exact res_tmp rfl; exact out_val)
end Go.Proofs.YtkkeeokeihkagaaGreat


/-
  The program logic: bytes of a constant string, remainders, contracts at other arguments. No condition.
-/
namespace Go.Proofs.YtkkeeokeihkagaaGreat
open Go.RowKit

/-- own block b is given up; it may have been marked -/
theorem Sta.drop {w0 : World} {M : Nat → Prop} {H : AH} {E : Env} (h : Sta w0 M H E) {b : Nat} {blk : ABlk} {g : Nat} (hb : hk H b = some blk) (hg : (E.L b).g = some g) (w' : World) (hsz : w'.heap.size = E.w.heap.size) (hkeep : ∀ g', g' ≠ g → w'.heap[g']? = E.w.heap[g']?)
    (ho : w'.os = E.w.os) (ht : w'.tape = E.w.tape) (hp : w'.output = E.w.output) :
    Sta w0 M ((b, none) :: H) { E with w := w', S := fun g' => E.S g' ∧ g' ≠ g } ∧ E.le { E with w := w', S := fun g' => E.S g' ∧ g' ≠ g } := by
  have hSg : E.S g := (h.seq g).2 ⟨b, blk, hb, hg⟩
  have hle : E.le { E with w := w', S := fun g' => E.S g' ∧ g' ≠ g } := ⟨by simp [hsz], fun g' _ hS => hkeep g' (fun e => hS (e ▸ hSg)), fun _ _ h => h.1, fun _ h => ⟨h, rfl⟩⟩
  obtain ⟨o1, o2, o3⟩ := h.own b blk hb
  have hno : ∀ b' blk', hk ((b, none) :: H) b' = some blk' → b' ≠ b ∧ hk H b' = some blk' := by
    intro b' blk' hb'
    rw [hk_cons] at hb'
    split at hb'
    · cases hb'
    · rename_i e; exact ⟨fun e' => e e'.symm, hb'⟩
  refine ⟨⟨ho.trans h.os, ht.trans h.tape, hp.trans h.output, by simp only [hsz]; exact h.size, fun g' hg' hM => ?_, fun g' => ⟨?_, ?_⟩, ?_, ?_⟩, hle⟩
  · refine (hkeep g' (fun e => ?_)).trans (h.frame g' hg' hM)
    subst e
    rcases o2 g' hg with h' | h'
    · omega
    · exact hM h'
  · rintro ⟨hS, hne⟩
    obtain ⟨b', blk', hb', e⟩ := (h.seq g').1 hS
    refine ⟨b', blk', ?_, e⟩
    rw [hk_cons, if_neg (fun q => hne ?_)]
    · exact hb'
    · subst q; rw [hg] at e; injection e with e; exact e.symm
  · rintro ⟨b', blk', hb', e⟩
    obtain ⟨hne, hb''⟩ := hno b' blk' hb'
    exact ⟨(h.seq g').2 ⟨b', blk', hb'', e⟩, fun q => hne (h.inj b' b blk' blk g' hb'' hb e (by rw [hg, q]))⟩
  · intro b' blk' hb'
    obtain ⟨hne, hb''⟩ := hno b' blk' hb'
    obtain ⟨p1, p2, p3⟩ := h.own b' blk' hb''
    exact ⟨p1, p2, p3.mono hle (fun g' e => hkeep g' (fun q => hne (h.inj b' b blk' blk g' hb'' hb e (by rw [hg, q]))))⟩
  · intro b1 b2 k1 k2 g' h1 h2 e1 e2
    exact h.inj b1 b2 k1 k2 g' (hno b1 k1 h1).2 (hno b2 k2 h2).2 e1 e2
section
variable {P : Program} {k : Nat} {H : AH} {T : AT} {d : Option Tmp} {ty t t' : TypeId} {ps : String} {af : Array Edge} {gd : Option (Nat × Bool)} {x y : Operand}
/-- s[l:h:m] of memory that nobody changes -/
theorem s_slEM {lo hi : Option Operand} {mx : Operand} {n l h m size bytes : Nat} {f : Bool} {cs : List AV} {e : TypeId} {z : Value} [hS : SI P t e size bytes z] (hx : ev T x = some (.ex n f cs)) (hlo : Bnd T lo l 0) (hhi : Bnd T hi h n) (hmx : Bnd T (some mx) m 0) (hhn : hi.isSome = true) (h1 : l ≤ h) (h2 : h ≤ m) (h3 : m ≤ n) (hl : cs.length = n * size) :
    StepU P ⟨d, .slice t x lo hi (some mx), ty, ps, af, gd⟩ k [] H T (.ex (h - l) false ((cs.drop (l * size)).take ((h - l) * size))) [] :=
  .of_pure fun _ _ _ E a hs hU hT => by
    have hv := hT x (by simp [Op.operands]) _ hx
    have b1 := bnd_map (E := E) (a := a) hlo (l := (Op.slice t x lo hi (some mx)).operands.toList) (fun y hy => by subst hy; simp [Op.operands]) (fun y hy => hT y (by simpa using hy))
    have b2 := bnd_map (E := E) (a := a) hhi (l := (Op.slice t x lo hi (some mx)).operands.toList) (fun y hy => by subst hy; simp [Op.operands]) (fun y hy => hT y (by simpa using hy))
    have b3 := bnd_map (E := E) (a := a) hmx (l := (Op.slice t x lo hi (some mx)).operands.toList) (fun y hy => by injection hy with hy; subst hy; simp [Op.operands]) (fun y hy => hT y (by simpa using hy))
    have key : ∀ (A : Option Addr) (c : Nat), n ≤ c → a.eval x = .slice A n c → (execOp a.eval ⟨d, .slice t x lo hi (some mx), ty, ps, af, gd⟩).run P E.w = .ok (.value (.slice (if m = l then A else A.map (·.add (l * size))) (h - l) (m - l))) E.w := by
      intro A c hc hv'
      have hr := run_bounds (P := P) (isS := true) (len := n) (cap := c) (l := l) (h := h) (m := m) (lo := lo.map a.eval) (hi := hi.map a.eval) (mx := some (a.eval mx)) E.w b1
        b2 (by cases hi with
            | none => cases hhn
            | some y => exact fun h => by cases h) b3 h1 h2 (by omega)
      have := run_sliceSlice (P := P) (t := t) (isN := false) E.w A n c l h m hr
      simp only [execOp, hv', Sem.run_bind, Sem.run_pure, Option.map_some, this, Result.andThen_ok]
    generalize hy : a.eval x = v at hv
    cases hv with
    | ex0 n full A c hn hf =>
      refine ⟨_, key A c hn hy, ?_⟩
      simp only [List.drop_nil, List.take_nil]
      exact .ex0 _ _ _ _ (by omega) (fun h => by cases h)
    | ex n full cs g o c xs hn hf hg hS' hl' hx' h' =>
      refine ⟨_, key _ c hn hy, ?_⟩
      by_cases hz : (cs.drop (l * size)).take ((h - l) * size) = []
      · rw [hz]; exact .ex0 _ _ _ _ (by omega) (fun h => by cases h)
      · have hlh : l < h := by
          rcases Nat.lt_or_ge l h with h'' | h''
          · exact h''
          · exact absurd (by rw [show h - l = 0 by omega]; simp) hz
        rw [if_neg (by omega), Option.map_some, addr_at]
        have hR : RVs E ((cs.drop (l * size)).take ((h - l) * size)) ((xs.drop (l * size)).take ((h - l) * size)) := (RVs.drop ⟨hl', h'⟩ _).take _
        refine .ex _ _ _ g (o + l * size) _ ((xs.drop (l * size)).take ((h - l) * size)) (by omega) (fun h => by cases h) hg hS' hR.1 (fun j y hj => ?_) hR.2
        rw [List.getElem?_take] at hj
        split at hj
        · rw [List.getElem?_drop] at hj; rw [Nat.add_assoc]; exact hx' _ y hj
        · cases hj
end
/-! contracts at other arguments -/
theorem Fresh.sub {P : Program} {f : FuncId} {cs ds : List AV} {v : Nat → AV} {bs : List ABlk} (h : Fresh P f cs v bs) (hs : ∀ E xs, RVs E ds xs → RVs E cs xs) : Fresh P f ds v bs := fun E0 xs hS hD hx => h E0 xs hS hD (hs E0 xs hx)
theorem rv_nil {E : Env} {f : Bool} {x : Value} (h : RV E (.v (.slice none 0 0)) x) : RV E (.ex 0 f []) x := by
  rw [h.v_inv]; exact .ex0 0 f none 0 (Nat.le_refl _) (fun _ => rfl)
theorem sub_nil {f : Bool} {us : List AV} (E : Env) (xs : List Value) (h : RVs E (.v (.slice none 0 0) :: us) xs) : RVs E (.ex 0 f [] :: us) xs := by
  obtain ⟨x, ys, rfl, h1, h2⟩ := h.cons_inv
  exact RVs.cons (rv_nil h1) h2
theorem sub_nil2 {f : Bool} {u : AV} {us : List AV} (E : Env) (xs : List Value) (h : RVs E (u :: .v (.slice none 0 0) :: us) xs) : RVs E (u :: .ex 0 f [] :: us) xs := by
  obtain ⟨x, ys, rfl, h1, h2⟩ := h.cons_inv
  exact RVs.cons h1 (sub_nil E ys h2)
end Go.Proofs.YtkkeeokeihkagaaGreat


/-
  The program logic: append onto an own slice, the bound on bytes wide. No condition.
-/
namespace Go.Proofs.YtkkeeokeihkagaaGreat
open Go.RowKit
section
variable {P : Program} {t e : TypeId} {size bytes : Nat} {z : Value}
end
section
variable {P : Program} {t e : TypeId} {size bytes : Nat} {z : Value} {k : Nat} {H : AH} {T : AT} {d : Option Tmp} {ty : TypeId} {ps : String} {af : Array Edge} {gd : Option (Nat × Bool)}
end
end Go.Proofs.YtkkeeokeihkagaaGreat


/-
  Layer 3, merkle, and the reference: split, Depth, Root. Conditions: lengths below 2^47.
-/
namespace Go.Proofs.YtkkeeokeihkagaaGreat
open Go.RowKit

def spl2 (n k : Nat) : Nat := if k < n - k ∧ 0 < k then spl2 n (2 * k) else k
termination_by n - k
decreasing_by omega
def splitN (n : Nat) : Nat := spl2 n 1
theorem spl2_step {n k : Nat} (h : k < n - k) (h0 : 0 < k) : spl2 n k = spl2 n (2 * k) := by rw [spl2, if_pos ⟨h, h0⟩]
theorem spl2_end {n k : Nat} (h : ¬ k < n - k) : spl2 n k = k := by rw [spl2, if_neg (fun q => h q.1)]
theorem spl2_bd (n : Nat) : ∀ (m k : Nat), n - k ≤ m → 0 < k → k < n → 0 < spl2 n k ∧ spl2 n k < n ∧ n ≤ 2 * spl2 n k := by
  intro m
  induction m with
  | zero => intro k h h0 hk; omega
  | succ m ih =>
    intro k h h0 hk
    by_cases hc : k < n - k
    · rw [spl2_step hc h0]; exact ih (2 * k) (by omega) (by omega) (by omega)
    · rw [spl2_end hc]; exact ⟨h0, hk, by omega⟩
theorem split_bd (n : Nat) (h : 2 ≤ n) : 0 < splitN n ∧ splitN n < n ∧ n ≤ 2 * splitN n := spl2_bd n n 1 (by omega) (by decide) (by omega)
theorem split_ok (n : Nat) (h : 1 ≤ n) (hb : n ≤ 9223372036854775807) : Fresh Tryz.prog 104 [.v (.int .i64 (n : Int))] (fun _ => .v (.int .i64 (splitN n : Int))) [] := by
  refine Fresh.of (fn := Tryz.f104) Tryz.func104 rfl (Nat.le_of_ble_eq_true rfl) fun w => ?_
  (refine Gol.seq ?_; apply Gol.region; apply Trc.stp rfl rfl rfl; apply s_assign; exact rfl
   dsimp only [Nat.reduceAdd, Nat.reduceMul, List.nil_append]; exact Trc.done _ _ _; exact rfl
   refine thn_n ?_; refine Gol.seq ?_; apply Gol.region; apply Trc.stp rfl rfl rfl; apply s_assign
   exact rfl; dsimp only [Nat.reduceAdd, Nat.reduceMul, List.nil_append]; exact Trc.done _ _ _
   exact rfl; refine thn_n ?_; refine Gol.seq ?_; refine Gol.block ?_)
  refine Gol.loop (ι := Nat) (fun k => 0 < k ∧ k ≤ n ∧ spl2 n k = splitN n) (fun k => n - k) 8 (fun k => []) (fun k => [(3, .v (.int .i64 (k : Int))), (0, .v (.int .i64 (n : Int)))]) 1 ⟨by decide, h, rfl⟩ ?_ ?_
  · (apply Le.mk' []; apply RnT.c; exact rfl; exact Rn.v rfl; apply RnT.c; exact rfl; exact Rn.v rfl; exact RnT.n; exact RnH.n; exact rfl)
  rintro k ⟨h0, h1, h2⟩
  (refine Gol.seq ?_; refine Gol.seq ?_; apply Gol.region; apply Trc.stp rfl rfl rfl; apply s_move
   exact rfl; dsimp only [Nat.reduceAdd, Nat.reduceMul, List.nil_append]; apply Trc.stp rfl rfl rfl; apply s_move; exact rfl; dsimp only [Nat.reduceAdd, Nat.reduceMul, List.nil_append]
   apply Trc.stp rfl rfl rfl; apply s_move; exact rfl; dsimp only [Nat.reduceAdd, Nat.reduceMul, List.nil_append]
   apply Trc.stp rfl rfl rfl; apply s_subn; exact rfl; exact rfl; omega; omega; dsimp only [Nat.reduceAdd, Nat.reduceMul, Nat.reduceSub, List.nil_append, List.cons_append, nbk, List.map_cons, List.map_nil]
   apply Trc.stp rfl rfl rfl; apply s_ltn; exact rfl; exact rfl; dsimp only [Nat.reduceAdd, Nat.reduceMul, List.nil_append]
   exact Trc.done _ _ _; exact rfl; refine thn_n ?_)
  refine Gol.cond rfl (fun h => ?_) (fun h => ?_)
  · have hlt : k < n - k := of_decide_eq_true h
    (refine Gol.skip ?_; refine thn_n ?_; refine Gol.block ?_; apply Gol.region; apply Trc.stp rfl rfl rfl; apply s_move; exact rfl; dsimp only [Nat.reduceAdd, Nat.reduceMul, List.nil_append]
     apply Trc.stp rfl rfl rfl; apply s_muln; exact rfl; exact rfl; simp <;> omega; dsimp only [Nat.reduceAdd, Nat.reduceMul, Nat.reduceSub, List.nil_append, List.cons_append, nbk, List.map_cons, List.map_nil]
     apply Trc.stp rfl rfl rfl; apply s_assign; exact rfl; dsimp only [Nat.reduceAdd, Nat.reduceMul, List.nil_append]
     exact Trc.done _ _ _; exact rfl; refine inBlk_n ?_)
    refine rnd_n (2 * k) ⟨by omega, by omega, by rw [← h2, spl2_step hlt h0]⟩ (by omega) ?_
    (apply Le.mk' []; apply RnT.c; exact rfl; apply Rn.v; congr 1; omega; apply RnT.c; exact rfl; exact Rn.v rfl; exact RnT.n; exact RnH.n; exact rfl)
  · have hge : ¬ k < n - k := of_decide_eq_false h
    rw [← h2, spl2_end hge]
    (refine Gol.exit ?_; refine thn_x ?_; refine rnd_x ?_; refine inBlk_hit ?_; refine thn_n ?_
     refine Gol.seq ?_; apply Gol.region; apply Trc.stp rfl rfl rfl; apply s_move; exact rfl
     dsimp only [Nat.reduceAdd, Nat.reduceMul, List.nil_append]; apply Trc.stp rfl rfl rfl; apply s_assign; exact rfl; dsimp only [Nat.reduceAdd, Nat.reduceMul, List.nil_append]
     exact Trc.done _ _ _; exact rfl; refine thn_n ?_; refine Gol.ret ?_)
    (apply RetQ.mk (by first | exact .inr rfl | exact .inl rfl); apply res_1 rfl; exact res_tmp rfl; exact out_val)
def depN (i n : Nat) : Nat := if h : 2 ≤ n then (if i < splitN n then depN i (splitN n) + 1 else depN (i - splitN n) (n - splitN n) + 1) else 0
termination_by n
decreasing_by
  · exact (split_bd n h).2.1
  · have := split_bd n h; omega
theorem dep_lo {i n : Nat} (h : 2 ≤ n) (hi : i < splitN n) : depN i n = depN i (splitN n) + 1 := by rw [depN, dif_pos h, if_pos hi]
theorem dep_hi {i n : Nat} (h : 2 ≤ n) (hi : ¬ i < splitN n) : depN i n = depN (i - splitN n) (n - splitN n) + 1 := by rw [depN, dif_pos h, if_neg hi]
theorem dep_one {i n : Nat} (h : ¬ 2 ≤ n) : depN i n = 0 := by rw [depN, dif_neg h]
theorem dep_lt : ∀ (n i : Nat), 1 ≤ n → depN i n + 1 ≤ n := by
  intro n
  induction n using Nat.strongRecOn with
  | _ n ih =>
    intro i h
    by_cases h2 : 2 ≤ n
    · have := split_bd n h2
      by_cases hi : i < splitN n
      · rw [dep_lo h2 hi]; have := ih _ this.2.1 i (by omega); omega
      · rw [dep_hi h2 hi]; have := ih (n - splitN n) (by omega) (i - splitN n) (by omega); omega
    · rw [dep_one h2]; omega
theorem depth_no (i n : Int) (h : ¬ (0 ≤ i ∧ i < n)) : Fresh Tryz.prog 109 [.v (.int .i64 i), .v (.int .i64 n)] (fun _ => .v (.int .i64 (-1))) [] := by
  by_cases h0 : i < 0
  · refine Fresh.of (fn := Tryz.f109) Tryz.func109 rfl (Nat.le_of_ble_eq_true rfl) fun w => ?_
    (refine Gol.seq ?_; apply Gol.region; apply Trc.stp rfl rfl rfl; apply s_assign; exact rfl
     dsimp only [Nat.reduceAdd, Nat.reduceMul, List.nil_append]; exact Trc.done _ _ _; exact rfl
     refine thn_n ?_; refine Gol.seq ?_; refine Gol.seq ?_; apply Gol.region; apply Trc.stp rfl rfl rfl; apply s_move; exact rfl; dsimp only [Nat.reduceAdd, Nat.reduceMul, List.nil_append]
     apply Trc.stp rfl rfl rfl; apply s_lt; exact rfl; exact rfl; dsimp only [Nat.reduceAdd, Nat.reduceMul, List.nil_append]
     apply Trc.stp rfl rfl rfl; apply s_move; exact rfl; dsimp only [Nat.reduceAdd, Nat.reduceMul, List.nil_append]
     apply Trc.skip rfl rfl; apply wnt_g; exact rfl; exact rfl; exact rfl; (focus (simp only [*]; rfl)); dsimp only [Nat.reduceAdd, Nat.reduceMul, List.nil_append]
     apply Trc.skip rfl rfl; apply wnt_g; exact rfl; exact rfl; exact rfl; (focus (simp only [*]; rfl)); dsimp only [Nat.reduceAdd, Nat.reduceMul, List.nil_append]
     apply Trc.skip rfl rfl; apply wnt_g; exact rfl; exact rfl; exact rfl; (focus (simp only [*]; rfl)); dsimp only [Nat.reduceAdd, Nat.reduceMul, List.nil_append]
     apply Trc.stp rfl rfl rfl; apply s_pick_t; exact rfl; (focus (simp only [*]; rfl)); exact rfl; dsimp only [Nat.reduceAdd, Nat.reduceMul, List.nil_append]
     exact Trc.done _ _ _; exact rfl; refine thn_n ?_)
    refine Gol.cond_t rfl (by simp [h0]) ?_
    (refine Gol.seq ?_; apply Gol.region; apply Trc.stp rfl rfl rfl; apply s_assign; exact rfl
     dsimp only [Nat.reduceAdd, Nat.reduceMul, List.nil_append]; exact Trc.done _ _ _; exact rfl
     refine thn_n ?_; refine Gol.ret ?_; refine thn_r ?_)
    (apply RetQ.mk (by first | exact .inr rfl | exact .inl rfl); apply res_1 rfl; exact res_tmp rfl; exact out_val)
  · have h1 : n ≤ i := by omega
    refine Fresh.of (fn := Tryz.f109) Tryz.func109 rfl (Nat.le_of_ble_eq_true rfl) fun w => ?_
    (refine Gol.seq ?_; apply Gol.region; apply Trc.stp rfl rfl rfl; apply s_assign; exact rfl
     dsimp only [Nat.reduceAdd, Nat.reduceMul, List.nil_append]; exact Trc.done _ _ _; exact rfl
     refine thn_n ?_; refine Gol.seq ?_; refine Gol.seq ?_; apply Gol.region; apply Trc.stp rfl rfl rfl; apply s_move; exact rfl; dsimp only [Nat.reduceAdd, Nat.reduceMul, List.nil_append]
     apply Trc.stp rfl rfl rfl; apply s_lt; exact rfl; exact rfl; dsimp only [Nat.reduceAdd, Nat.reduceMul, List.nil_append]
     apply Trc.stp rfl rfl rfl; apply s_move; exact rfl; dsimp only [Nat.reduceAdd, Nat.reduceMul, List.nil_append]
     apply Trc.step rfl rfl; apply wnt_g; exact rfl; exact rfl; exact rfl; (focus (simp only [*]; rfl)); apply s_move; exact rfl; dsimp only [Nat.reduceAdd, Nat.reduceMul, List.nil_append]
     apply Trc.step rfl rfl; apply wnt_g; exact rfl; exact rfl; exact rfl; (focus (simp only [*]; rfl)); apply s_move; exact rfl; dsimp only [Nat.reduceAdd, Nat.reduceMul, List.nil_append]
     apply Trc.step rfl rfl; apply wnt_g; exact rfl; exact rfl; exact rfl; (focus (simp only [*]; rfl)); apply s_ge; exact rfl; exact rfl
     dsimp only [Nat.reduceAdd, Nat.reduceMul, List.nil_append]; apply Trc.stp rfl rfl rfl; apply s_pick_f; exact rfl; (focus (simp only [*]; rfl)); exact rfl; dsimp only [Nat.reduceAdd, Nat.reduceMul, List.nil_append]
     exact Trc.done _ _ _; exact rfl; refine thn_n ?_)
    refine Gol.cond_t rfl (decide_eq_true h1) ?_
    (refine Gol.seq ?_; apply Gol.region; apply Trc.stp rfl rfl rfl; apply s_assign; exact rfl
     dsimp only [Nat.reduceAdd, Nat.reduceMul, List.nil_append]; exact Trc.done _ _ _; exact rfl
     refine thn_n ?_; refine Gol.ret ?_; refine thn_r ?_)
    (apply RetQ.mk (by first | exact .inr rfl | exact .inl rfl); apply res_1 rfl; exact res_tmp rfl; exact out_val)
theorem depth_yes (i n : Nat) (h : i < n) (hb : n ≤ 9223372036854775807) : Fresh Tryz.prog 109 [.v (.int .i64 (i : Int)), .v (.int .i64 (n : Int))] (fun _ => .v (.int .i64 (depN i n : Int))) [] := by
  have h0 : ¬ ((i : Int) < 0) := by omega
  have h1 : ¬ (n ≤ i) := by omega
  refine Fresh.of (fn := Tryz.f109) Tryz.func109 rfl (Nat.le_of_ble_eq_true rfl) fun w => ?_
  (refine Gol.seq ?_; apply Gol.region; apply Trc.stp rfl rfl rfl; apply s_assign; exact rfl
   dsimp only [Nat.reduceAdd, Nat.reduceMul, List.nil_append]; exact Trc.done _ _ _; exact rfl
   refine thn_n ?_; refine Gol.seq ?_; refine Gol.seq ?_; apply Gol.region; apply Trc.stp rfl rfl rfl; apply s_move; exact rfl; dsimp only [Nat.reduceAdd, Nat.reduceMul, List.nil_append]
   apply Trc.stp rfl rfl rfl; apply s_ltn; exact rfl; exact rfl; dsimp only [Nat.reduceAdd, Nat.reduceMul, List.nil_append]
   apply Trc.stp rfl rfl rfl; apply s_move; exact rfl; dsimp only [Nat.reduceAdd, Nat.reduceMul, List.nil_append]
   apply Trc.step rfl rfl; apply wnt_g; exact rfl; exact rfl; exact rfl; rfl; apply s_move; exact rfl; dsimp only [Nat.reduceAdd, Nat.reduceMul, List.nil_append]
   apply Trc.step rfl rfl; apply wnt_g; exact rfl; exact rfl; exact rfl; rfl; apply s_move; exact rfl; dsimp only [Nat.reduceAdd, Nat.reduceMul, List.nil_append]
   apply Trc.step rfl rfl; apply wnt_g; exact rfl; exact rfl; exact rfl; rfl; apply s_gen; exact rfl; exact rfl; dsimp only [Nat.reduceAdd, Nat.reduceMul, List.nil_append]
   apply Trc.stp rfl rfl rfl; apply s_pick_f; exact rfl; rfl; exact rfl; dsimp only [Nat.reduceAdd, Nat.reduceMul, List.nil_append]
   exact Trc.done _ _ _; exact rfl; refine thn_n ?_)
  refine Gol.cond_f rfl (decide_eq_false h1) ?_
  (refine Gol.skip ?_; refine thn_n ?_; refine Gol.seq ?_; apply Gol.region; apply Trc.stp rfl rfl rfl; apply s_assign; exact rfl; dsimp only [Nat.reduceAdd, Nat.reduceMul, List.nil_append]
   exact Trc.done _ _ _; exact rfl; refine thn_n ?_; refine Gol.seq ?_; refine Gol.block ?_)
  refine Gol.loop (ι := Nat × Nat × Nat) (fun x => x.1 < x.2.1 ∧ x.2.1 ≤ n ∧ x.2.2 + depN x.1 x.2.1 = depN i n) (fun x => x.2.1) 72 (fun x => []) (fun x => [(5, .v (.int .i64 (x.2.2 : Int))), (0, .v (.int .i64 (x.1 : Int))), (1, .v (.int .i64 (x.2.1 : Int)))]) (i, n, 0) ⟨h, Nat.le_refl _, Nat.zero_add _⟩ ?_ ?_
  · (apply Le.mk' []; apply RnT.c; exact rfl; exact Rn.v rfl; apply RnT.c; exact rfl; exact Rn.v rfl; apply RnT.c; exact rfl; exact Rn.v rfl; exact RnT.n; exact RnH.n
     exact rfl)
  rintro ⟨j, m, d⟩ ⟨g1, g2, g3⟩
  dsimp only at g1 g2 g3 ⊢
  have hd := dep_lt n i (by omega)
  (refine Gol.seq ?_; refine Gol.seq ?_; apply Gol.region; apply Trc.stp rfl rfl rfl; apply s_move
   exact rfl; dsimp only [Nat.reduceAdd, Nat.reduceMul, List.nil_append]; apply Trc.stp rfl rfl rfl; apply s_gtn; exact rfl; exact rfl; dsimp only [Nat.reduceAdd, Nat.reduceMul, List.nil_append]
   exact Trc.done _ _ _; exact rfl; refine thn_n ?_)
  refine Gol.cond rfl (fun hc => ?_) (fun hc => ?_)
  · have h2 : 2 ≤ m := of_decide_eq_true hc
    have hsp := split_bd m h2
    (refine Gol.skip ?_; refine thn_n ?_; refine Gol.block ?_; refine Gol.seq ?_; apply Gol.region
     apply Trc.stp rfl rfl rfl; apply s_move; exact rfl; dsimp only [Nat.reduceAdd, Nat.reduceMul, List.nil_append]
     apply Trc.stp rfl rfl rfl; apply s_call (f := 104) rfl; apply evs.cons rfl; exact evs.nil; apply ArgL.cons; exact arg_clo
     exact ArgL.nil; exact split_ok m (by omega) (by omega); exact Nat.le_of_ble_eq_true rfl; dsimp only [Nat.reduceAdd, Nat.reduceMul, Nat.reduceSub, List.nil_append, List.cons_append, nbk, List.map_cons, List.map_nil]
     apply Trc.stp rfl rfl rfl; apply s_assign; exact rfl; dsimp only [Nat.reduceAdd, Nat.reduceMul, List.nil_append]
     exact Trc.done _ _ _; exact rfl; refine thn_n ?_; refine Gol.seq ?_; refine Gol.seq ?_; apply Gol.region
     apply Trc.stp rfl rfl rfl; apply s_move; exact rfl; dsimp only [Nat.reduceAdd, Nat.reduceMul, List.nil_append]
     apply Trc.stp rfl rfl rfl; apply s_move; exact rfl; dsimp only [Nat.reduceAdd, Nat.reduceMul, List.nil_append]
     apply Trc.stp rfl rfl rfl; apply s_ltn; exact rfl; exact rfl; dsimp only [Nat.reduceAdd, Nat.reduceMul, List.nil_append]
     exact Trc.done _ _ _; exact rfl; refine thn_n ?_)
    refine Gol.cond rfl (fun hk => ?_) (fun hk => ?_)
    · have hk' : j < splitN m := of_decide_eq_true hk
      have e := dep_lo h2 hk'
      (apply Gol.region; apply Trc.stp rfl rfl rfl; apply s_move; exact rfl; dsimp only [Nat.reduceAdd, Nat.reduceMul, List.nil_append]
       apply Trc.stp rfl rfl rfl; apply s_assign; exact rfl; dsimp only [Nat.reduceAdd, Nat.reduceMul, List.nil_append]
       exact Trc.done _ _ _; exact rfl; refine thn_n ?_; apply Gol.region; apply Trc.stp rfl rfl rfl; apply s_move
       exact rfl; dsimp only [Nat.reduceAdd, Nat.reduceMul, List.nil_append]; apply Trc.stp rfl rfl rfl; apply s_addn; exact rfl; exact rfl; simp <;> omega; dsimp only [Nat.reduceAdd, Nat.reduceMul, List.nil_append]
       apply Trc.stp rfl rfl rfl; apply s_assign; exact rfl; dsimp only [Nat.reduceAdd, Nat.reduceMul, List.nil_append]
       exact Trc.done _ _ _; exact rfl; refine inBlk_n ?_)
      refine rnd_n (j, splitN m, d + 1) ⟨hk', by dsimp only; omega, by dsimp only; omega⟩ (by dsimp only; omega) ?_
      (apply Le.mk' []; apply RnT.c; exact rfl; exact Rn.v rfl; apply RnT.c; exact rfl; exact Rn.v rfl; apply RnT.c; exact rfl; exact Rn.v rfl; exact RnT.n; exact RnH.n
       exact rfl)
    · have hk' : ¬ j < splitN m := of_decide_eq_false hk
      have e := dep_hi h2 hk'
      (apply Gol.region; apply Trc.stp rfl rfl rfl; apply s_move; exact rfl; dsimp only [Nat.reduceAdd, Nat.reduceMul, List.nil_append]
       apply Trc.stp rfl rfl rfl; apply s_move; exact rfl; dsimp only [Nat.reduceAdd, Nat.reduceMul, List.nil_append]
       apply Trc.stp rfl rfl rfl; apply s_subn; exact rfl; exact rfl; omega; omega; dsimp only [Nat.reduceAdd, Nat.reduceMul, Nat.reduceSub, List.nil_append, List.cons_append, nbk, List.map_cons, List.map_nil]
       apply Trc.stp rfl rfl rfl; apply s_move; exact rfl; dsimp only [Nat.reduceAdd, Nat.reduceMul, List.nil_append]
       apply Trc.stp rfl rfl rfl; apply s_move; exact rfl; dsimp only [Nat.reduceAdd, Nat.reduceMul, List.nil_append]
       apply Trc.stp rfl rfl rfl; apply s_subn; exact rfl; exact rfl; omega; omega; dsimp only [Nat.reduceAdd, Nat.reduceMul, Nat.reduceSub, List.nil_append, List.cons_append, nbk, List.map_cons, List.map_nil]
       apply Trc.stp rfl rfl rfl; apply s_assign; exact rfl; dsimp only [Nat.reduceAdd, Nat.reduceMul, List.nil_append]
       apply Trc.stp rfl rfl rfl; apply s_assign; exact rfl; dsimp only [Nat.reduceAdd, Nat.reduceMul, List.nil_append]
       exact Trc.done _ _ _; exact rfl; refine thn_n ?_; apply Gol.region; apply Trc.stp rfl rfl rfl; apply s_move
       exact rfl; dsimp only [Nat.reduceAdd, Nat.reduceMul, List.nil_append]; apply Trc.stp rfl rfl rfl; apply s_addn; exact rfl; exact rfl; simp <;> omega; dsimp only [Nat.reduceAdd, Nat.reduceMul, List.nil_append]
       apply Trc.stp rfl rfl rfl; apply s_assign; exact rfl; dsimp only [Nat.reduceAdd, Nat.reduceMul, List.nil_append]
       exact Trc.done _ _ _; exact rfl; refine inBlk_n ?_)
      refine rnd_n (j - splitN m, m - splitN m, d + 1) ⟨by dsimp only; omega, by dsimp only; omega, by dsimp only; omega⟩ (by dsimp only; omega) ?_
      (apply Le.mk' []; apply RnT.c; exact rfl; exact Rn.v rfl; apply RnT.c; exact rfl; exact Rn.v rfl; apply RnT.c; exact rfl; exact Rn.v rfl; exact RnT.n; exact RnH.n
       exact rfl)
  · have h2 : ¬ 2 ≤ m := of_decide_eq_false hc
    have e := dep_one (i := j) h2
    obtain rfl : d = depN i n := by omega
    (refine Gol.exit ?_; refine thn_x ?_; refine rnd_x ?_; refine inBlk_hit ?_; refine thn_n ?_
     refine Gol.seq ?_; apply Gol.region; apply Trc.stp rfl rfl rfl; apply s_move; exact rfl
     dsimp only [Nat.reduceAdd, Nat.reduceMul, List.nil_append]; apply Trc.stp rfl rfl rfl; apply s_assign; exact rfl; dsimp only [Nat.reduceAdd, Nat.reduceMul, List.nil_append]
     exact Trc.done _ _ _; exact rfl; refine thn_n ?_; refine Gol.ret ?_)
    (apply RetQ.mk (by first | exact .inr rfl | exact .inl rfl); apply res_1 rfl; exact res_tmp rfl; exact out_val)
theorem flat_cons (a : UInt64) (l : List UInt64) : flat (a :: l) = nameB a ++ flat l := rfl
theorem flat_take8 : ∀ (l : List UInt64) (k : Nat), (flat l).take (k * 8) = flat (l.take k)
  | _, 0 => by simp [flat]
  | [], k + 1 => by simp [flat]
  | a :: l, k + 1 => by rw [flat_cons, List.take_succ_cons, flat_cons, Nat.succ_mul, Nat.add_comm, ← nameB_length a, List.take_length_add_append, nameB_length, flat_take8 l k]
theorem flat_drop8 : ∀ (l : List UInt64) (k : Nat), (flat l).drop (k * 8) = flat (l.drop k)
  | _, 0 => by simp
  | [], k + 1 => by simp [flat]
  | a :: l, k + 1 => by rw [flat_cons, List.drop_succ_cons, Nat.succ_mul, Nat.add_comm, ← nameB_length a, List.drop_length_add_append, nameB_length, flat_drop8 l k]
theorem seg_lo (l : List UInt64) (k : Nat) : List.take ((k - 0) * 8) (List.drop 0 (byA (flat l))) = byA (flat (l.take k)) := by rw [Nat.sub_zero, List.drop_zero, byA_take, flat_take8]
theorem seg_hi (l : List UInt64) (k n : Nat) (h : l.length = n) : List.take ((n - k) * 8) (List.drop (k * 8) (byA (flat l))) = byA (flat (l.drop k)) := by
  rw [byA_drop, flat_drop8, List.take_of_length_le (by rw [byA_length, flat_length, List.length_drop, h]; exact Nat.le_refl _)]
section
variable (S : List UInt8 → UInt64)
theorem take_lt {l : List UInt64} (h : 2 ≤ l.length) : (l.take (splitN l.length)).length < l.length := by have := split_bd _ h; simp; omega
theorem drop_lt {l : List UInt64} (h : 2 ≤ l.length) : (l.drop (splitN l.length)).length < l.length := by have := split_bd _ h; simp; omega
def rootN (l : List UInt64) : UInt64 := if h : 2 ≤ l.length then S (0x12 :: (nameB (rootN (l.take (splitN l.length))) ++ nameB (rootN (l.drop (splitN l.length))))) else if l.length = 1 then S (0x11 :: nameB (l.getD 0 0)) else S [0x10]
termination_by l.length
decreasing_by
  · exact take_lt h
  · exact drop_lt h
variable (hS : HashF S)
include hS
theorem single_ok (a : UInt64) : Fresh Tryz.prog 103 [.v (.agg (nameC a))] (fun _ => .v (.agg (nameC (S (0x11 :: nameB a))))) [] := by
  refine Fresh.of (fn := Tryz.f103) Tryz.func103 rfl (Nat.le_of_ble_eq_true rfl) fun w => ?_
  (refine Gol.seq ?_; apply Gol.region; apply Trc.stp rfl rfl rfl; apply s_box; exact rfl
   exact rfl; dsimp only [Nat.reduceAdd, Nat.reduceMul, Nat.reduceSub, List.nil_append, List.cons_append, nbk, List.map_cons, List.map_nil]; apply Trc.stp rfl rfl rfl; apply s_alloc; dsimp only [Nat.reduceAdd, Nat.reduceMul, Nat.reduceSub, List.nil_append, List.cons_append, nbk, List.map_cons, List.map_nil]
   exact Trc.done _ _ _; exact rfl; refine thn_n ?_; refine Gol.seq ?_; apply Gol.region; apply Trc.stp rfl rfl rfl; apply s_slA; exact rfl; exact rfl; exact rfl; exact rfl; simp; omega; omega; omega; dsimp only [Nat.reduceAdd, Nat.reduceMul, Nat.reduceSub, List.nil_append, List.cons_append, nbk, List.map_cons, List.map_nil]
   apply Trc.stp rfl rfl rfl; apply s_call (f := 69) rfl; apply evs.cons rfl; apply evs.cons rfl; exact evs.nil; apply ArgL.cons
   exact arg_clo; apply ArgL.cons; exact arg_name rfl rfl; exact ArgL.nil; exact hS.tagged 0x11 (nameB a) _ _ rfl (by decide); exact Nat.le_of_ble_eq_true rfl
   dsimp only [Nat.reduceAdd, Nat.reduceMul, Nat.reduceSub, List.nil_append, List.cons_append, nbk, List.map_cons, List.map_nil]; apply Trc.stepN rfl rfl
   exact wnt_n rfl; apply s_storeW; exact rfl; exact rfl; exact rfl; exact rfl; rfl; exact rfl; dsimp only [Nat.reduceAdd, Nat.reduceMul, Nat.reduceSub, List.nil_append, List.cons_append, nbk, List.map_cons, List.map_nil]
   exact Trc.done _ _ _; exact rfl; refine thn_n ?_; refine Gol.ret ?_)
  (apply RetQ.mk (by first | exact .inr rfl | exact .inl rfl); apply res_1 rfl; exact res_cell rfl rfl rfl (agu_cuv _); exact out_val)
theorem root_ok (n : Nat) : ∀ (l : List UInt64) (f : Bool), l.length = n → n ≤ 100000000 → Fresh Tryz.prog 68 [.ex n f (byA (flat l))] (fun _ => .v (.agg (nameC (rootN S l)))) [] := by
  induction n using Nat.strongRecOn with
  | _ n ih =>
    intro l f hl hb
    by_cases h0 : n = 0
    · subst h0
      rw [rootN, dif_neg (by omega), if_neg (by omega)]
      refine Fresh.of (fn := Tryz.f68) Tryz.func68 rfl (Nat.le_of_ble_eq_true rfl) fun w => ?_
      (refine Gol.seq ?_; apply Gol.region; apply Trc.stp rfl rfl rfl; apply s_alloc; dsimp only [Nat.reduceAdd, Nat.reduceMul, Nat.reduceSub, List.nil_append, List.cons_append, nbk, List.map_cons, List.map_nil]
       exact Trc.done _ _ _; exact rfl; refine thn_n ?_; refine Gol.seq ?_; refine Gol.seq ?_; apply Gol.region
       apply Trc.stp rfl rfl rfl; apply s_move; exact rfl; dsimp only [Nat.reduceAdd, Nat.reduceMul, List.nil_append]
       apply Trc.stp rfl rfl rfl; apply s_len; exact rfl; exact ln_ex; dsimp only [Nat.reduceAdd, Nat.reduceMul, List.nil_append]
       exact Trc.done _ _ _; exact rfl; refine thn_n ?_; refine Gol.block ?_; refine Gol.seq ?_; apply Gol.region
       apply Trc.stp rfl rfl rfl; apply s_eqn; exact rfl; exact rfl; dsimp only [Nat.reduceAdd, Nat.reduceMul, List.nil_append]
       apply Trc.stp rfl rfl rfl; apply s_assign; exact rfl; dsimp only [Nat.reduceAdd, Nat.reduceMul, List.nil_append]
       exact Trc.done _ _ _; exact rfl; refine thn_n ?_)
      refine Gol.cond_t rfl (by decide) ?_
      (refine Gol.seq ?_; apply Gol.region; apply Trc.stp rfl rfl rfl; apply s_call (f := 69) rfl
       apply evs.cons rfl; apply evs.cons rfl; exact evs.nil; apply ArgL.cons; exact arg_clo; apply ArgL.cons; exact arg_clo; exact ArgL.nil; exact (hS.tagged 0x10 [] 0 false rfl (by decide)).sub sub_nil2
       exact Nat.le_of_ble_eq_true rfl; dsimp only [Nat.reduceAdd, Nat.reduceMul, Nat.reduceSub, List.nil_append, List.cons_append, nbk, List.map_cons, List.map_nil]
       apply Trc.stepN rfl rfl; exact wnt_n rfl; apply s_storeW; exact rfl; exact rfl; exact rfl; exact rfl; rfl; exact rfl; dsimp only [Nat.reduceAdd, Nat.reduceMul, Nat.reduceSub, List.nil_append, List.cons_append, nbk, List.map_cons, List.map_nil]
       exact Trc.done _ _ _; exact rfl; refine thn_n ?_; refine Gol.ret ?_; refine inBlk_r ?_; refine thn_r ?_)
      (apply RetQ.mk (by first | exact .inr rfl | exact .inl rfl); apply res_1 rfl; exact res_cell rfl rfl rfl (agu_cuv _); exact out_val)
    by_cases h1 : n = 1
    · subst h1
      rw [rootN, dif_neg (by omega), if_pos hl]
      refine Fresh.of (fn := Tryz.f68) Tryz.func68 rfl (Nat.le_of_ble_eq_true rfl) fun w => ?_
      (refine Gol.seq ?_; apply Gol.region; apply Trc.stp rfl rfl rfl; apply s_alloc; dsimp only [Nat.reduceAdd, Nat.reduceMul, Nat.reduceSub, List.nil_append, List.cons_append, nbk, List.map_cons, List.map_nil]
       exact Trc.done _ _ _; exact rfl; refine thn_n ?_; refine Gol.seq ?_; refine Gol.seq ?_; apply Gol.region
       apply Trc.stp rfl rfl rfl; apply s_move; exact rfl; dsimp only [Nat.reduceAdd, Nat.reduceMul, List.nil_append]
       apply Trc.stp rfl rfl rfl; apply s_len; exact rfl; exact ln_ex; dsimp only [Nat.reduceAdd, Nat.reduceMul, List.nil_append]
       exact Trc.done _ _ _; exact rfl; refine thn_n ?_; refine Gol.block ?_; refine Gol.seq ?_; apply Gol.region
       apply Trc.stp rfl rfl rfl; apply s_eqn; exact rfl; exact rfl; dsimp only [Nat.reduceAdd, Nat.reduceMul, List.nil_append]
       apply Trc.stp rfl rfl rfl; apply s_assign; exact rfl; dsimp only [Nat.reduceAdd, Nat.reduceMul, List.nil_append]
       exact Trc.done _ _ _; exact rfl; refine thn_n ?_)
      refine Gol.cond_f rfl (by decide) ?_
      (refine Gol.seq ?_; apply Gol.region; apply Trc.stp rfl rfl rfl; apply s_eqn; exact rfl
       exact rfl; dsimp only [Nat.reduceAdd, Nat.reduceMul, List.nil_append]; apply Trc.stp rfl rfl rfl; apply s_assign; exact rfl; dsimp only [Nat.reduceAdd, Nat.reduceMul, List.nil_append]
       exact Trc.done _ _ _; exact rfl; refine thn_n ?_)
      refine Gol.cond_t rfl (by decide) ?_
      (refine Gol.seq ?_; apply Gol.region; apply Trc.stp rfl rfl rfl; apply s_move; exact rfl
       dsimp only [Nat.reduceAdd, Nat.reduceMul, List.nil_append]; apply Trc.stp rfl rfl rfl; apply s_ixe; exact rfl; exact rfl; decide; exact flat_ne (by omega); dsimp only [Nat.reduceAdd, Nat.reduceMul, List.nil_append]
       apply Trc.stp rfl rfl rfl; apply s_loadEN; exact rfl; simp only [byA_length, List.length_append, List.length_cons, List.length_nil, List.length_take, List.length_drop, List.length_replicate, List.length_map, Nat.mul_one, nameB_length, flat_length, List.length_set, inA_length] <;> omega
       exact agu_nm0 (by omega); dsimp only [Nat.reduceAdd, Nat.reduceMul, List.nil_append]
       apply Trc.stp rfl rfl rfl; apply s_call (f := 103) rfl; apply evs.cons rfl; exact evs.nil; apply ArgL.cons; exact arg_clo
       exact ArgL.nil; exact single_ok S hS _; exact Nat.le_of_ble_eq_true rfl; dsimp only [Nat.reduceAdd, Nat.reduceMul, Nat.reduceSub, List.nil_append, List.cons_append, nbk, List.map_cons, List.map_nil]
       apply Trc.stepN rfl rfl; exact wnt_n rfl; apply s_storeW; exact rfl; exact rfl; exact rfl; exact rfl; rfl; exact rfl; dsimp only [Nat.reduceAdd, Nat.reduceMul, Nat.reduceSub, List.nil_append, List.cons_append, nbk, List.map_cons, List.map_nil]
       exact Trc.done _ _ _; exact rfl; refine thn_n ?_; refine Gol.ret ?_; refine inBlk_r ?_; refine thn_r ?_)
      (apply RetQ.mk (by first | exact .inr rfl | exact .inl rfl); apply res_1 rfl; exact res_cell rfl rfl rfl (agu_cuv _); exact out_val)
    have h2 : 2 ≤ n := by omega
    have hsp := split_bd n h2
    rw [rootN, dif_pos (by omega)]
    refine Fresh.of (fn := Tryz.f68) Tryz.func68 rfl (Nat.le_of_ble_eq_true rfl) fun w => ?_
    (refine Gol.seq ?_; apply Gol.region; apply Trc.stp rfl rfl rfl; apply s_alloc; dsimp only [Nat.reduceAdd, Nat.reduceMul, Nat.reduceSub, List.nil_append, List.cons_append, nbk, List.map_cons, List.map_nil]
     exact Trc.done _ _ _; exact rfl; refine thn_n ?_; refine Gol.seq ?_; refine Gol.seq ?_; apply Gol.region
     apply Trc.stp rfl rfl rfl; apply s_move; exact rfl; dsimp only [Nat.reduceAdd, Nat.reduceMul, List.nil_append]
     apply Trc.stp rfl rfl rfl; apply s_len; exact rfl; exact ln_ex; dsimp only [Nat.reduceAdd, Nat.reduceMul, List.nil_append]
     exact Trc.done _ _ _; exact rfl; refine thn_n ?_; refine Gol.block ?_; refine Gol.seq ?_; apply Gol.region
     apply Trc.stp rfl rfl rfl; apply s_eqn; exact rfl; exact rfl; dsimp only [Nat.reduceAdd, Nat.reduceMul, List.nil_append]
     apply Trc.stp rfl rfl rfl; apply s_assign; exact rfl; dsimp only [Nat.reduceAdd, Nat.reduceMul, List.nil_append]
     exact Trc.done _ _ _; exact rfl; refine thn_n ?_)
    refine Gol.cond_f rfl (decide_eq_false h0) ?_
    (refine Gol.seq ?_; apply Gol.region; apply Trc.stp rfl rfl rfl; apply s_eqn; exact rfl
     exact rfl; dsimp only [Nat.reduceAdd, Nat.reduceMul, List.nil_append]; apply Trc.stp rfl rfl rfl; apply s_assign; exact rfl; dsimp only [Nat.reduceAdd, Nat.reduceMul, List.nil_append]
     exact Trc.done _ _ _; exact rfl; refine thn_n ?_)
    refine Gol.cond_f rfl (decide_eq_false h1) ?_
    rw [hl]
    have hlo : ∀ ff, Fresh Tryz.prog 68 [.ex (splitN n - 0) ff (List.take ((splitN n - 0) * 8) (List.drop 0 (byA (flat l))))] (fun _ => .v (.agg (nameC (rootN S (l.take (splitN n)))))) [] := fun ff => by
      rw [seg_lo]; exact ih _ (by omega) _ ff (by simp; omega) (by omega)
    have hhi : ∀ ff, Fresh Tryz.prog 68 [.ex (n - splitN n) ff (List.take ((n - splitN n) * 8) (List.drop (splitN n * 8) (byA (flat l))))] (fun _ => .v (.agg (nameC (rootN S (l.drop (splitN n)))))) [] := fun ff => by
      rw [seg_hi l _ n hl]; exact ih _ (by omega) _ ff (by simp; omega) (by omega)
    (refine Gol.skip ?_; refine inBlk_n ?_; refine thn_n ?_; refine Gol.seq ?_; apply Gol.region
     apply Trc.stp rfl rfl rfl; apply s_move; exact rfl; dsimp only [Nat.reduceAdd, Nat.reduceMul, List.nil_append]
     apply Trc.stp rfl rfl rfl; apply s_len; exact rfl; exact ln_ex; dsimp only [Nat.reduceAdd, Nat.reduceMul, List.nil_append]
     apply Trc.stp rfl rfl rfl; apply s_call (f := 104) rfl; apply evs.cons rfl; exact evs.nil; apply ArgL.cons; exact arg_clo
     exact ArgL.nil; exact split_ok n (by omega) (by omega); exact Nat.le_of_ble_eq_true rfl; dsimp only [Nat.reduceAdd, Nat.reduceMul, Nat.reduceSub, List.nil_append, List.cons_append, nbk, List.map_cons, List.map_nil]
     apply Trc.stp rfl rfl rfl; apply s_assign; exact rfl; dsimp only [Nat.reduceAdd, Nat.reduceMul, List.nil_append]
     exact Trc.done _ _ _; exact rfl; refine thn_n ?_; refine Gol.seq ?_; apply Gol.any; kernel_rfl; apply Trc.stp rfl rfl rfl; apply s_move; exact rfl; dsimp only [Nat.reduceAdd, Nat.reduceMul, List.nil_append]
     apply Trc.stp rfl rfl rfl; apply s_move; exact rfl; dsimp only [Nat.reduceAdd, Nat.reduceMul, List.nil_append]
     apply Trc.stp rfl rfl rfl; apply s_slE; exact rfl; exact rfl; exact ⟨_, rfl⟩; omega; omega; simp only [byA_length, List.length_append, List.length_cons, List.length_nil, List.length_take, List.length_drop, List.length_replicate, List.length_map, Nat.mul_one, nameB_length, flat_length, List.length_set, inA_length] <;> omega
     dsimp only [Nat.reduceAdd, Nat.reduceMul, Nat.reduceSub, List.nil_append, List.cons_append, nbk, List.map_cons, List.map_nil]; apply Trc.stp rfl rfl rfl; apply s_call (f := 68) rfl; apply evs.cons rfl; exact evs.nil; apply ArgL.cons; exact arg_clo; exact ArgL.nil
     exact hlo _; exact Nat.le_of_ble_eq_true rfl; dsimp only [Nat.reduceAdd, Nat.reduceMul, Nat.reduceSub, List.nil_append, List.cons_append, nbk, List.map_cons, List.map_nil]
     apply Trc.stp rfl rfl rfl; apply s_move; exact rfl; dsimp only [Nat.reduceAdd, Nat.reduceMul, List.nil_append]
     apply Trc.stp rfl rfl rfl; apply s_move; exact rfl; dsimp only [Nat.reduceAdd, Nat.reduceMul, List.nil_append]
     apply Trc.stp rfl rfl rfl; apply s_slE; exact rfl; exact ⟨_, rfl⟩; exact rfl; omega; omega; simp only [byA_length, List.length_append, List.length_cons, List.length_nil, List.length_take, List.length_drop, List.length_replicate, List.length_map, Nat.mul_one, nameB_length, flat_length, List.length_set, inA_length] <;> omega
     dsimp only [Nat.reduceAdd, Nat.reduceMul, Nat.reduceSub, List.nil_append, List.cons_append, nbk, List.map_cons, List.map_nil]; apply Trc.stp rfl rfl rfl; apply s_call (f := 68) rfl; apply evs.cons rfl; exact evs.nil; apply ArgL.cons; exact arg_clo; exact ArgL.nil
     exact hhi _; exact Nat.le_of_ble_eq_true rfl; dsimp only [Nat.reduceAdd, Nat.reduceMul, Nat.reduceSub, List.nil_append, List.cons_append, nbk, List.map_cons, List.map_nil]
     apply Trc.stp rfl rfl rfl; apply s_call (f := 105) rfl; apply evs.cons rfl; apply evs.cons rfl; apply evs.cons rfl
     exact evs.nil; apply ArgL.cons; exact arg_clo; apply ArgL.cons; exact arg_clo; apply ArgL.cons; exact arg_clo; exact ArgL.nil; exact hS.pair 0x12 _ _
     exact Nat.le_of_ble_eq_true rfl; dsimp only [Nat.reduceAdd, Nat.reduceMul, Nat.reduceSub, List.nil_append, List.cons_append, nbk, List.map_cons, List.map_nil]
     apply Trc.stepN rfl rfl; exact wnt_n rfl; apply s_storeW; exact rfl; exact rfl; exact rfl; exact rfl; rfl; exact rfl; dsimp only [Nat.reduceAdd, Nat.reduceMul, Nat.reduceSub, List.nil_append, List.cons_append, nbk, List.map_cons, List.map_nil]
     exact Trc.done _ _ _; kernel_rfl; exact rfl; refine thn_n ?_; refine Gol.ret ?_)
    (apply RetQ.mk (by first | exact .inr rfl | exact .inl rfl); apply res_1 rfl; exact res_cell rfl rfl rfl (agu_cuv _); exact out_val)
end
end Go.Proofs.YtkkeeokeihkagaaGreat


/-
  Layer 3, merkle, and the reference: Path, Follow, Verify. Conditions: lengths below 2^26.
-/
namespace Go.Proofs.YtkkeeokeihkagaaGreat
open Go.RowKit

theorem Fresh.nilV {P : Program} {f : FuncId} {cs : List AV} (e : TypeId) (sz : Nat) (h : Fresh P f cs (fun _ => .v (.slice none 0 0)) []) : Fresh P f cs (fun k => .sl k 0) [⟨[], e, sz⟩] := fun E0 xs hS hD hx => (h E0 xs hS hD hx).mono (by
  rintro en w' ⟨x, ls, rfl, h1, _, _, h4⟩
  refine ⟨x, fun _ => ⟨none, 0⟩, rfl, h1, fun j g _ hg => (by cases hg), fun i j g _ _ hg => (by cases hg), fun k E' hw hS' hD' => ⟨fun j blk hj => ?_, ?_⟩⟩
  · cases j with
    | zero => simp at hj; subst hj; exact .mk_none rfl ⟨rfl, rfl⟩
    | succ j => simp at hj
  · have hr := (h4 k E' hw (fun g hg => by
      rcases hS' g hg with h | ⟨j, _, h⟩
      · exact .inl h
      · cases h) (fun j hj => by simp at hj)).2
    obtain ⟨d1, d2⟩ := hD' 0 (by simp)
    simp only [Nat.add_zero] at d1 d2
    have hs : RV E' (.sl k 0) (.slice ((E'.L k).g.map fun g => ⟨g, 0, none⟩) 0 (E'.L k).c) := .sl k 0 d1 (Nat.zero_le _)
    rw [d2] at hs
    rw [hr.v_inv]
    exact hs)
theorem grow_eq {p : List UInt64} {d : Nat} (hp : p.length = d) {r : UInt64} : List.take ((d - 0) * 8) (List.drop 0 (byA (flat p))) ++ (cu (.v (.agg (nameC r))) ++ []) = byA (flat (p ++ [r])) := by
  rw [seg_lo, List.take_of_length_le (by omega), List.append_nil, cu_name, ← byA_append, flat_append, flat_one]
theorem grow_eq2 {p : List UInt64} {r : UInt64} : byA (flat p) ++ (cu (.v (.agg (nameC r))) ++ []) = byA (flat (p ++ [r])) := by
  rw [List.append_nil, cu_name, ← byA_append, flat_append, flat_one]
section
variable (S : List UInt8 → UInt64)
def pathN (l : List UInt64) (i : Nat) : List UInt64 := if h : 2 ≤ l.length then (if i < splitN l.length then pathN (l.take (splitN l.length)) i ++ [rootN S (l.drop (splitN l.length))] else pathN (l.drop (splitN l.length)) (i - splitN l.length) ++ [rootN S (l.take (splitN l.length))]) else []
termination_by l.length
decreasing_by
  · exact take_lt h
  · exact drop_lt h
theorem path_lo {l : List UInt64} {i n : Nat} (hl : l.length = n) (h : 2 ≤ n) (hi : i < splitN n) : pathN S l i = pathN S (l.take (splitN n)) i ++ [rootN S (l.drop (splitN n))] := by subst hl; rw [pathN, dif_pos h, if_pos hi]
theorem path_hi {l : List UInt64} {i n : Nat} (hl : l.length = n) (h : 2 ≤ n) (hi : ¬ i < splitN n) : pathN S l i = pathN S (l.drop (splitN n)) (i - splitN n) ++ [rootN S (l.take (splitN n))] := by subst hl; rw [pathN, dif_pos h, if_neg hi]
theorem path_one {l : List UInt64} {i n : Nat} (hl : l.length = n) (h : ¬ 2 ≤ n) : pathN S l i = [] := by subst hl; rw [pathN, dif_neg h]
theorem path_len : ∀ (n : Nat) (l : List UInt64) (i : Nat), l.length = n → (pathN S l i).length = depN i n := by
  intro n
  induction n using Nat.strongRecOn with
  | _ n ih =>
    intro l i hl
    by_cases h2 : 2 ≤ n
    · have hsp := split_bd n h2
      by_cases hi : i < splitN n
      · rw [path_lo S hl h2 hi, dep_lo h2 hi, List.length_append, ih _ hsp.2.1 _ i (by simp; omega)]; rfl
      · rw [path_hi S hl h2 hi, dep_hi h2 hi, List.length_append, ih (n - splitN n) (by omega) _ _ (by simp; omega)]; rfl
    · rw [path_one S hl h2, dep_one h2]; rfl
variable (hS : HashF S)
include hS
theorem climb_ok (n : Nat) : ∀ (l : List UInt64) (i : Nat) (f : Bool), l.length = n → i < n → n ≤ 100000000 → Fresh Tryz.prog 110 [.ex n f (byA (flat l)), .v (.int .i64 (i : Int))] (fun k => .sl k (depN i n)) [⟨byA (flat (pathN S l i)), 30, 8⟩] := by
  induction n using Nat.strongRecOn with
  | _ n ih =>
    intro l i f hl hi hb
    by_cases h1 : n = 1
    · subst h1
      rw [path_one S hl (by decide), dep_one (by decide)]
      apply Fresh.nilV
      refine Fresh.of (fn := Tryz.f110) Tryz.func110 rfl (Nat.le_of_ble_eq_true rfl) fun w => ?_
      (refine Gol.seq ?_; apply Gol.region; apply Trc.stp rfl rfl rfl; apply s_assign; exact rfl
       dsimp only [Nat.reduceAdd, Nat.reduceMul, List.nil_append]; exact Trc.done _ _ _; exact rfl
       refine thn_n ?_; refine Gol.seq ?_; refine Gol.seq ?_; apply Gol.region; apply Trc.stp rfl rfl rfl; apply s_move; exact rfl; dsimp only [Nat.reduceAdd, Nat.reduceMul, List.nil_append]
       apply Trc.stp rfl rfl rfl; apply s_len; exact rfl; exact ln_ex; dsimp only [Nat.reduceAdd, Nat.reduceMul, List.nil_append]
       apply Trc.stp rfl rfl rfl; apply s_eqn; exact rfl; exact rfl; dsimp only [Nat.reduceAdd, Nat.reduceMul, List.nil_append]
       exact Trc.done _ _ _; exact rfl; refine thn_n ?_)
      refine Gol.cond_t rfl (by decide) ?_
      (refine Gol.seq ?_; apply Gol.region; apply Trc.stp rfl rfl rfl; apply s_assign; exact rfl
       dsimp only [Nat.reduceAdd, Nat.reduceMul, List.nil_append]; exact Trc.done _ _ _; exact rfl
       refine thn_n ?_; refine Gol.ret ?_; refine thn_r ?_)
      (apply RetQ.mk (by first | exact .inr rfl | exact .inl rfl); apply res_1 rfl; exact res_tmp rfl; exact out_val)
    have h2 : 2 ≤ n := by omega
    have hsp := split_bd n h2
    refine Fresh.of (fn := Tryz.f110) Tryz.func110 rfl (Nat.le_of_ble_eq_true rfl) fun w => ?_
    (refine Gol.seq ?_; apply Gol.region; apply Trc.stp rfl rfl rfl; apply s_assign; exact rfl
     dsimp only [Nat.reduceAdd, Nat.reduceMul, List.nil_append]; exact Trc.done _ _ _; exact rfl
     refine thn_n ?_; refine Gol.seq ?_; refine Gol.seq ?_; apply Gol.region; apply Trc.stp rfl rfl rfl; apply s_move; exact rfl; dsimp only [Nat.reduceAdd, Nat.reduceMul, List.nil_append]
     apply Trc.stp rfl rfl rfl; apply s_len; exact rfl; exact ln_ex; dsimp only [Nat.reduceAdd, Nat.reduceMul, List.nil_append]
     apply Trc.stp rfl rfl rfl; apply s_eqn; exact rfl; exact rfl; dsimp only [Nat.reduceAdd, Nat.reduceMul, List.nil_append]
     exact Trc.done _ _ _; exact rfl; refine thn_n ?_)
    refine Gol.cond_f rfl (decide_eq_false h1) ?_
    (refine Gol.skip ?_; refine thn_n ?_; refine Gol.seq ?_; apply Gol.region; apply Trc.stp rfl rfl rfl; apply s_assign; exact rfl; dsimp only [Nat.reduceAdd, Nat.reduceMul, List.nil_append]
     exact Trc.done _ _ _; exact rfl; refine thn_n ?_; refine Gol.seq ?_; apply Gol.region; apply Trc.stp rfl rfl rfl; apply s_alloc; dsimp only [Nat.reduceAdd, Nat.reduceMul, Nat.reduceSub, List.nil_append, List.cons_append, nbk, List.map_cons, List.map_nil]
     exact Trc.done _ _ _; exact rfl; refine thn_n ?_; refine Gol.seq ?_; refine Gol.seq ?_; apply Gol.region
     apply Trc.stp rfl rfl rfl; apply s_move; exact rfl; dsimp only [Nat.reduceAdd, Nat.reduceMul, List.nil_append]
     apply Trc.stp rfl rfl rfl; apply s_len; exact rfl; exact ln_ex; dsimp only [Nat.reduceAdd, Nat.reduceMul, List.nil_append]
     apply Trc.stp rfl rfl rfl; apply s_call (f := 104) rfl; apply evs.cons rfl; exact evs.nil; apply ArgL.cons; exact arg_clo
     exact ArgL.nil; exact split_ok n (by omega) (by omega); exact Nat.le_of_ble_eq_true rfl; dsimp only [Nat.reduceAdd, Nat.reduceMul, Nat.reduceSub, List.nil_append, List.cons_append, nbk, List.map_cons, List.map_nil]
     apply Trc.stp rfl rfl rfl; apply s_assign; exact rfl; dsimp only [Nat.reduceAdd, Nat.reduceMul, List.nil_append]
     exact Trc.done _ _ _; exact rfl; refine thn_n ?_; refine Gol.seq ?_; apply Gol.region; apply Trc.stp rfl rfl rfl; apply s_move; exact rfl; dsimp only [Nat.reduceAdd, Nat.reduceMul, List.nil_append]
     apply Trc.stp rfl rfl rfl; apply s_move; exact rfl; dsimp only [Nat.reduceAdd, Nat.reduceMul, List.nil_append]
     apply Trc.stp rfl rfl rfl; apply s_ltn; exact rfl; exact rfl; dsimp only [Nat.reduceAdd, Nat.reduceMul, List.nil_append]
     exact Trc.done _ _ _; exact rfl; refine thn_n ?_)
    refine Gol.cond rfl (fun hk => ?_) (fun hk => ?_)
    · have hk' : i < splitN n := of_decide_eq_true hk
      have hlo : ∀ ff, Fresh Tryz.prog 110 [.ex (splitN n - 0) ff (List.take ((splitN n - 0) * 8) (List.drop 0 (byA (flat l)))), .v (.int .i64 (i : Int))] (fun k => .sl k (depN i (splitN n))) [⟨byA (flat (pathN S (l.take (splitN n)) i)), 30, 8⟩] := fun ff => by
        rw [seg_lo]; exact ih _ (by omega) _ i ff (by simp; omega) hk' (by omega)
      have hhi : ∀ ff, Fresh Tryz.prog 68 [.ex (n - splitN n) ff (List.take ((n - splitN n) * 8) (List.drop (splitN n * 8) (byA (flat l))))] (fun _ => .v (.agg (nameC (rootN S (l.drop (splitN n)))))) [] := fun ff => by
        rw [seg_hi l _ n hl]; exact root_ok S hS _ _ ff (by simp; omega) (by omega)
      have hpl := path_len S (splitN n) (l.take (splitN n)) i (by simp; omega)
      have hdl := dep_lt (splitN n) i (by omega)
      (apply Gol.any; kernel_rfl; apply Trc.stp rfl rfl rfl; apply s_move; exact rfl; dsimp only [Nat.reduceAdd, Nat.reduceMul, List.nil_append]
       apply Trc.stp rfl rfl rfl; apply s_move; exact rfl; dsimp only [Nat.reduceAdd, Nat.reduceMul, List.nil_append]
       apply Trc.stp rfl rfl rfl; apply s_move; exact rfl; dsimp only [Nat.reduceAdd, Nat.reduceMul, List.nil_append]
       apply Trc.stp rfl rfl rfl; apply s_slEM; exact rfl; exact rfl; exact ⟨_, rfl⟩; exact ⟨_, rfl⟩; exact rfl; omega; omega
       omega; simp only [byA_length, List.length_append, List.length_cons, List.length_nil, List.length_take, List.length_drop, List.length_replicate, List.length_map, Nat.mul_one, nameB_length, flat_length, List.length_set, inA_length] <;> omega
       dsimp only [Nat.reduceAdd, Nat.reduceMul, Nat.reduceSub, List.nil_append, List.cons_append, nbk, List.map_cons, List.map_nil]; apply Trc.stp rfl rfl rfl; apply s_move; exact rfl; dsimp only [Nat.reduceAdd, Nat.reduceMul, List.nil_append]
       apply Trc.stp rfl rfl rfl; apply s_call (f := 110) rfl; apply evs.cons rfl; apply evs.cons rfl; exact evs.nil; apply ArgL.cons
       exact arg_clo; apply ArgL.cons; exact arg_clo; exact ArgL.nil; exact hlo _; exact Nat.le_of_ble_eq_true rfl; dsimp only [Nat.reduceAdd, Nat.reduceMul, Nat.reduceSub, List.nil_append, List.cons_append, nbk, List.map_cons, List.map_nil]
       apply Trc.stp rfl rfl rfl; apply s_move; exact rfl; dsimp only [Nat.reduceAdd, Nat.reduceMul, List.nil_append]
       apply Trc.stp rfl rfl rfl; apply s_move; exact rfl; dsimp only [Nat.reduceAdd, Nat.reduceMul, List.nil_append]
       apply Trc.stp rfl rfl rfl; apply s_slE; exact rfl; exact ⟨_, rfl⟩; exact rfl; omega; omega; simp only [byA_length, List.length_append, List.length_cons, List.length_nil, List.length_take, List.length_drop, List.length_replicate, List.length_map, Nat.mul_one, nameB_length, flat_length, List.length_set, inA_length] <;> omega
       dsimp only [Nat.reduceAdd, Nat.reduceMul, Nat.reduceSub, List.nil_append, List.cons_append, nbk, List.map_cons, List.map_nil]; apply Trc.stp rfl rfl rfl; apply s_call (f := 68) rfl; apply evs.cons rfl; exact evs.nil; apply ArgL.cons; exact arg_clo; exact ArgL.nil
       exact hhi _; exact Nat.le_of_ble_eq_true rfl; dsimp only [Nat.reduceAdd, Nat.reduceMul, Nat.reduceSub, List.nil_append, List.cons_append, nbk, List.map_cons, List.map_nil]
       apply Trc.stp rfl rfl rfl; apply s_assign; exact rfl; dsimp only [Nat.reduceAdd, Nat.reduceMul, List.nil_append]
       apply Trc.stepN rfl rfl; exact wnt_n rfl; apply s_storeW; exact rfl; exact rfl; exact rfl; exact rfl; rfl; exact rfl; dsimp only [Nat.reduceAdd, Nat.reduceMul, Nat.reduceSub, List.nil_append, List.cons_append, nbk, List.map_cons, List.map_nil]
       exact Trc.done _ _ _; kernel_rfl; exact rfl; refine thn_n ?_; refine Gol.seq ?_; apply Gol.any; kernel_rfl
       apply Trc.stp rfl rfl rfl; apply s_move; exact rfl; dsimp only [Nat.reduceAdd, Nat.reduceMul, List.nil_append]
       apply Trc.stp rfl rfl rfl; apply s_move; exact rfl; dsimp only [Nat.reduceAdd, Nat.reduceMul, List.nil_append]
       apply Trc.stp rfl rfl rfl; apply s_len; exact rfl; exact ln_sl; dsimp only [Nat.reduceAdd, Nat.reduceMul, List.nil_append]
       apply Trc.stp rfl rfl rfl; apply s_move; exact rfl; dsimp only [Nat.reduceAdd, Nat.reduceMul, List.nil_append]
       apply Trc.stp rfl rfl rfl; apply s_len; exact rfl; exact ln_sl; dsimp only [Nat.reduceAdd, Nat.reduceMul, List.nil_append]
       apply Trc.stp rfl rfl rfl; apply s_slLM; exact rfl; exact rfl; exact ⟨_, rfl⟩; exact ⟨_, rfl⟩; exact rfl; omega; omega
       omega; exact rfl; dsimp only [Nat.reduceAdd, Nat.reduceMul, Nat.reduceSub, List.nil_append, List.cons_append, nbk, List.map_cons, List.map_nil]; apply Trc.stp rfl rfl rfl; apply s_loadW; exact rfl; exact rfl; exact rfl; exact agu_cuv _; dsimp only [Nat.reduceAdd, Nat.reduceMul, List.nil_append]
       apply Trc.stp rfl rfl rfl; apply s_lit; apply PA.cons; exact rfl; exact rfl; exact rfl; exact PA.nil; exact rfl; omega
       dsimp only [Nat.reduceAdd, Nat.reduceMul, Nat.reduceSub, List.nil_append, List.cons_append, nbk, List.map_cons, List.map_nil]; apply Trc.stp rfl rfl rfl; apply s_appFull; exact rfl; exact fl_sb; apply rd_sb rfl; simp only [byA_length, List.length_append, List.length_cons, List.length_nil, List.length_take, List.length_drop, List.length_replicate, List.length_map, Nat.mul_one, nameB_length, flat_length, List.length_set, inA_length] <;> omega
       exact rfl; apply rd_sl rfl; rfl; omega; omega; dsimp only [Nat.reduceAdd, Nat.reduceMul, Nat.reduceSub, List.nil_append, List.cons_append, nbk, List.map_cons, List.map_nil]
       apply Trc.stp rfl rfl rfl; apply s_assign; exact rfl; dsimp only [Nat.reduceAdd, Nat.reduceMul, List.nil_append]
       exact Trc.done _ _ _; kernel_rfl; exact rfl; refine thn_n ?_; refine Gol.ret ?_)
      rw [grow_eq hpl, path_lo S hl h2 hk', dep_lo h2 hk']
      simp only [Nat.sub_zero]
      (apply RetQ.mk (by first | exact .inr rfl | exact .inl rfl); apply res_1 rfl; exact res_tmp rfl; exact out_sl rfl)
    · have hk' : ¬ i < splitN n := of_decide_eq_false hk
      have hhi : ∀ ff, Fresh Tryz.prog 110 [.ex (n - splitN n) ff (List.take ((n - splitN n) * 8) (List.drop (splitN n * 8) (byA (flat l)))), .v (.int .i64 ((i - splitN n : Nat) : Int))] (fun k => .sl k (depN (i - splitN n) (n - splitN n))) [⟨byA (flat (pathN S (l.drop (splitN n)) (i - splitN n))), 30, 8⟩] := fun ff => by
        rw [seg_hi l _ n hl]; exact ih _ (by omega) _ _ ff (by simp; omega) (by omega) (by omega)
      have hlo : ∀ ff, Fresh Tryz.prog 68 [.ex (splitN n - 0) ff (List.take ((splitN n - 0) * 8) (List.drop 0 (byA (flat l))))] (fun _ => .v (.agg (nameC (rootN S (l.take (splitN n)))))) [] := fun ff => by
        rw [seg_lo]; exact root_ok S hS _ _ ff (by simp; omega) (by omega)
      have hpl := path_len S (n - splitN n) (l.drop (splitN n)) (i - splitN n) (by simp; omega)
      have hdl := dep_lt (n - splitN n) (i - splitN n) (by omega)
      (apply Gol.any; kernel_rfl; apply Trc.stp rfl rfl rfl; apply s_move; exact rfl; dsimp only [Nat.reduceAdd, Nat.reduceMul, List.nil_append]
       apply Trc.stp rfl rfl rfl; apply s_move; exact rfl; dsimp only [Nat.reduceAdd, Nat.reduceMul, List.nil_append]
       apply Trc.stp rfl rfl rfl; apply s_slE; exact rfl; exact ⟨_, rfl⟩; exact rfl; omega; omega; simp only [byA_length, List.length_append, List.length_cons, List.length_nil, List.length_take, List.length_drop, List.length_replicate, List.length_map, Nat.mul_one, nameB_length, flat_length, List.length_set, inA_length] <;> omega
       dsimp only [Nat.reduceAdd, Nat.reduceMul, Nat.reduceSub, List.nil_append, List.cons_append, nbk, List.map_cons, List.map_nil]; apply Trc.stp rfl rfl rfl; apply s_move; exact rfl; dsimp only [Nat.reduceAdd, Nat.reduceMul, List.nil_append]
       apply Trc.stp rfl rfl rfl; apply s_move; exact rfl; dsimp only [Nat.reduceAdd, Nat.reduceMul, List.nil_append]
       apply Trc.stp rfl rfl rfl; apply s_subn; exact rfl; exact rfl; omega; omega; dsimp only [Nat.reduceAdd, Nat.reduceMul, Nat.reduceSub, List.nil_append, List.cons_append, nbk, List.map_cons, List.map_nil]
       apply Trc.stp rfl rfl rfl; apply s_call (f := 110) rfl; apply evs.cons rfl; apply evs.cons rfl; exact evs.nil; apply ArgL.cons
       exact arg_clo; apply ArgL.cons; exact arg_clo; exact ArgL.nil; exact hhi _; exact Nat.le_of_ble_eq_true rfl; dsimp only [Nat.reduceAdd, Nat.reduceMul, Nat.reduceSub, List.nil_append, List.cons_append, nbk, List.map_cons, List.map_nil]
       apply Trc.stp rfl rfl rfl; apply s_move; exact rfl; dsimp only [Nat.reduceAdd, Nat.reduceMul, List.nil_append]
       apply Trc.stp rfl rfl rfl; apply s_move; exact rfl; dsimp only [Nat.reduceAdd, Nat.reduceMul, List.nil_append]
       apply Trc.stp rfl rfl rfl; apply s_move; exact rfl; dsimp only [Nat.reduceAdd, Nat.reduceMul, List.nil_append]
       apply Trc.stp rfl rfl rfl; apply s_slEM; exact rfl; exact rfl; exact ⟨_, rfl⟩; exact ⟨_, rfl⟩; exact rfl; omega; omega
       omega; simp only [byA_length, List.length_append, List.length_cons, List.length_nil, List.length_take, List.length_drop, List.length_replicate, List.length_map, Nat.mul_one, nameB_length, flat_length, List.length_set, inA_length] <;> omega
       dsimp only [Nat.reduceAdd, Nat.reduceMul, Nat.reduceSub, List.nil_append, List.cons_append, nbk, List.map_cons, List.map_nil]; apply Trc.stp rfl rfl rfl; apply s_call (f := 68) rfl; apply evs.cons rfl; exact evs.nil; apply ArgL.cons; exact arg_clo; exact ArgL.nil
       exact hlo _; exact Nat.le_of_ble_eq_true rfl; dsimp only [Nat.reduceAdd, Nat.reduceMul, Nat.reduceSub, List.nil_append, List.cons_append, nbk, List.map_cons, List.map_nil]
       apply Trc.stp rfl rfl rfl; apply s_assign; exact rfl; dsimp only [Nat.reduceAdd, Nat.reduceMul, List.nil_append]
       apply Trc.stepN rfl rfl; exact wnt_n rfl; apply s_storeW; exact rfl; exact rfl; exact rfl; exact rfl; rfl; exact rfl; dsimp only [Nat.reduceAdd, Nat.reduceMul, Nat.reduceSub, List.nil_append, List.cons_append, nbk, List.map_cons, List.map_nil]
       exact Trc.done _ _ _; kernel_rfl; exact rfl; refine thn_n ?_; refine Gol.seq ?_; apply Gol.any; kernel_rfl
       apply Trc.stp rfl rfl rfl; apply s_move; exact rfl; dsimp only [Nat.reduceAdd, Nat.reduceMul, List.nil_append]
       apply Trc.stp rfl rfl rfl; apply s_move; exact rfl; dsimp only [Nat.reduceAdd, Nat.reduceMul, List.nil_append]
       apply Trc.stp rfl rfl rfl; apply s_len; exact rfl; exact ln_sl; dsimp only [Nat.reduceAdd, Nat.reduceMul, List.nil_append]
       apply Trc.stp rfl rfl rfl; apply s_move; exact rfl; dsimp only [Nat.reduceAdd, Nat.reduceMul, List.nil_append]
       apply Trc.stp rfl rfl rfl; apply s_len; exact rfl; exact ln_sl; dsimp only [Nat.reduceAdd, Nat.reduceMul, List.nil_append]
       apply Trc.stp rfl rfl rfl; apply s_slLM; exact rfl; exact rfl; exact ⟨_, rfl⟩; exact ⟨_, rfl⟩; exact rfl; omega; omega
       omega; exact rfl; dsimp only [Nat.reduceAdd, Nat.reduceMul, Nat.reduceSub, List.nil_append, List.cons_append, nbk, List.map_cons, List.map_nil]; apply Trc.stp rfl rfl rfl; apply s_loadW; exact rfl; exact rfl; exact rfl; exact agu_cuv _; dsimp only [Nat.reduceAdd, Nat.reduceMul, List.nil_append]
       apply Trc.stp rfl rfl rfl; apply s_lit; apply PA.cons; exact rfl; exact rfl; exact rfl; exact PA.nil; exact rfl; omega
       dsimp only [Nat.reduceAdd, Nat.reduceMul, Nat.reduceSub, List.nil_append, List.cons_append, nbk, List.map_cons, List.map_nil]; apply Trc.stp rfl rfl rfl; apply s_appFull; exact rfl; exact fl_sb; apply rd_sb rfl; simp only [byA_length, List.length_append, List.length_cons, List.length_nil, List.length_take, List.length_drop, List.length_replicate, List.length_map, Nat.mul_one, nameB_length, flat_length, List.length_set, inA_length] <;> omega
       exact rfl; apply rd_sl rfl; rfl; omega; omega; dsimp only [Nat.reduceAdd, Nat.reduceMul, Nat.reduceSub, List.nil_append, List.cons_append, nbk, List.map_cons, List.map_nil]
       apply Trc.stp rfl rfl rfl; apply s_assign; exact rfl; dsimp only [Nat.reduceAdd, Nat.reduceMul, List.nil_append]
       exact Trc.done _ _ _; kernel_rfl; exact rfl; refine thn_n ?_; refine Gol.ret ?_)
      rw [grow_eq hpl, path_hi S hl h2 hk', dep_hi h2 hk']
      simp only [Nat.sub_zero]
      (apply RetQ.mk (by first | exact .inr rfl | exact .inl rfl); apply res_1 rfl; exact res_tmp rfl; exact out_sl rfl)
theorem path_yes (n : Nat) (l : List UInt64) (i : Nat) (f : Bool) (hl : l.length = n) (hi : i < n) (hb : n ≤ 100000000) : Fresh Tryz.prog 76 [.ex n f (byA (flat l)), .v (.int .i64 (i : Int))] (fun k => .tp [.sl k (depN i n), .v (.bool true)]) [⟨byA (flat (pathN S l i)), 30, 8⟩] := by
  have hc : ¬ ((depN i n : Int) < 0) := by omega
  refine Fresh.of (fn := Tryz.f76) Tryz.func76 rfl (Nat.le_of_ble_eq_true rfl) fun w => ?_
  (refine Gol.seq ?_; apply Gol.region; apply Trc.stp rfl rfl rfl; apply s_assign; exact rfl
   dsimp only [Nat.reduceAdd, Nat.reduceMul, List.nil_append]; apply Trc.stp rfl rfl rfl; apply s_assign; exact rfl; dsimp only [Nat.reduceAdd, Nat.reduceMul, List.nil_append]
   exact Trc.done _ _ _; exact rfl; refine thn_n ?_; refine Gol.seq ?_; refine Gol.seq ?_; apply Gol.region
   apply Trc.stp rfl rfl rfl; apply s_move; exact rfl; dsimp only [Nat.reduceAdd, Nat.reduceMul, List.nil_append]
   apply Trc.stp rfl rfl rfl; apply s_move; exact rfl; dsimp only [Nat.reduceAdd, Nat.reduceMul, List.nil_append]
   apply Trc.stp rfl rfl rfl; apply s_len; exact rfl; exact ln_ex; dsimp only [Nat.reduceAdd, Nat.reduceMul, List.nil_append]
   apply Trc.stp rfl rfl rfl; apply s_call (f := 109) rfl; apply evs.cons rfl; apply evs.cons rfl; exact evs.nil; apply ArgL.cons
   exact arg_clo; apply ArgL.cons; exact arg_clo; exact ArgL.nil; exact depth_yes i n hi (by omega); exact Nat.le_of_ble_eq_true rfl; dsimp only [Nat.reduceAdd, Nat.reduceMul, Nat.reduceSub, List.nil_append, List.cons_append, nbk, List.map_cons, List.map_nil]
   apply Trc.stp rfl rfl rfl; apply s_ltn; exact rfl; exact rfl; dsimp only [Nat.reduceAdd, Nat.reduceMul, List.nil_append]
   exact Trc.done _ _ _; exact rfl; refine thn_n ?_)
  refine Gol.cond_f rfl (by simp) ?_
  (refine Gol.skip ?_; refine thn_n ?_; refine Gol.seq ?_; apply Gol.region; apply Trc.stp rfl rfl rfl; apply s_move; exact rfl; dsimp only [Nat.reduceAdd, Nat.reduceMul, List.nil_append]
   apply Trc.stp rfl rfl rfl; apply s_move; exact rfl; dsimp only [Nat.reduceAdd, Nat.reduceMul, List.nil_append]
   apply Trc.stp rfl rfl rfl; apply s_call (f := 110) rfl; apply evs.cons rfl; apply evs.cons rfl; exact evs.nil; apply ArgL.cons
   exact arg_clo; apply ArgL.cons; exact arg_clo; exact ArgL.nil; exact climb_ok S hS n l i _ hl hi hb; exact Nat.le_of_ble_eq_true rfl; dsimp only [Nat.reduceAdd, Nat.reduceMul, Nat.reduceSub, List.nil_append, List.cons_append, nbk, List.map_cons, List.map_nil]
   apply Trc.stp rfl rfl rfl; apply s_assign; exact rfl; dsimp only [Nat.reduceAdd, Nat.reduceMul, List.nil_append]
   apply Trc.stp rfl rfl rfl; apply s_assign; exact rfl; dsimp only [Nat.reduceAdd, Nat.reduceMul, List.nil_append]
   exact Trc.done _ _ _; exact rfl; refine thn_n ?_; refine Gol.ret ?_)
  (apply RetQ.mk (by first | exact .inr rfl | exact .inl rfl); apply res_2 rfl; exact res_tmp rfl; exact res_tmp rfl; exact out_tp rfl)
omit hS
def compN (leaf : UInt64) (i n : Nat) (p : List UInt64) : UInt64 := if h : 2 ≤ n then (if i < splitN n then S (0x12 :: (nameB (compN leaf i (splitN n) (p.take (depN i n - 1))) ++ nameB (p.getD (depN i n - 1) 0))) else S (0x12 :: (nameB (p.getD (depN i n - 1) 0) ++ nameB (compN leaf (i - splitN n) (n - splitN n) (p.take (depN i n - 1)))))) else S (0x11 :: nameB leaf)
termination_by n
decreasing_by
  · exact (split_bd n h).2.1
  · have := split_bd n h; omega
theorem comp_lo {leaf : UInt64} {i n : Nat} {p : List UInt64} (h : 2 ≤ n) (hi : i < splitN n) : compN S leaf i n p = S (0x12 :: (nameB (compN S leaf i (splitN n) (p.take (depN i n - 1))) ++ nameB (p.getD (depN i n - 1) 0))) := by rw [compN, dif_pos h, if_pos hi]
theorem comp_hi {leaf : UInt64} {i n : Nat} {p : List UInt64} (h : 2 ≤ n) (hi : ¬ i < splitN n) : compN S leaf i n p = S (0x12 :: (nameB (p.getD (depN i n - 1) 0) ++ nameB (compN S leaf (i - splitN n) (n - splitN n) (p.take (depN i n - 1))))) := by rw [compN, dif_pos h, if_neg hi]
theorem comp_one {leaf : UInt64} {i n : Nat} {p : List UInt64} (h : ¬ 2 ≤ n) : compN S leaf i n p = S (0x11 :: nameB leaf) := by rw [compN, dif_neg h]
include hS
theorem computed_ok (leaf : UInt64) (n : Nat) : ∀ (i : Nat) (p : List UInt64) (f : Bool) (d : Nat), i < n → n ≤ 9223372036854775807 → d = depN i n → p.length = d → d ≤ 140737488355000 → Fresh Tryz.prog 113 [.v (.agg (nameC leaf)), .v (.int .i64 (i : Int)), .v (.int .i64 (n : Int)), .ex d f (byA (flat p))] (fun _ => .v (.agg (nameC (compN S leaf i n p)))) [] := by
  induction n using Nat.strongRecOn with
  | _ n ih =>
    intro i p f d hi hb hd hp hdb
    by_cases h1 : n = 1
    · subst h1
      rw [comp_one S (by decide)]
      refine Fresh.of (fn := Tryz.f113) Tryz.func113 rfl (Nat.le_of_ble_eq_true rfl) fun w => ?_
      (refine Gol.seq ?_; apply Gol.region; apply Trc.stp rfl rfl rfl; apply s_box; exact rfl
       exact rfl; dsimp only [Nat.reduceAdd, Nat.reduceMul, Nat.reduceSub, List.nil_append, List.cons_append, nbk, List.map_cons, List.map_nil]; apply Trc.stp rfl rfl rfl; apply s_alloc; dsimp only [Nat.reduceAdd, Nat.reduceMul, Nat.reduceSub, List.nil_append, List.cons_append, nbk, List.map_cons, List.map_nil]
       exact Trc.done _ _ _; exact rfl; refine thn_n ?_; refine Gol.seq ?_; refine Gol.seq ?_; apply Gol.region
       apply Trc.stp rfl rfl rfl; apply s_move; exact rfl; dsimp only [Nat.reduceAdd, Nat.reduceMul, List.nil_append]
       apply Trc.stp rfl rfl rfl; apply s_eqn; exact rfl; exact rfl; dsimp only [Nat.reduceAdd, Nat.reduceMul, List.nil_append]
       exact Trc.done _ _ _; exact rfl; refine thn_n ?_)
      refine Gol.cond_t rfl (by decide) ?_
      (refine Gol.seq ?_; apply Gol.region; apply Trc.stp rfl rfl rfl; apply s_loadW; exact rfl
       exact rfl; exact rfl; exact agu_cuv _; dsimp only [Nat.reduceAdd, Nat.reduceMul, List.nil_append]
       apply Trc.stp rfl rfl rfl; apply s_call (f := 103) rfl; apply evs.cons rfl; exact evs.nil; apply ArgL.cons; exact arg_clo
       exact ArgL.nil; exact single_ok S hS _; exact Nat.le_of_ble_eq_true rfl; dsimp only [Nat.reduceAdd, Nat.reduceMul, Nat.reduceSub, List.nil_append, List.cons_append, nbk, List.map_cons, List.map_nil]
       apply Trc.stepN rfl rfl; exact wnt_n rfl; apply s_storeW; exact rfl; exact rfl; exact rfl; exact rfl; rfl; exact rfl; dsimp only [Nat.reduceAdd, Nat.reduceMul, Nat.reduceSub, List.nil_append, List.cons_append, nbk, List.map_cons, List.map_nil]
       exact Trc.done _ _ _; exact rfl; refine thn_n ?_; refine Gol.ret ?_; refine thn_r ?_)
      (apply RetQ.mk (by first | exact .inr rfl | exact .inl rfl); apply res_1 rfl; exact res_cell rfl rfl rfl (agu_cuv _); exact out_val)
    have h2 : 2 ≤ n := by omega
    have hsp := split_bd n h2
    refine Fresh.of (fn := Tryz.f113) Tryz.func113 rfl (Nat.le_of_ble_eq_true rfl) fun w => ?_
    (refine Gol.seq ?_; apply Gol.region; apply Trc.stp rfl rfl rfl; apply s_box; exact rfl
     exact rfl; dsimp only [Nat.reduceAdd, Nat.reduceMul, Nat.reduceSub, List.nil_append, List.cons_append, nbk, List.map_cons, List.map_nil]; apply Trc.stp rfl rfl rfl; apply s_alloc; dsimp only [Nat.reduceAdd, Nat.reduceMul, Nat.reduceSub, List.nil_append, List.cons_append, nbk, List.map_cons, List.map_nil]
     exact Trc.done _ _ _; exact rfl; refine thn_n ?_; refine Gol.seq ?_; refine Gol.seq ?_; apply Gol.region
     apply Trc.stp rfl rfl rfl; apply s_move; exact rfl; dsimp only [Nat.reduceAdd, Nat.reduceMul, List.nil_append]
     apply Trc.stp rfl rfl rfl; apply s_eqn; exact rfl; exact rfl; dsimp only [Nat.reduceAdd, Nat.reduceMul, List.nil_append]
     exact Trc.done _ _ _; exact rfl; refine thn_n ?_)
    refine Gol.cond_f rfl (decide_eq_false h1) ?_
    by_cases hk' : i < splitN n
    · have hdd := dep_lo h2 hk'
      have hlo : ∀ ff, Fresh Tryz.prog 113 [.v (.agg (nameC leaf)), .v (.int .i64 (i : Int)), .v (.int .i64 (splitN n : Int)), .ex (d - 1 - 0) ff (List.take ((d - 1 - 0) * 8) (List.drop 0 (byA (flat p))))] (fun _ => .v (.agg (nameC (compN S leaf i (splitN n) (p.take (d - 1)))))) [] := fun ff => by
        rw [seg_lo]; exact ih _ (by omega) i _ ff _ hk' (by omega) (by omega) (by simp; omega) (by omega)
      (refine Gol.skip ?_; refine thn_n ?_; refine Gol.seq ?_; apply Gol.region; apply Trc.stp rfl rfl rfl; apply s_move; exact rfl; dsimp only [Nat.reduceAdd, Nat.reduceMul, List.nil_append]
       apply Trc.stp rfl rfl rfl; apply s_call (f := 104) rfl; apply evs.cons rfl; exact evs.nil; apply ArgL.cons; exact arg_clo
       exact ArgL.nil; exact split_ok n (by omega) (by omega); exact Nat.le_of_ble_eq_true rfl; dsimp only [Nat.reduceAdd, Nat.reduceMul, Nat.reduceSub, List.nil_append, List.cons_append, nbk, List.map_cons, List.map_nil]
       apply Trc.stp rfl rfl rfl; apply s_move; exact rfl; dsimp only [Nat.reduceAdd, Nat.reduceMul, List.nil_append]
       apply Trc.stp rfl rfl rfl; apply s_len; exact rfl; exact ln_ex; dsimp only [Nat.reduceAdd, Nat.reduceMul, List.nil_append]
       apply Trc.stp rfl rfl rfl; apply s_subn; exact rfl; exact rfl; simp <;> omega; omega; dsimp only [Nat.reduceAdd, Nat.reduceMul, Nat.reduceSub, List.nil_append, List.cons_append, nbk, List.map_cons, List.map_nil]
       apply Trc.stp rfl rfl rfl; apply s_assign; exact rfl; dsimp only [Nat.reduceAdd, Nat.reduceMul, List.nil_append]
       apply Trc.stp rfl rfl rfl; apply s_assign; exact rfl; dsimp only [Nat.reduceAdd, Nat.reduceMul, List.nil_append]
       exact Trc.done _ _ _; exact rfl; refine thn_n ?_; refine Gol.seq ?_; refine Gol.seq ?_; apply Gol.region
       apply Trc.stp rfl rfl rfl; apply s_move; exact rfl; dsimp only [Nat.reduceAdd, Nat.reduceMul, List.nil_append]
       apply Trc.stp rfl rfl rfl; apply s_move; exact rfl; dsimp only [Nat.reduceAdd, Nat.reduceMul, List.nil_append]
       apply Trc.stp rfl rfl rfl; apply s_ltn; exact rfl; exact rfl; dsimp only [Nat.reduceAdd, Nat.reduceMul, List.nil_append]
       exact Trc.done _ _ _; exact rfl; refine thn_n ?_)
      refine Gol.cond_t rfl (decide_eq_true hk') ?_
      rw [comp_lo S h2 hk', ← hd]
      (refine Gol.seq ?_; apply Gol.any; kernel_rfl; apply Trc.stp rfl rfl rfl; apply s_loadW
       exact rfl; exact rfl; exact rfl; exact agu_cuv _; dsimp only [Nat.reduceAdd, Nat.reduceMul, List.nil_append]
       apply Trc.stp rfl rfl rfl; apply s_move; exact rfl; dsimp only [Nat.reduceAdd, Nat.reduceMul, List.nil_append]
       apply Trc.stp rfl rfl rfl; apply s_move; exact rfl; dsimp only [Nat.reduceAdd, Nat.reduceMul, List.nil_append]
       apply Trc.stp rfl rfl rfl; apply s_move; exact rfl; dsimp only [Nat.reduceAdd, Nat.reduceMul, List.nil_append]
       apply Trc.stp rfl rfl rfl; apply s_move; exact rfl; dsimp only [Nat.reduceAdd, Nat.reduceMul, List.nil_append]
       apply Trc.stp rfl rfl rfl; apply s_slE; exact rfl; exact rfl; exact ⟨_, rfl⟩; omega; omega; simp only [byA_length, List.length_append, List.length_cons, List.length_nil, List.length_take, List.length_drop, List.length_replicate, List.length_map, Nat.mul_one, nameB_length, flat_length, List.length_set, inA_length] <;> omega
       dsimp only [Nat.reduceAdd, Nat.reduceMul, Nat.reduceSub, List.nil_append, List.cons_append, nbk, List.map_cons, List.map_nil]; apply Trc.stp rfl rfl rfl; apply s_call (f := 113) rfl; apply evs.cons rfl; apply evs.cons rfl; apply evs.cons rfl; apply evs.cons rfl
       exact evs.nil; apply ArgL.cons; exact arg_clo; apply ArgL.cons; exact arg_clo; apply ArgL.cons; exact arg_clo; apply ArgL.cons; exact arg_clo; exact ArgL.nil
       exact hlo _; exact Nat.le_of_ble_eq_true rfl; dsimp only [Nat.reduceAdd, Nat.reduceMul, Nat.reduceSub, List.nil_append, List.cons_append, nbk, List.map_cons, List.map_nil]
       apply Trc.stp rfl rfl rfl; apply s_move; exact rfl; dsimp only [Nat.reduceAdd, Nat.reduceMul, List.nil_append]
       apply Trc.stp rfl rfl rfl; apply s_move; exact rfl; dsimp only [Nat.reduceAdd, Nat.reduceMul, List.nil_append]
       apply Trc.stp rfl rfl rfl; apply s_ixe; exact rfl; exact rfl; omega; exact flat_ne (by omega); dsimp only [Nat.reduceAdd, Nat.reduceMul, List.nil_append]
       apply Trc.stp rfl rfl rfl; apply s_loadEN; exact rfl; simp only [byA_length, List.length_append, List.length_cons, List.length_nil, List.length_take, List.length_drop, List.length_replicate, List.length_map, Nat.mul_one, nameB_length, flat_length, List.length_set, inA_length] <;> omega
       exact agu_nm (by omega); dsimp only [Nat.reduceAdd, Nat.reduceMul, List.nil_append]
       apply Trc.stp rfl rfl rfl; apply s_call (f := 105) rfl; apply evs.cons rfl; apply evs.cons rfl; apply evs.cons rfl
       exact evs.nil; apply ArgL.cons; exact arg_clo; apply ArgL.cons; exact arg_clo; apply ArgL.cons; exact arg_clo; exact ArgL.nil; exact hS.pair 0x12 _ _
       exact Nat.le_of_ble_eq_true rfl; dsimp only [Nat.reduceAdd, Nat.reduceMul, Nat.reduceSub, List.nil_append, List.cons_append, nbk, List.map_cons, List.map_nil]
       apply Trc.stepN rfl rfl; exact wnt_n rfl; apply s_storeW; exact rfl; exact rfl; exact rfl; exact rfl; rfl; exact rfl; dsimp only [Nat.reduceAdd, Nat.reduceMul, Nat.reduceSub, List.nil_append, List.cons_append, nbk, List.map_cons, List.map_nil]
       exact Trc.done _ _ _; kernel_rfl; exact rfl; refine thn_n ?_; refine Gol.ret ?_; refine thn_r ?_)
      (apply RetQ.mk (by first | exact .inr rfl | exact .inl rfl); apply res_1 rfl; exact res_cell rfl rfl rfl (agu_cuv _); exact out_val)
    · have hdd := dep_hi h2 hk'
      have hhi : ∀ ff, Fresh Tryz.prog 113 [.v (.agg (nameC leaf)), .v (.int .i64 ((i - splitN n : Nat) : Int)), .v (.int .i64 ((n - splitN n : Nat) : Int)), .ex (d - 1 - 0) ff (List.take ((d - 1 - 0) * 8) (List.drop 0 (byA (flat p))))] (fun _ => .v (.agg (nameC (compN S leaf (i - splitN n) (n - splitN n) (p.take (d - 1)))))) [] := fun ff => by
        rw [seg_lo]; exact ih _ (by omega) _ _ ff _ (by omega) (by omega) (by omega) (by simp; omega) (by omega)
      (refine Gol.skip ?_; refine thn_n ?_; refine Gol.seq ?_; apply Gol.region; apply Trc.stp rfl rfl rfl; apply s_move; exact rfl; dsimp only [Nat.reduceAdd, Nat.reduceMul, List.nil_append]
       apply Trc.stp rfl rfl rfl; apply s_call (f := 104) rfl; apply evs.cons rfl; exact evs.nil; apply ArgL.cons; exact arg_clo
       exact ArgL.nil; exact split_ok n (by omega) (by omega); exact Nat.le_of_ble_eq_true rfl; dsimp only [Nat.reduceAdd, Nat.reduceMul, Nat.reduceSub, List.nil_append, List.cons_append, nbk, List.map_cons, List.map_nil]
       apply Trc.stp rfl rfl rfl; apply s_move; exact rfl; dsimp only [Nat.reduceAdd, Nat.reduceMul, List.nil_append]
       apply Trc.stp rfl rfl rfl; apply s_len; exact rfl; exact ln_ex; dsimp only [Nat.reduceAdd, Nat.reduceMul, List.nil_append]
       apply Trc.stp rfl rfl rfl; apply s_subn; exact rfl; exact rfl; simp <;> omega; omega; dsimp only [Nat.reduceAdd, Nat.reduceMul, Nat.reduceSub, List.nil_append, List.cons_append, nbk, List.map_cons, List.map_nil]
       apply Trc.stp rfl rfl rfl; apply s_assign; exact rfl; dsimp only [Nat.reduceAdd, Nat.reduceMul, List.nil_append]
       apply Trc.stp rfl rfl rfl; apply s_assign; exact rfl; dsimp only [Nat.reduceAdd, Nat.reduceMul, List.nil_append]
       exact Trc.done _ _ _; exact rfl; refine thn_n ?_; refine Gol.seq ?_; refine Gol.seq ?_; apply Gol.region
       apply Trc.stp rfl rfl rfl; apply s_move; exact rfl; dsimp only [Nat.reduceAdd, Nat.reduceMul, List.nil_append]
       apply Trc.stp rfl rfl rfl; apply s_move; exact rfl; dsimp only [Nat.reduceAdd, Nat.reduceMul, List.nil_append]
       apply Trc.stp rfl rfl rfl; apply s_ltn; exact rfl; exact rfl; dsimp only [Nat.reduceAdd, Nat.reduceMul, List.nil_append]
       exact Trc.done _ _ _; exact rfl; refine thn_n ?_)
      refine Gol.cond_f rfl (decide_eq_false hk') ?_
      rw [comp_hi S h2 hk', ← hd]
      (refine Gol.skip ?_; refine thn_n ?_; refine Gol.seq ?_; apply Gol.any; kernel_rfl
       apply Trc.stp rfl rfl rfl; apply s_move; exact rfl; dsimp only [Nat.reduceAdd, Nat.reduceMul, List.nil_append]
       apply Trc.stp rfl rfl rfl; apply s_move; exact rfl; dsimp only [Nat.reduceAdd, Nat.reduceMul, List.nil_append]
       apply Trc.stp rfl rfl rfl; apply s_ixe; exact rfl; exact rfl; omega; exact flat_ne (by omega); dsimp only [Nat.reduceAdd, Nat.reduceMul, List.nil_append]
       apply Trc.stp rfl rfl rfl; apply s_loadEN; exact rfl; simp only [byA_length, List.length_append, List.length_cons, List.length_nil, List.length_take, List.length_drop, List.length_replicate, List.length_map, Nat.mul_one, nameB_length, flat_length, List.length_set, inA_length] <;> omega
       exact agu_nm (by omega); dsimp only [Nat.reduceAdd, Nat.reduceMul, List.nil_append]
       apply Trc.stp rfl rfl rfl; apply s_loadW; exact rfl; exact rfl; exact rfl; exact agu_cuv _; dsimp only [Nat.reduceAdd, Nat.reduceMul, List.nil_append]
       apply Trc.stp rfl rfl rfl; apply s_move; exact rfl; dsimp only [Nat.reduceAdd, Nat.reduceMul, List.nil_append]
       apply Trc.stp rfl rfl rfl; apply s_move; exact rfl; dsimp only [Nat.reduceAdd, Nat.reduceMul, List.nil_append]
       apply Trc.stp rfl rfl rfl; apply s_subn; exact rfl; exact rfl; omega; omega; dsimp only [Nat.reduceAdd, Nat.reduceMul, Nat.reduceSub, List.nil_append, List.cons_append, nbk, List.map_cons, List.map_nil]
       apply Trc.stp rfl rfl rfl; apply s_move; exact rfl; dsimp only [Nat.reduceAdd, Nat.reduceMul, List.nil_append]
       apply Trc.stp rfl rfl rfl; apply s_move; exact rfl; dsimp only [Nat.reduceAdd, Nat.reduceMul, List.nil_append]
       apply Trc.stp rfl rfl rfl; apply s_subn; exact rfl; exact rfl; omega; omega; dsimp only [Nat.reduceAdd, Nat.reduceMul, Nat.reduceSub, List.nil_append, List.cons_append, nbk, List.map_cons, List.map_nil]
       apply Trc.stp rfl rfl rfl; apply s_move; exact rfl; dsimp only [Nat.reduceAdd, Nat.reduceMul, List.nil_append]
       apply Trc.stp rfl rfl rfl; apply s_move; exact rfl; dsimp only [Nat.reduceAdd, Nat.reduceMul, List.nil_append]
       apply Trc.stp rfl rfl rfl; apply s_slE; exact rfl; exact rfl; exact ⟨_, rfl⟩; omega; omega; simp only [byA_length, List.length_append, List.length_cons, List.length_nil, List.length_take, List.length_drop, List.length_replicate, List.length_map, Nat.mul_one, nameB_length, flat_length, List.length_set, inA_length] <;> omega
       dsimp only [Nat.reduceAdd, Nat.reduceMul, Nat.reduceSub, List.nil_append, List.cons_append, nbk, List.map_cons, List.map_nil]; apply Trc.stp rfl rfl rfl; apply s_call (f := 113) rfl; apply evs.cons rfl; apply evs.cons rfl; apply evs.cons rfl; apply evs.cons rfl
       exact evs.nil; apply ArgL.cons; exact arg_clo; apply ArgL.cons; exact arg_clo; apply ArgL.cons; exact arg_clo; apply ArgL.cons; exact arg_clo; exact ArgL.nil
       exact hhi _; exact Nat.le_of_ble_eq_true rfl; dsimp only [Nat.reduceAdd, Nat.reduceMul, Nat.reduceSub, List.nil_append, List.cons_append, nbk, List.map_cons, List.map_nil]
       apply Trc.stp rfl rfl rfl; apply s_call (f := 105) rfl; apply evs.cons rfl; apply evs.cons rfl; apply evs.cons rfl
       exact evs.nil; apply ArgL.cons; exact arg_clo; apply ArgL.cons; exact arg_clo; apply ArgL.cons; exact arg_clo; exact ArgL.nil; exact hS.pair 0x12 _ _
       exact Nat.le_of_ble_eq_true rfl; dsimp only [Nat.reduceAdd, Nat.reduceMul, Nat.reduceSub, List.nil_append, List.cons_append, nbk, List.map_cons, List.map_nil]
       apply Trc.stepN rfl rfl; exact wnt_n rfl; apply s_storeW; exact rfl; exact rfl; exact rfl; exact rfl; rfl; exact rfl; dsimp only [Nat.reduceAdd, Nat.reduceMul, Nat.reduceSub, List.nil_append, List.cons_append, nbk, List.map_cons, List.map_nil]
       exact Trc.done _ _ _; kernel_rfl; exact rfl; refine thn_n ?_; refine Gol.ret ?_)
      (apply RetQ.mk (by first | exact .inr rfl | exact .inl rfl); apply res_1 rfl; exact res_cell rfl rfl rfl (agu_cuv _); exact out_val)
end
end Go.Proofs.YtkkeeokeihkagaaGreat


/-
  The program logic: calls that hand back what they were given. No condition.
-/
namespace Go.Proofs.YtkkeeokeihkagaaGreat
open Go.RowKit
section
variable {P : Program} {k : Nat} {H : AH} {T : AT} {d : Option Tmp} {ty : TypeId} {ps : String} {af : Array Edge} {gd : Option (Nat × Bool)}
end
/-- what a slice of memory that nobody changes is -/
theorem ex_slice {E : Env} {n : Nat} {f : Bool} {cs : List AV} {x : Value} (h : RV E (.ex n f cs) x) : ∃ A c, x = .slice A n c ∧ n ≤ c := by
  cases h with
  | ex0 n f A c hn hf => exact ⟨A, c, rfl, hn⟩
  | ex n f cs g o c xs hn hf hg hS hl hx h => exact ⟨_, c, rfl, hn⟩
end Go.Proofs.YtkkeeokeihkagaaGreat

