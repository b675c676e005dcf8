/-
  Texts laid together: Trn, Trn2, Bld, Ty, Tb, Row, Open, Bri, Base, Num, Hash, Word, Sum, Tag, HF, St, St2, St3, Frz, Apw, Mrk, Mrk2, Cal, Mrk3, Ins, InsD, InsN, St4, St5, St6, St7, St8. Conditions: as told in each.
-/
import Derived.Test.YtneeclacmhhblaaGreatKR1
set_option linter.unusedSimpArgs false
set_option linter.unusedVariables false
set_option linter.unusedSectionVars false
namespace Go.Proofs.YtneeclacmhhblaaGreat
open Go.RowKit
def OutM (H : AH) (u : AV) (v : Nat → AV) (bs : List ABlk) : Prop :=
  ∀ (w0 : World) (M : Mod) (E : Env) (x : Value), Sta w0 M H E → RV E u x → ∃ ls : Nat → Loc, (∀ j g, j < bs.length → (ls j).g = some g → w0.heap.size ≤ g ∨ M g) ∧ (∀ i j g, i < bs.length → j < bs.length → (ls i).g = some g → (ls j).g = some g → i = j) ∧
    ∀ (k : Nat) (E' : Env), E'.w = E.w → (∀ j, j < bs.length → E'.D (k + j) ∧ E'.L (k + j) = ls j) → (∀ j blk, bs[j]? = some blk → BOK E' (ls j) blk) ∧ RV E' (v k) x
theorem OutM.out {H : AH} {u : AV} {v : Nat → AV} {bs : List ABlk} (h : OutM H u v bs) : Outv H u v bs := fun w0 E x hs hx => by
  obtain ⟨ls, h1, h2, h3⟩ := h w0 _ E x hs hx
  exact ⟨ls, fun j g hj e => (h1 j g hj e).resolve_right id, h2, fun k E' hw _ hD => h3 k E' hw hD⟩
inductive Ot (ids : List Nat) (k : Nat) : AV → AV → Prop
  | v {u : AV} (h : Val u) : Ot ids k u u
  | sl {j b n : Nat} (h : ids[j]? = some b) : Ot ids k (.sl b n) (.sl (k + j) n)
  | sc {j b n c : Nat} (h : ids[j]? = some b) : Ot ids k (.sc b n c) (.sl (k + j) n)
  | ag {us vs : List AV} (hl : us.length = vs.length) (h : ∀ (j : Nat) u v, us[j]? = some u → vs[j]? = some v → Ot ids k u v) : Ot ids k (.ag us) (.ag vs)
  | tp {us vs : List AV} (hl : us.length = vs.length) (h : ∀ (j : Nat) u v, us[j]? = some u → vs[j]? = some v → Ot ids k u v) : Ot ids k (.tp us) (.tp vs)
def OtL (ids : List Nat) (k : Nat) (us vs : List AV) : Prop := us.length = vs.length ∧ ∀ (j : Nat) u v, us[j]? = some u → vs[j]? = some v → Ot ids k u v
theorem OtL.nil {ids : List Nat} {k : Nat} : OtL ids k [] [] := ⟨rfl, fun j u v h => by simp at h⟩
theorem OtL.cons {ids : List Nat} {k : Nat} {u v : AV} {us vs : List AV} (h : Ot ids k u v) (t : OtL ids k us vs) : OtL ids k (u :: us) (v :: vs) := ⟨by simp [t.1], fun j a b ha hb => by
  cases j with
  | zero => simp at ha hb; subst ha hb; exact h
  | succ j => exact t.2 j a b (by simpa using ha) (by simpa using hb)⟩
theorem Ot.agL {ids : List Nat} {k : Nat} {us vs : List AV} (h : OtL ids k us vs) : Ot ids k (.ag us) (.ag vs) := .ag h.1 h.2
theorem Ot.tpL {ids : List Nat} {k : Nat} {us vs : List AV} (h : OtL ids k us vs) : Ot ids k (.tp us) (.tp vs) := .tp h.1 h.2
theorem Ot.rv {ids : List Nat} {k : Nat} {E E' : Env} {n : Nat} (hn : ids.length = n) (hD : ∀ (j b : Nat), ids[j]? = some b → E'.D (k + j) ∧ E'.L (k + j) = E.L b) {u v : AV} (h : Ot ids k u v) : ∀ {x : Value}, RV E u x → RV E' v x := by
  induction h with
  | v h => exact fun hx => h.val E E' _ hx
  | @sl j b n h =>
    intro x hx
    obtain ⟨d1, d2⟩ := hD j b h
    cases hx with | sl b n _ hn hm => rw [← d2] at hn hm ⊢; exact .sl _ _ d1 hn hm
  | @sc j b n c h =>
    intro x hx
    obtain ⟨d1, d2⟩ := hD j b h
    cases hx with | sc b n c _ hc hn hm => subst hc; rw [← d2] at hn hm ⊢; exact .sl _ _ d1 hn hm
  | @ag us vs hl h ih =>
    intro x hx
    cases hx with
    | ag us xs hl' hx => exact .ag _ _ (hl'.trans hl) (fun j c x hc hx' => by
        have hlt : j < us.length := by rw [hl]; exact (List.getElem?_eq_some_iff.1 hc).1
        exact ih j _ c (List.getElem?_eq_getElem hlt) hc (hx j _ x (List.getElem?_eq_getElem hlt) hx'))
  | @tp us vs hl h ih =>
    intro x hx
    cases hx with
    | tp us xs hl' hx => exact .tp _ _ (hl'.trans hl) (fun j c x hc hx' => by
        have hlt : j < us.length := by rw [hl]; exact (List.getElem?_eq_some_iff.1 hc).1
        exact ih j _ c (List.getElem?_eq_getElem hlt) hc (hx j _ x (List.getElem?_eq_getElem hlt) hx'))
inductive OBs (H : AH) : List Nat → List ABlk → Prop
  | nil : OBs H [] []
  | cons {b : Nat} {ids : List Nat} {blk : ABlk} {bs : List ABlk} (hb : hk H b = some blk) (hv : ValL blk.cells) (t : OBs H ids bs) : OBs H (b :: ids) (blk :: bs)
  | cut {b : Nat} {ids : List Nat} {blk blk' : ABlk} {bs : List ABlk} (hb : hk H b = some blk') (hsz : Nat.blt 0 blk'.sz = true) (he : blk'.elem = blk.elem) (hz : blk'.sz = blk.sz) (hc : blk'.cells.take blk.cells.length = blk.cells) (hv : ValL blk.cells) (t : OBs H ids bs) : OBs H (b :: ids) (blk :: bs)
theorem OBs.get {H : AH} {ids : List Nat} {bs : List ABlk} (h : OBs H ids bs) : ids.length = bs.length ∧ ∀ (j b : Nat) (blk : ABlk), ids[j]? = some b → bs[j]? = some blk → ∃ blk', hk H b = some blk' ∧ blk'.elem = blk.elem ∧ blk'.sz = blk.sz ∧ blk'.cells.take blk.cells.length = blk.cells ∧ ValL blk.cells ∧ (0 < blk'.sz ∨ blk'.cells = blk.cells) := by
  induction h with
  | nil => exact ⟨rfl, fun j b blk h => by simp at h⟩
  | @cons b ids blk bs hb hv t ih =>
    refine ⟨by simp [ih.1], fun j b' blk' h1 h2 => ?_⟩
    cases j with
    | zero => simp at h1 h2; subst h1 h2; exact ⟨blk, hb, rfl, rfl, List.take_length, hv, .inr rfl⟩
    | succ j => exact ih.2 j b' blk' (by simpa using h1) (by simpa using h2)
  | @cut b ids blk blk2 bs hb hsz he hz hc hv t ih =>
    refine ⟨by simp [ih.1], fun j b' blk' h1 h2 => ?_⟩
    cases j with
    | zero => simp at h1 h2; subst h1 h2; exact ⟨blk2, hb, he, hz, hc, hv, .inl (by simpa [Nat.blt_eq] using hsz)⟩
    | succ j => exact ih.2 j b' blk' (by simpa using h1) (by simpa using h2)
def distinct : List Nat → Bool
  | [] => true
  | b :: l => l.all (fun c => !Nat.beq b c) && distinct l
theorem distinct_inj : ∀ {l : List Nat}, distinct l = true → ∀ i j b : Nat, l[i]? = some b → l[j]? = some b → i = j
  | [], _, i, j, b, h, _ => by simp at h
  | a :: l, hd, i, j, b, hi, hj => by
    simp only [distinct, Bool.and_eq_true] at hd
    have key : ∀ m, l[m]? = some a → False := fun m hm => by
      have := List.all_eq_true.1 hd.1 a (List.mem_of_getElem? hm)
      simp at this
    cases i with
    | zero =>
      simp at hi; subst hi
      cases j with
      | zero => rfl
      | succ j => exact absurd (by simpa using hj) (fun h => key j h)
    | succ i =>
      cases j with
      | zero => simp at hj; subst hj; exact absurd (by simpa using hi) (fun h => key i h)
      | succ j => rw [distinct_inj hd.2 i j b (by simpa using hi) (by simpa using hj)]
theorem out_ids {H : AH} {u : AV} {v : Nat → AV} {bs : List ABlk} (ids : List Nat) (hd : distinct ids = true) (hb : OBs H ids bs) (ho : ∀ k, Ot ids k u (v k)) : OutM H u v bs := fun w0 M E x hs hx => by
  obtain ⟨hl, hg⟩ := hb.get
  have hid : ∀ j, j < bs.length → ∃ b, ids[j]? = some b := fun j hj => ⟨_, List.getElem?_eq_getElem (by omega)⟩
  have hL : ∀ j b, ids[j]? = some b → E.L (ids.getD j 0) = E.L b := fun j b h => by rw [List.getD_eq_getElem?_getD, h]; rfl
  refine ⟨fun j => E.L (ids.getD j 0), fun j g hj e => ?_, fun i j g hi hj ei ej => ?_, fun k E' hw hD => ⟨fun j blk hj => ?_, ?_⟩⟩
  · obtain ⟨b, h1⟩ := hid j hj
    obtain ⟨blk', h2, _⟩ := hg j b _ h1 (List.getElem?_eq_getElem hj)
    simp only [hL j b h1] at e
    exact (hs.own b blk' h2).2.1 g e
  · obtain ⟨b, h1⟩ := hid i hi
    obtain ⟨c, h2⟩ := hid j hj
    obtain ⟨b1, h3, _⟩ := hg i b _ h1 (List.getElem?_eq_getElem hi)
    obtain ⟨b2, h4, _⟩ := hg j c _ h2 (List.getElem?_eq_getElem hj)
    simp only [hL i b h1] at ei
    simp only [hL j c h2] at ej
    have := hs.inj b c b1 b2 g h3 h4 ei ej
    subst this
    exact distinct_inj hd i j b h1 h2
  · have hjl : j < bs.length := (List.getElem?_eq_some_iff.1 hj).1
    obtain ⟨b, h1⟩ := hid j hjl
    obtain ⟨blk', h2, he, hz, hc, hv, hcc⟩ := hg j b blk h1 hj
    simp only [hL j b h1]
    obtain ⟨_, _, h3⟩ := hs.own b blk' h2
    cases eg : (E.L b).g with
    | none =>
      have := h3.none eg
      refine .mk_none eg ⟨?_, this.2⟩
      rw [← hc, this.1, List.take_nil]
    | some g =>
      by_cases hm : (E.L b).c ≤ maxLen
      · obtain ⟨cs, c1, c2, c3, c4, c5⟩ := h3.at eg hm
        have hlen : blk.cells.length ≤ blk'.cells.length := by have := congrArg List.length hc; rw [List.length_take] at this; omega
        refine .mk eg ⟨cs, by rw [hw, ← he]; exact c1, c2, by rw [← hz]; exact c3, by omega, hv.val E E' _ ?_⟩
        have := c5.take blk.cells.length
        rw [hc, List.take_take, Nat.min_eq_left hlen] at this
        exact this
      · obtain ⟨es, ck, c1, c2⟩ := h3.atM eg hm
        have hz0 := h3.szM eg hm
        have hce : blk'.cells = blk.cells := hcc.resolve_left (by omega)
        rw [hce] at c2
        exact .mkM eg hm (hz ▸ hz0) (by rw [hw]; exact h3.stM eg hm) ⟨es, ck, by rw [hw]; exact c1, hv.val E E' _ c2⟩
  · exact (ho k).rv (E := E) (E' := E') rfl (fun j b h => by
      have hjl : j < bs.length := by rw [← hl]; exact (List.getElem?_eq_some_iff.1 h).1
      obtain ⟨d1, d2⟩ := hD j hjl
      exact ⟨d1, by rw [d2]; exact hL j b h⟩) hx
def Turns (P : Program) (f : FuncId) (H0 : List ABlk) (args : List AV) (v : Nat → AV) (bs : List ABlk) : Prop :=
  ∀ (E0 : Env) (xs : List Value), (∀ j blk, H0[j]? = some blk → E0.D j ∧ BOK E0 (E0.L j) blk) → (∀ g, E0.S g ↔ ∃ j, j < H0.length ∧ (E0.L j).g = some g) → (∀ i j g, i < H0.length → j < H0.length → (E0.L i).g = some g → (E0.L j).g = some g → i = j) → (∀ b, E0.D b → b < H0.length) →
    RVs E0 args xs → Calls P f xs.toArray E0.w fun e w' => ∃ (x : Value) (ls : Nat → Loc), e = .returned x ∧ w'.os = E0.w.os ∧ w'.tape = E0.w.tape ∧ w'.output = E0.w.output ∧ E0.w.heap.size ≤ w'.heap.size ∧ (∀ g, g < E0.w.heap.size → ¬ E0.S g → w'.heap[g]? = E0.w.heap[g]?) ∧
    (∀ j g, j < bs.length → (ls j).g = some g → E0.w.heap.size ≤ g ∨ E0.S g) ∧ (∀ i j g, i < bs.length → j < bs.length → (ls i).g = some g → (ls j).g = some g → i = j) ∧
    ∀ (k : Nat) (E' : Env), E'.w = w' → (∀ j, j < bs.length → E'.D (k + j) ∧ E'.L (k + j) = ls j) → (∀ j blk, bs[j]? = some blk → BOK E' (ls j) blk) ∧ RV E' (v k) x
def RetT (P : Program) (fn : Func) (v : Nat → AV) (bs : List ABlk) : AQ := fun e _ H T => (e = .normal ∨ e = .ret) ∧ ∃ u, ResV P fn H T u ∧ OutM H u v bs
theorem RetT.mk {P : Program} {fn : Func} {v : Nat → AV} {bs : List ABlk} {e : Exit} {k : Nat} {H : AH} {T : AT} {u : AV} (he : e = .normal ∨ e = .ret) (hr : ResV P fn H T u) (ho : OutM H u v bs) : RetT P fn v bs e k H T := ⟨he, u, hr, ho⟩
theorem RetQ.mkM {P : Program} {fn : Func} {v : Nat → AV} {bs : List ABlk} {e : Exit} {k : Nat} {H : AH} {T : AT} {u : AV} (he : e = .normal ∨ e = .ret) (hr : ResV P fn H T u) (ho : OutM H u v bs) : RetQ P fn v bs e k H T := ⟨he, u, hr, ho.out⟩
theorem hk_nbk0 (bs : List ABlk) (b : Nat) : hk (nbk 0 bs) b = bs[b]? := by
  have := hk_nbk bs 0 [] b
  rw [List.append_nil] at this
  rw [this]
  split
  · simp
  · rename_i h
    rw [List.getElem?_eq_none (by omega)]; rfl
theorem Turns.of {P : Program} {f : FuncId} {fn : Func} {c : Code} {H0 : List ABlk} {args : List AV} {v : Nat → AV} {bs : List ABlk} (hf : P.funcs[f]? = some fn) (hb : fn.body = some c) (hn : args.length ≤ fn.ntmps) (h8 : H0.length ≤ 8)
    (h : ∀ w bl, Gol P fn.ntmps w (Mod.of bl) c 8 (nbk 0 H0) (slots args) (RetT P fn v bs)) : Turns P f H0 args v bs := by
  intro E0 xs hB hS hinj hD hx
  refine calls_of_wp hf hb ?_
  have hx' : ∀ (t : Nat) u, args[t]? = some u → ∃ x, xs[t]? = some x ∧ RV E0 u x := fun t u hu => hx.at hu
  have hl := hx.1
  have hst : St fn.ntmps E0.w (Mod.of E0.S) 8 (nbk 0 H0) (slots args) { tmps := xs.toArray ++ Array.replicate (fn.ntmps - xs.toArray.size) undef, defers := [] } E0.w := by
    refine ⟨E0, rfl, ⟨rfl, rfl, rfl, Nat.le_refl _, fun _ _ _ => rfl, fun g => ?_, fun b blk hb => ?_, fun b b' k1 k2 g h1 h2 e1 e2 => ?_, fun g h => h.elim, fun b hb => absurd hb (Nat.not_lt_zero b)⟩, fun b hb => by have := hD b hb; omega, fun t u hu => ?_, by simp; omega, rfl⟩
    · rw [hS]
      constructor
      · rintro ⟨j, hj, e⟩; exact .inl ⟨j, H0[j], by rw [hk_nbk0]; exact List.getElem?_eq_getElem hj, e⟩
      · rintro (⟨b, blk, hb, e⟩ | h)
        case' inr => exact h.elim
        rw [hk_nbk0] at hb; exact ⟨b, (List.getElem?_eq_some_iff.1 hb).1, e⟩
    · rw [hk_nbk0] at hb
      exact ⟨(hB b blk hb).1, fun g e => .inr ((hS g).2 ⟨b, (List.getElem?_eq_some_iff.1 hb).1, e⟩), (hB b blk hb).2⟩
    · rw [hk_nbk0] at h1 h2
      exact hinj b b' g (List.getElem?_eq_some_iff.1 h1).1 (List.getElem?_eq_some_iff.1 h2).1 e1 e2
    · obtain ⟨x, h1, h2⟩ := hx' t u (slots_get args t u hu)
      have hlt : t < xs.length := (List.getElem?_eq_some_iff.1 h1).1
      exact ⟨x, by rw [Array.getElem?_append_left (by simpa using hlt)]; simpa using h1, h2⟩
  refine wp_mono (h E0.w E0.S _ _ hst) ?_
  rintro e a' w' ⟨k', H', T', ⟨E, e1, e2, e3, e4, e5, e6⟩, he, u, hr, ho⟩
  obtain ⟨x, hrun, hxu⟩ := hr _ _ E a' e2 e4
  obtain ⟨ls, l1, l2, l3⟩ := ho _ _ E x e2 hxu
  subst e1
  rcases he with rfl | rfl
  · exact ⟨e6, x, hrun, x, ls, rfl, e2.os, e2.tape, e2.output, e2.size, e2.frame, l1, l2, fun k E' hw hD => l3 k E' hw hD⟩
  · exact ⟨e6, x, hrun, x, ls, rfl, e2.os, e2.tape, e2.output, e2.size, e2.frame, l1, l2, fun k E' hw hD => l3 k E' hw hD⟩
def nones : List Nat → AH
  | [] => []
  | b :: l => (b, none) :: nones l
end Go.Proofs.YtneeclacmhhblaaGreat


namespace Go.Proofs.YtneeclacmhhblaaGreat
open Go.RowKit
inductive ArgT (ids : List Nat) : AV → AV → Prop
  | clo {u : AV} (h : Clo u) : ArgT ids u u
  | sl {j b n : Nat} (h : ids[j]? = some b) : ArgT ids (.sl b n) (.sl j n)
inductive ArgTL (ids : List Nat) : List AV → List AV → Prop
  | nil : ArgTL ids [] []
  | cons {u c : AV} {us cs : List AV} (h : ArgT ids u c) (k : ArgTL ids us cs) : ArgTL ids (u :: us) (c :: cs)
theorem ArgTL.rvs {ids : List Nat} {us cs : List AV} (h : ArgTL ids us cs) {E E0 : Env} (hs : E.sees E0) (hL : ∀ j b : Nat, ids[j]? = some b → E0.D j ∧ E0.L j = E.L b) : ∀ {xs : List Value}, RVs E us xs → RVs E0 cs xs := by
  induction h with
  | nil => intro xs hx; rw [hx.nil_inv]; exact RVs.nil E0
  | cons h k ih =>
    intro xs hx
    obtain ⟨x, ys, rfl, h1, h2⟩ := hx.cons_inv
    refine RVs.cons ?_ (ih h2)
    cases h with
    | clo h => exact h.cl E E0 x hs h1
    | @sl j b n h =>
      obtain ⟨d1, d2⟩ := hL j b h
      cases h1 with | sl b n _ hn hm => rw [← d2] at hn hm ⊢; exact .sl _ _ d1 hn hm
inductive TBs (H : AH) : List Nat → List ABlk → Prop
  | nil : TBs H [] []
  | cons {b : Nat} {ids : List Nat} {blk : ABlk} {bs : List ABlk} (hb : hk H b = some blk) (hv : CloL blk.cells) (t : TBs H ids bs) : TBs H (b :: ids) (blk :: bs)
theorem TBs.get {H : AH} {ids : List Nat} {bs : List ABlk} (h : TBs H ids bs) : ids.length = bs.length ∧ ∀ (j b : Nat) (blk : ABlk), ids[j]? = some b → bs[j]? = some blk → hk H b = some blk ∧ CloL blk.cells := by
  induction h with
  | nil => exact ⟨rfl, fun j b blk h => by simp at h⟩
  | @cons b ids blk bs hb hv t ih =>
    refine ⟨by simp [ih.1], fun j b' blk' h1 h2 => ?_⟩
    cases j with
    | zero => simp at h1 h2; subst h1 h2; exact ⟨hb, hv⟩
    | succ j => exact ih.2 j b' blk' (by simpa using h1) (by simpa using h2)
section
variable {P : Program} {k : Nat} {H : AH} {T : AT} {d : Option Tmp} {ty : TypeId} {ps : String} {af : Array Edge} {gd : Option (Nat × Bool)}
end
inductive Rn3 (ρ : Nat → Nat) : AV → AV → Prop
  | r {u' u : AV} (h : Rn ρ u' u) : Rn3 ρ u' u
  | cs {b b' n n' c : Nat} (hb : ρ b = b') (hn : n' = n) : Rn3 ρ (.sc b' n' c) (.sl b n)
  | ag {us' us : List AV} (hl : us'.length = us.length) (h : ∀ (j : Nat) u' u, us'[j]? = some u' → us[j]? = some u → Rn3 ρ u' u) : Rn3 ρ (.ag us') (.ag us)
def Rn3L (ρ : Nat → Nat) (us' us : List AV) : Prop := us'.length = us.length ∧ ∀ (j : Nat) u' u, us'[j]? = some u' → us[j]? = some u → Rn3 ρ u' u
theorem Rn3L.nil {ρ : Nat → Nat} : Rn3L ρ [] [] := ⟨rfl, fun j u v h => by simp at h⟩
theorem Rn3L.cons {ρ : Nat → Nat} {u v : AV} {us vs : List AV} (h : Rn3 ρ u v) (t : Rn3L ρ us vs) : Rn3L ρ (u :: us) (v :: vs) := ⟨by simp [t.1], fun j a b ha hb => by
  cases j with
  | zero => simp at ha hb; subst ha hb; exact h
  | succ j => exact t.2 j a b (by simpa using ha) (by simpa using hb)⟩
theorem Rn3.agL {ρ : Nat → Nat} {us vs : List AV} (h : Rn3L ρ us vs) : Rn3 ρ (.ag us) (.ag vs) := .ag h.1 h.2
theorem Rn3.rv {ρ : Nat → Nat} {E F : Env} (hw : E.sees F) (hL : ∀ b, F.L b = E.L (ρ b)) (hD : ∀ b, F.D b ↔ E.D (ρ b)) {u' u : AV} (h : Rn3 ρ u' u) : ∀ {x : Value}, RV E u' x → RV F u x := by
  induction h with
  | r h => exact fun hr => h.rv hw hL hD hr
  | @cs b b' n n' c hb hn =>
    intro x hr
    subst hb hn
    cases hr with
    | sc b n c h1 hc hn hm => subst hc; rw [← hL] at hn hm ⊢; exact RV.sl (E := F) _ _ ((hD _).2 h1) hn hm
  | @ag us' us hl h ih =>
    intro x hr
    cases hr with
    | ag cs xs hl' k => exact .ag _ _ (hl'.trans hl) (fun j c x hc hx' => by
        have hlt : j < us'.length := by rw [hl]; exact (List.getElem?_eq_some_iff.1 hc).1
        exact ih j _ c (List.getElem?_eq_getElem hlt) hc (k j _ x (List.getElem?_eq_getElem hlt) hx'))
theorem Rn3L.rvs {ρ : Nat → Nat} {E F : Env} (hw : E.sees F) (hL : ∀ b, F.L b = E.L (ρ b)) (hD : ∀ b, F.D b ↔ E.D (ρ b)) {us' us : List AV} (h : Rn3L ρ us' us) {xs : List Value} (hx : RVs E us' xs) : RVs F us xs :=
  ⟨hx.1.trans h.1, fun j c x hc hx' => by
    have hlt : j < us'.length := by rw [h.1]; exact (List.getElem?_eq_some_iff.1 hc).1
    exact (h.2 j _ c (List.getElem?_eq_getElem hlt) hc).rv hw hL hD (hx.2 j _ x (List.getElem?_eq_getElem hlt) hx')⟩
inductive RnC (ρ : Nat → Nat) : List AV → List AV → Prop
  | cl {cs' cs : List AV} (e : cs' = cs) (h : CloL cs) : RnC ρ cs' cs
  | l {cs' cs : List AV} (h : Rn3L ρ cs' cs) : RnC ρ cs' cs
theorem RnC.rvs {ρ : Nat → Nat} {E F : Env} (hw : E.sees F) (hL : ∀ b, F.L b = E.L (ρ b)) (hD : ∀ b, F.D b ↔ E.D (ρ b)) {us' us : List AV} (h : RnC ρ us' us) {xs : List Value} (hx : RVs E us' xs) : us.length = us'.length ∧ RVs F us xs := by
  cases h with
  | cl e h => subst e; exact ⟨rfl, CloL.rvs (h := h) hw hx⟩
  | l h => exact ⟨h.1.symm, h.rvs hw hL hD hx⟩
def RnT3 (ρ : Nat → Nat) (T' : AT) : AT → Prop
  | [] => True
  | (i, u) :: T => (∃ u', lk T' i = some u' ∧ Rn3 ρ u' u) ∧ RnT3 ρ T' T
def RnH3 (ρ : Nat → Nat) (k : Nat) (H' : AH) : AH → Prop
  | [] => True
  | (_, none) :: H => RnH3 ρ k H' H
  | (b, some blk) :: H => (b < k ∧ ∃ blk', hk H' (ρ b) = some blk' ∧ RnC ρ blk'.cells blk.cells ∧ blk'.elem = blk.elem ∧ blk'.sz = blk.sz) ∧ RnH3 ρ k H' H
theorem RnT3.n {ρ : Nat → Nat} {T' : AT} : RnT3 ρ T' [] := trivial
theorem RnT3.c {ρ : Nat → Nat} {T' T : AT} {i : Nat} {u u' : AV} (h : lk T' i = some u') (hr : Rn3 ρ u' u) (ht : RnT3 ρ T' T) : RnT3 ρ T' ((i, u) :: T) := ⟨⟨u', h, hr⟩, ht⟩
theorem RnH3.n {ρ : Nat → Nat} {k : Nat} {H' : AH} : RnH3 ρ k H' [] := trivial
theorem RnH3.c {ρ : Nat → Nat} {k : Nat} {H' H : AH} {b : Nat} {blk blk' : ABlk} (hb : Nat.blt b k = true) (h : hk H' (ρ b) = some blk') (h1 : RnC ρ blk'.cells blk.cells) (h2 : blk'.elem = blk.elem) (h3 : blk'.sz = blk.sz) (ht : RnH3 ρ k H' H) : RnH3 ρ k H' ((b, some blk) :: H) :=
  ⟨⟨by simpa [Nat.blt_eq] using hb, blk', h, h1, h2, h3⟩, ht⟩
theorem RnT3.get {ρ : Nat → Nat} {T' : AT} : ∀ {T : AT}, RnT3 ρ T' T → ∀ t u, lk T t = some u → ∃ u', lk T' t = some u' ∧ Rn3 ρ u' u
  | [], _, t, u, h => by cases h
  | (i, w) :: T, hr, t, u, h => by
    rw [lk_cons] at h
    split at h
    · rename_i e; subst e; injection h with h; subst h; exact hr.1
    · exact RnT3.get hr.2 t u h
theorem RnH3.get {ρ : Nat → Nat} {k : Nat} {H' : AH} : ∀ {H : AH}, RnH3 ρ k H' H → ∀ b blk, hk H b = some blk → b < k ∧ ∃ blk', hk H' (ρ b) = some blk' ∧ RnC ρ blk'.cells blk.cells ∧ blk'.elem = blk.elem ∧ blk'.sz = blk.sz
  | [], _, b, blk, h => by cases h
  | (i, none) :: H, hr, b, blk, h => by
    rw [hk_cons] at h
    split at h
    · cases h
    · exact RnH3.get (H := H) hr b blk h
  | (i, some w) :: H, hr, b, blk, h => by
    rw [hk_cons] at h
    split at h
    · rename_i e; subst e; injection h with h; subst h; exact hr.1
    · exact RnH3.get (H := H) hr.2 b blk h
theorem Le.mk3 (ρ : Nat → Nat) {M : Mod} {k' k : Nat} {H' H : AH} {T' T : AT} (hT : RnT3 ρ T' T) (hH : RnH3 ρ k H' H) (hi : inj1 ρ H = true) (hp : ∀ b, b < M.np → ρ b = b) (hk : ∀ b, k ≤ b → k' ≤ ρ b) : Le M k' H' T' k H T := by
  rintro n w0 a w ⟨E, e1, e2, e3, e4, e5, e6⟩
  let F : Env := { w := E.w, S := fun g => (∃ b blk, Proofs.YtneeclacmhhblaaGreat.hk H b = some blk ∧ (E.L (ρ b)).g = some g) ∨ M.hid g, L := fun b => E.L (ρ b), D := fun b => E.D (ρ b) }
  have hsee : E.sees F := ⟨Nat.le_refl _, fun _ _ _ => rfl, fun g _ h => by
    rcases h with ⟨b, blk, hb, e⟩ | hh
    · obtain ⟨_, blk', h1, _⟩ := hH.get b blk hb
      exact e2.S_of h1 e
    · exact (e2.seq g).2 (.inr hh)⟩
  refine ⟨F, e1, ⟨e2.os, e2.tape, e2.output, e2.size, e2.frame, fun g => Iff.rfl, fun b blk hb => ?_, fun b b' k1 k2 g h1 h2 x1 x2 => ?_, e2.hid, fun b hb => by show E.D (ρ b) ∧ E.L (ρ b) = _; rw [hp b hb]; exact e2.pin b hb⟩, fun b hb => ?_, fun t u hu => ?_, e5, e6⟩
  · obtain ⟨_, blk', h1, h2, h3, h4⟩ := hH.get b blk hb
    obtain ⟨o1, o2, o3⟩ := e2.own (ρ b) blk' h1
    refine ⟨o1, o2, ?_⟩
    cases eg : (E.L (ρ b)).g with
    | none =>
      have hz := o3.none eg
      rw [hz.1] at h2
      obtain ⟨l1, l2⟩ := h2.rvs (E := E) (F := F) hsee (fun _ => rfl) (fun _ => Iff.rfl) (RVs.nil E)
      exact .mk_none eg ⟨List.eq_nil_of_length_eq_zero (by simpa using l1), hz.2⟩
    | some g =>
      by_cases hm : (E.L (ρ b)).c ≤ maxLen
      · obtain ⟨cs, c1, c2, c3, c4, c5⟩ := o3.at eg hm
        obtain ⟨l1, l2⟩ := h2.rvs (E := E) (F := F) hsee (fun _ => rfl) (fun _ => Iff.rfl) c5
        rw [h3] at c1
        rw [h4] at c3
        rw [← l1] at l2
        exact .mk eg ⟨cs, c1, c2, c3, by omega, l2⟩
      · obtain ⟨es, ck, c1, c2⟩ := o3.atM eg hm
        obtain ⟨l1, l2⟩ := h2.rvs (E := E) (F := F) hsee (fun _ => rfl) (fun _ => Iff.rfl) c2
        exact .mkM eg hm (h4 ▸ o3.szM eg hm) (o3.stM eg hm) ⟨es, ck, c1, l2⟩
  · obtain ⟨_, b1, h3, _⟩ := hH.get b k1 h1
    obtain ⟨_, b2, h4, _⟩ := hH.get b' k2 h2
    have := e2.inj (ρ b) (ρ b') b1 b2 g h3 h4 x1 x2
    have hh := List.all_eq_true.1 (List.all_eq_true.1 hi _ (hk_mem h1)) _ (hk_mem h2)
    simp only [Bool.or_eq_true] at hh
    rcases hh with hh | hh
    · exact Nat.eq_of_beq_eq_true hh
    · simp [this] at hh
  · have hb' : E.D (ρ b) := hb
    have := e3 _ hb'
    rcases Nat.lt_or_ge b k with h | h
    · exact h
    · have := hk b h; omega
  · obtain ⟨u', h1, h2⟩ := hT.get t u hu
    obtain ⟨x, hx, hr⟩ := e4 t u' h1
    exact ⟨x, hx, h2.rv hsee (fun _ => rfl) (fun _ => Iff.rfl) hr⟩
theorem Le.mk3' (l : List (Nat × Nat)) {M : Mod} {k' k : Nat} {H' H : AH} {T' T : AT} (hT : RnT3 (rmp k' l k) T' T) (hH : RnH3 (rmp k' l k) k H' H) (hi : inj1 (rmp k' l k) H = true) (hp : pinOk M.np l k = true) : Le M k' H' T' k H T := Le.mk3 _ hT hH hi (pin_rmp hp) (rmp_ge k' k l)
section
variable {P : Program} {n : Nat} {w0 : World} {M : Mod} {c : Code} {k : Nat} {H : AH} {T : AT} {Q : AQ}
theorem Gol.cap {i b m : Nat} (h : lk T i = some (.sl b m)) (g : ∀ cc, m ≤ cc → Gol P n w0 M c k H ((i, .sc b m cc) :: T) Q) : Gol P n w0 M c k H T Q := fun a w ⟨E, e1, e2, e3, e4, e5, e6⟩ => by
  obtain ⟨x, hx, hr⟩ := e4 i _ h
  cases hr with
  | sl b m hD hm hmm =>
    refine g (E.L b).c hm a w ⟨E, e1, e2, e3, fun t u hu => ?_, e5, e6⟩
    rw [lk_cons] at hu
    split at hu
    · rename_i e; subst e; injection hu with hu; subst hu; exact ⟨_, hx, .sc _ _ _ hD rfl hm hmm⟩
    · exact e4 t u hu
theorem Gol.capCell {B j b m : Nat} {blk : ABlk} (hB : hk H B = some blk) (hsz : Nat.blt 0 blk.sz = true) (hj : blk.cells[j]? = some (.sl b m)) (g : ∀ cc, m ≤ cc → Gol P n w0 M c k ((B, some { blk with cells := blk.cells.set j (.sc b m cc) }) :: H) T Q) : Gol P n w0 M c k H T Q := fun a w ⟨E, e1, e2, e3, e4, e5, e6⟩ => by
  obtain ⟨o1, o2, o3⟩ := e2.own B blk hB
  have key : ∃ cc, m ≤ cc ∧ BOK E (E.L B) { blk with cells := blk.cells.set j (.sc b m cc) } := by
    cases eg : (E.L B).g with
    | none => have hz := o3.none eg; rw [hz.1] at hj; simp at hj
    | some g =>
      by_cases hmB : (E.L B).c ≤ maxLen
      case' neg => exact absurd hsz (by rw [o3.szM eg hmB]; simp)
      obtain ⟨cs, c1, c2, c3, c4, c5⟩ := o3.at eg hmB
      obtain ⟨x, hx, hr⟩ := c5.at hj
      cases hr with
      | sl b m hD hm hmm =>
        refine ⟨(E.L b).c, hm, .mk eg ⟨cs, c1, c2, c3, by simpa using c4, ?_⟩⟩
        show RVs E (blk.cells.set j _) (cs.toList.take (blk.cells.set j _).length)
        rw [List.length_set]
        refine ⟨by rw [List.length_set]; exact c5.1, fun i cv y hcv hy => ?_⟩
        rw [List.getElem?_set] at hcv
        split at hcv
        · rename_i hij; subst hij
          split at hcv
          · injection hcv with hcv; subst hcv; rw [hx] at hy; injection hy with hy; subst hy; exact .sc _ _ _ hD rfl hm hmm
          · cases hcv
        · exact c5.2 i cv y hcv hy
  obtain ⟨cc, hcc, hBB⟩ := key
  refine g cc hcc a w ⟨E, e1, ⟨e2.os, e2.tape, e2.output, e2.size, e2.frame, fun g' => ?_, fun b' blk' hb' => ?_, fun b1 b2 k1 k2 g' h1 h2 x1 x2 => ?_, e2.hid, e2.pin⟩, e3, e4, e5, e6⟩
  · rw [e2.seq g']
    constructor
    · rintro (⟨b', blk', h1, h2⟩ | hh)
      case' inr => exact .inr hh
      by_cases hbb : B = b'
      · subst hbb; exact .inl ⟨B, _, by rw [hk_cons, if_pos rfl], h2⟩
      · exact .inl ⟨b', blk', by rw [hk_cons, if_neg hbb]; exact h1, h2⟩
    · rintro (⟨b', blk', h1, h2⟩ | hh)
      case' inr => exact .inr hh
      rw [hk_cons] at h1
      split at h1
      · rename_i hbb; subst hbb; exact .inl ⟨B, blk, hB, h2⟩
      · exact .inl ⟨b', blk', h1, h2⟩
  · rw [hk_cons] at hb'
    split at hb'
    · rename_i hbb; subst hbb; injection hb' with hb'; subst hb'; exact ⟨o1, o2, hBB⟩
    · exact e2.own b' blk' hb'
  · have : ∀ bb kk, hk ((B, some { blk with cells := blk.cells.set j (.sc b m cc) }) :: H) bb = some kk → ∃ k2, hk H bb = some k2 := fun bb kk hh => by
      rw [hk_cons] at hh
      split at hh
      · rename_i hbb; subst hbb; exact ⟨blk, hB⟩
      · exact ⟨kk, hh⟩
    obtain ⟨k1', h1'⟩ := this b1 k1 h1
    obtain ⟨k2', h2'⟩ := this b2 k2 h2
    exact e2.inj b1 b2 k1' k2' g' h1' h2' x1 x2
end
end Go.Proofs.YtneeclacmhhblaaGreat


namespace Go.Proofs.YtneeclacmhhblaaGreat
open Go.RowKit

class PI (P : Program) (t : TypeId) (z : outParam (List Value)) (pl : outParam (List (Nat × Nat))) : Prop where
  h : ∀ (w : World) (parts : Array (Nat × Value)) (cells : Array Value), Instr.fill (pl[·]?) z.toArray parts.toList = some cells → (Instr.build t parts).run P w = .ok (.agg cells) w
theorem fill_mono {p q : Nat → Option (Nat × Nat)} (h : ∀ i x, p i = some x → q i = some x) : ∀ (l : List (Nat × Value)) (cs r : Array Value), Instr.fill p cs l = some r → Instr.fill q cs l = some r
  | [], _, _, e => e
  | (i, v) :: rest, cs, r, e => by
    simp only [Instr.fill] at e ⊢
    cases hp : p i with
    | none => rw [hp] at e; cases e
    | some x =>
      obtain ⟨o, s⟩ := x
      rw [hp] at e
      rw [h i _ hp]
      simp only at e ⊢
      split at e
      · cases e
      · rename_i hn; rw [if_neg hn]; exact fill_mono h rest _ _ e
theorem PI.struct {P : Program} {t : TypeId} {fs : Array Field} {z : List Value} {pl : List (Nat × Nat)} (hu : P.underlying t = some (.struct fs)) (hz : ∀ w, (zeroValue t).run P w = .ok (.agg z.toArray) w)
    (hp : ∀ w, (fs.mapM fun f => do pure (f.offset, ← sizeOf f.type) : Sem (Array (Nat × Nat))).run P w = .ok pl.toArray w) : PI P t z pl := ⟨fun w parts cells h => by
  have h' : Instr.fill (fun x => pl.toArray[x]?) z.toArray parts.toList = some cells := by simpa using h
  simp only [Instr.build, Sem.run_bind, hz, Result.andThen_ok, run_underlying hu, hp, Value.cells, h', Sem.run_pure]⟩
theorem PI.array {P : Program} {t e : TypeId} {n size : Nat} {z : List Value} {pl : List (Nat × Nat)} (hu : P.underlying t = some (.array n e)) (hz : ∀ w, (zeroValue t).run P w = .ok (.agg z.toArray) w)
    (hs : (P.info? e).map (·.size) = some size) (hp : pl = (List.range n).map fun i => (i * size, size)) : PI P t z pl := ⟨fun w parts cells h => by
  have h' : Instr.fill (fun i => some (i * size, size)) z.toArray parts.toList = some cells := fill_mono (fun i x hx => by
    subst hp
    rw [List.getElem?_map] at hx
    cases hr : (List.range n)[i]? with
    | none => rw [hr] at hx; cases hx
    | some j => rw [hr] at hx; have := List.getElem?_eq_some_iff.1 hr; obtain ⟨hlt, hj⟩ := this; rw [List.getElem_range] at hj; subst hj; exact hx) _ _ _ h
  simp only [Instr.build, Sem.run_bind, hz, Result.andThen_ok, run_underlying hu, run_sizeOf' hs, Value.cells, h', Sem.run_pure]⟩
def splB (cs : List AV) (o : Nat) (ds : List AV) : List AV := spl cs o ds
def cuB (u : AV) : List AV := cu u
def fillA (T : AT) (pl : List (Nat × Nat)) (N : Nat) (cs : List AV) : List (Nat × Operand) → Option (List AV)
  | [] => some cs
  | (i, x) :: rest => match pl[i]? with
    | none => none
    | some (o, s) => match ev T x with
      | none => none
      | some u => bif Nat.beq (cu u).length s && Nat.ble (o + s) N then fillA T pl N (splB cs o (cuB u)) rest else none
theorem fillA_ok {P : Program} {T : AT} {pl : List (Nat × Nat)} {N : Nat} {E : Env} {a : Act} : ∀ (l : List (Nat × Operand)) (cs r : List AV) (xs : List Value), (∀ x ∈ l.map (·.2), ∀ u, ev T x = some u → RV E u (a.eval x)) → RVs E cs xs → cs.length = N → fillA T pl N cs l = some r →
    ∃ ys, Instr.fill (pl[·]?) xs.toArray (l.map fun p => (p.1, a.eval p.2)) = some ys.toArray ∧ RVs E r ys
  | [], cs, r, xs, _, hR, _, h => by
    simp only [fillA, Option.some.injEq] at h
    subst h
    exact ⟨xs, rfl, hR⟩
  | (i, x) :: rest, cs, r, xs, hT, hR, hN, h => by
    simp only [fillA] at h
    cases hp : pl[i]? with
    | none => rw [hp] at h; cases h
    | some q =>
      obtain ⟨o, s⟩ := q
      rw [hp] at h
      simp only at h
      cases he : ev T x with
      | none => rw [he] at h; cases h
      | some u =>
        rw [he] at h
        simp only at h
        cases hb : (Nat.beq (cu u).length s && Nat.ble (o + s) N) with
        | false => rw [hb] at h; cases h
        | true =>
          rw [hb] at h
          simp only [Bool.and_eq_true] at hb
          have h1 : (cu u).length = s := Nat.eq_of_beq_eq_true hb.1
          have h2 : o + s ≤ cs.length := by rw [hN]; exact Nat.le_of_ble_eq_true hb.2
          have hr := (hT x (by simp) u he).cu
          have hsz : (a.eval x).cells.size = s := by have := hr.1; rw [Array.length_toList] at this; exact this.trans h1
          have hput : ∀ (vs : List Value) (off : Nat) (c0 : Array Value), off + vs.length ≤ c0.size → ((vs.toArray.zipIdx).foldl (fun cs (x : Value × Nat) => match x with | (c, j) => cs.setIfInBounds (off + j) c) c0) = (c0.toList.take off ++ vs ++ c0.toList.drop (off + vs.length)).toArray := by
            intro vs off c0
            have gen : ∀ (vs : List Value) (k : Nat) (c0 : Array Value), off + k + vs.length ≤ c0.size → ((vs.zipIdx k).foldl (fun cs (x : Value × Nat) => match x with | (c, j) => cs.setIfInBounds (off + j) c) c0) = (c0.toList.take (off + k) ++ vs ++ c0.toList.drop (off + k + vs.length)).toArray := by
              intro vs
              induction vs with
              | nil => intro k c0 _; simp
              | cons v vs ih =>
                intro k c0 hc
                simp only [List.length_cons] at hc
                simp only [List.zipIdx_cons, List.foldl_cons]
                rw [ih (k + 1) _ (by simp; omega)]
                have := list_seg_step c0.toList (off + k) v vs (by simp; omega)
                simp only [Array.toList_setIfInBounds, List.length_cons]
                rw [← Nat.add_assoc off k 1, this]
            intro hc
            have := gen vs 0 c0 (by simpa using hc)
            simp only [Nat.add_zero] at this
            rw [← this]
            rw [← Array.foldl_toList]
            simp
          have hv := hput (a.eval x).cells.toList o xs.toArray (by simp [hsz]; rw [hR.1]; exact h2)
          simp only [Array.toArray_toList] at hv
          have hR' : RVs E (spl cs o (cu u)) (xs.take o ++ (a.eval x).cells.toList ++ xs.drop (o + (a.eval x).cells.toList.length)) := by
            unfold spl
            rw [show (cu u).length = (a.eval x).cells.toList.length from hr.1.symm]
            exact ((hR.take o).append hr).append (hR.drop _)
          obtain ⟨ys, k1, k2⟩ := fillA_ok (P := P) rest _ r _ (fun y hy => hT y (by simp at hy ⊢; exact .inr hy)) hR' (by unfold spl; simp only [List.length_append, List.length_take, List.length_drop]; omega) h
          refine ⟨ys, ?_, k2⟩
          have hng : ¬ (o + s > xs.toArray.size) := by simp [hR.1]; omega
          simp only [List.map_cons, Instr.fill, hp, hsz, hv]
          simp only [ne_eq, not_true_eq_false, decide_false, Bool.false_or, decide_eq_true_eq, hng, if_false]
          exact k1
instance (cs : List AV) [h : CloL cs] : CloL (cu (.ag cs)) := h
instance (cs : List AV) [h : ValL cs] : ValL (cu (.ag cs)) := h
section
variable {P : Program} {k : Nat} {H : AH} {T : AT} {d : Option Tmp} {ty t : TypeId} {ps : String} {af : Array Edge} {gd : Option (Nat × Bool)}
theorem s_bld {l : List (Nat × Operand)} {z : List Value} {pl : List (Nat × Nat)} {cs ds : List AV} [hP : PI P t z pl] (h : fillA T pl z.length (z.map .v) l = some cs) (hd : cs = ds) : StepU P ⟨d, .build t l.toArray, ty, ps, af, gd⟩ k [] H T (.ag ds) [] :=
  .of_pure fun _ _ _ E a _ _ hT => by
    subst hd
    obtain ⟨ys, h1, h2⟩ := fillA_ok (P := P) (E := E) (a := a) l _ cs z (fun x hx => hT x (by simpa [Op.operands] using hx)) (RVs.vals z) (by simp) h
    refine ⟨.agg ys.toArray, ?_, agu_ag cs E ys h2⟩
    have hmap : (l.toArray.map fun (i, x) => (i, a.eval x)) = (l.map fun p => (p.1, a.eval p.2)).toArray := by simp
    simp only [execOp, hmap, Sem.run_bind, hP.h E.w _ _ h1, Result.andThen_ok, Sem.run_pure]
end
end Go.Proofs.YtneeclacmhhblaaGreat


namespace Go.Proofs.YtneeclacmhhblaaGreat

instance : TI Tryz.prog 1 false 1 := ⟨fun _ => by kernel_rfl, fun _ => by kernel_rfl⟩
instance : TI Tryz.prog 2 false 1 := ⟨fun _ => by kernel_rfl, fun _ => by kernel_rfl⟩
instance : ZI Tryz.prog 2 (.int .i64 0) := ⟨fun _ => by kernel_rfl⟩
instance : UI Tryz.prog 2 (.int .i64) := ⟨Tryz.underlying2⟩
instance : TI Tryz.prog 3 false 1 := ⟨fun _ => by kernel_rfl, fun _ => by kernel_rfl⟩
instance : ZI Tryz.prog 3 (.int .i64 0) := ⟨fun _ => by kernel_rfl⟩
instance : UI Tryz.prog 3 (.int .i64) := ⟨Tryz.underlying3⟩
instance : TI Tryz.prog 4 false 1 := ⟨fun _ => by kernel_rfl, fun _ => by kernel_rfl⟩
instance : ZI Tryz.prog 4 (.bool false) := ⟨fun _ => by kernel_rfl⟩
instance : UI Tryz.prog 4 .bool := ⟨Tryz.underlying4⟩
instance : TI Tryz.prog 5 false 1 := ⟨fun _ => by kernel_rfl, fun _ => by kernel_rfl⟩
instance : ZI Tryz.prog 5 (.int .u8 0) := ⟨fun _ => by kernel_rfl⟩
instance : UI Tryz.prog 5 (.int .u8) := ⟨Tryz.underlying5⟩
instance : TI Tryz.prog 9 false 1 := ⟨fun _ => by kernel_rfl, fun _ => by kernel_rfl⟩
instance : ZI Tryz.prog 9 (.string .empty) := ⟨fun _ => by kernel_rfl⟩
instance : UI Tryz.prog 9 .string := ⟨Tryz.underlying9⟩
instance : TI Tryz.prog 12 false 1 := ⟨fun _ => by kernel_rfl, fun _ => by kernel_rfl⟩
instance : ZI Tryz.prog 12 (.int .u64 0) := ⟨fun _ => by kernel_rfl⟩
instance : UI Tryz.prog 12 (.int .u64) := ⟨Tryz.underlying12⟩
instance : TI Tryz.prog 13 true 2 := ⟨fun _ => by kernel_rfl, fun _ => by kernel_rfl⟩
instance : ZI Tryz.prog 13 (.agg #[.string .empty, .int .u64 0]) := ⟨fun _ => by kernel_rfl⟩
instance : BI Tryz.prog 13 (.agg #[.string .empty, .int .u64 0]) := ⟨fun _ => by kernel_rfl⟩
instance : FI Tryz.prog 13 0 0 := ⟨fun _ _ _ => by kernel_rfl⟩
instance : FI Tryz.prog 13 1 1 := ⟨fun _ _ _ => by kernel_rfl⟩
instance : TI Tryz.prog 21 false 1 := ⟨fun _ => by kernel_rfl, fun _ => by kernel_rfl⟩
instance : ZI Tryz.prog 21 (.int .i32 0) := ⟨fun _ => by kernel_rfl⟩
instance : UI Tryz.prog 21 (.int .i32) := ⟨Tryz.underlying21⟩
instance : TI Tryz.prog 22 true 8 := ⟨fun _ => by kernel_rfl, fun _ => by kernel_rfl⟩
instance : ZI Tryz.prog 22 (.agg (nameC 0)) := ⟨fun _ => by kernel_rfl⟩
instance : BI Tryz.prog 22 (.agg (nameC 0)) := ⟨fun _ => by kernel_rfl⟩
instance : NI Tryz.prog 22 := ⟨by kernel_rfl, 5, Tryz.underlying22, by kernel_rfl, Tryz.underlying5, by kernel_rfl⟩
instance : AI Tryz.prog 22 8 1 := ⟨⟨5, Tryz.underlying22, by kernel_rfl⟩⟩
instance : TI Tryz.prog 23 true 8 := ⟨fun _ => by kernel_rfl, fun _ => by kernel_rfl⟩
instance : ZI Tryz.prog 23 (.agg (nameC 0)) := ⟨fun _ => by kernel_rfl⟩
instance : BI Tryz.prog 23 (.agg (nameC 0)) := ⟨fun _ => by kernel_rfl⟩
instance : NI Tryz.prog 23 := ⟨by kernel_rfl, 5, Tryz.underlying23, by kernel_rfl, Tryz.underlying5, by kernel_rfl⟩
instance : AI Tryz.prog 23 8 1 := ⟨⟨5, Tryz.underlying23, by kernel_rfl⟩⟩
instance : TI Tryz.prog 24 false 1 := ⟨fun _ => by kernel_rfl, fun _ => by kernel_rfl⟩
instance : ZI Tryz.prog 24 (.slice none 0 0) := ⟨fun _ => by kernel_rfl⟩
instance : SI Tryz.prog 24 200 9 16 (.agg #[.int .i64 0, .int .u8 0, .int .u8 0, .int .u8 0, .int .u8 0, .int .u8 0, .int .u8 0, .int .u8 0, .int .u8 0]) := ⟨Tryz.underlying24, by kernel_rfl, rfl, by decide, by decide⟩
instance : TI Tryz.prog 25 false 1 := ⟨fun _ => by kernel_rfl, fun _ => by kernel_rfl⟩
instance : ZI Tryz.prog 25 (.slice none 0 0) := ⟨fun _ => by kernel_rfl⟩
instance : SI Tryz.prog 25 23 8 8 (.agg (nameC 0)) := ⟨Tryz.underlying25, by kernel_rfl, rfl, by decide, by decide⟩
instance : TI Tryz.prog 26 false 1 := ⟨fun _ => by kernel_rfl, fun _ => by kernel_rfl⟩
instance : ZI Tryz.prog 26 (.int .i64 0) := ⟨fun _ => by kernel_rfl⟩
instance : UI Tryz.prog 26 (.int .i64) := ⟨Tryz.underlying26⟩
instance : TI Tryz.prog 27 false 1 := ⟨fun _ => by kernel_rfl, fun _ => by kernel_rfl⟩
instance : ZI Tryz.prog 27 (.slice none 0 0) := ⟨fun _ => by kernel_rfl⟩
instance : SI Tryz.prog 27 138 11 32 (.agg #[.int .i64 0, .int .i64 0, .int .u8 0, .int .u8 0, .int .u8 0, .int .u8 0, .int .u8 0, .int .u8 0, .int .u8 0, .int .u8 0, .int .i64 0]) := ⟨Tryz.underlying27, by kernel_rfl, rfl, by decide, by decide⟩
instance : TI Tryz.prog 28 false 1 := ⟨fun _ => by kernel_rfl, fun _ => by kernel_rfl⟩
instance : ZI Tryz.prog 28 (.slice none 0 0) := ⟨fun _ => by kernel_rfl⟩
instance : SI Tryz.prog 28 3 1 8 (.int .i64 0) := ⟨Tryz.underlying28, by kernel_rfl, rfl, by decide, by decide⟩
instance : TI Tryz.prog 29 false 1 := ⟨fun _ => by kernel_rfl, fun _ => by kernel_rfl⟩
instance : ZI Tryz.prog 29 (.slice none 0 0) := ⟨fun _ => by kernel_rfl⟩
instance : SI Tryz.prog 29 141 19 40 (.agg #[.int .u8 0, .int .u8 0, .int .u8 0, .int .u8 0, .int .u8 0, .int .u8 0, .int .u8 0, .int .u8 0, .int .u8 0, .int .u8 0, .int .u8 0, .int .u8 0, .int .u8 0, .int .u8 0, .int .u8 0, .int .u8 0, .int .i64 0, .int .i64 0, .int .i64 0]) := ⟨Tryz.underlying29, by kernel_rfl, rfl, by decide, by decide⟩
instance : TI Tryz.prog 30 true 5 := ⟨fun _ => by kernel_rfl, fun _ => by kernel_rfl⟩
instance : ZI Tryz.prog 30 (.agg #[.slice none 0 0, .slice none 0 0, .slice none 0 0, .slice none 0 0, .int .i64 0]) := ⟨fun _ => by kernel_rfl⟩
instance : BI Tryz.prog 30 (.agg #[.slice none 0 0, .slice none 0 0, .slice none 0 0, .slice none 0 0, .int .i64 0]) := ⟨fun _ => by kernel_rfl⟩
instance : FI Tryz.prog 30 0 0 := ⟨fun _ _ _ => by kernel_rfl⟩
instance : FI Tryz.prog 30 1 1 := ⟨fun _ _ _ => by kernel_rfl⟩
instance : FI Tryz.prog 30 2 2 := ⟨fun _ _ _ => by kernel_rfl⟩
instance : FI Tryz.prog 30 3 3 := ⟨fun _ _ _ => by kernel_rfl⟩
instance : FI Tryz.prog 30 4 4 := ⟨fun _ _ _ => by kernel_rfl⟩
instance : TI Tryz.prog 31 true 5 := ⟨fun _ => by kernel_rfl, fun _ => by kernel_rfl⟩
instance : ZI Tryz.prog 31 (.agg #[.slice none 0 0, .slice none 0 0, .slice none 0 0, .slice none 0 0, .int .i64 0]) := ⟨fun _ => by kernel_rfl⟩
instance : BI Tryz.prog 31 (.agg #[.slice none 0 0, .slice none 0 0, .slice none 0 0, .slice none 0 0, .int .i64 0]) := ⟨fun _ => by kernel_rfl⟩
instance : FI Tryz.prog 31 0 0 := ⟨fun _ _ _ => by kernel_rfl⟩
instance : FI Tryz.prog 31 1 1 := ⟨fun _ _ _ => by kernel_rfl⟩
instance : FI Tryz.prog 31 2 2 := ⟨fun _ _ _ => by kernel_rfl⟩
instance : FI Tryz.prog 31 3 3 := ⟨fun _ _ _ => by kernel_rfl⟩
instance : FI Tryz.prog 31 4 4 := ⟨fun _ _ _ => by kernel_rfl⟩
instance : TI Tryz.prog 32 false 1 := ⟨fun _ => by kernel_rfl, fun _ => by kernel_rfl⟩
instance : ZI Tryz.prog 32 (.slice none 0 0) := ⟨fun _ => by kernel_rfl⟩
instance : SI Tryz.prog 32 205 4 64 (.agg #[.int .i64 0, .int .i64 0, .slice none 0 0, .slice none 0 0]) := ⟨Tryz.underlying32, by kernel_rfl, rfl, by decide, by decide⟩
instance : TI Tryz.prog 33 false 1 := ⟨fun _ => by kernel_rfl, fun _ => by kernel_rfl⟩
instance : ZI Tryz.prog 33 (.slice none 0 0) := ⟨fun _ => by kernel_rfl⟩
instance : SI Tryz.prog 33 73 4 48 (.agg #[.int .i64 0, .slice none 0 0, .int .i64 0, .int .i64 0]) := ⟨Tryz.underlying33, by kernel_rfl, rfl, by decide, by decide⟩
instance : TI Tryz.prog 34 true 28 := ⟨fun _ => by kernel_rfl, fun _ => by kernel_rfl⟩
instance : ZI Tryz.prog 34 (.agg #[.int .u8 0, .int .u8 0, .int .u8 0, .int .u8 0, .int .u8 0, .int .u8 0, .int .u8 0, .int .u8 0, .int .i64 0, .int .i64 0, .int .u8 0, .int .u8 0, .int .u8 0, .int .u8 0, .int .u8 0, .int .u8 0, .int .u8 0, .int .u8 0, .slice none 0 0, .slice none 0 0, .int .i64 0, .slice none 0 0, .slice none 0 0, .slice none 0 0, .slice none 0 0, .int .i64 0, .slice none 0 0, .slice none 0 0]) := ⟨fun _ => by kernel_rfl⟩
instance : BI Tryz.prog 34 (.agg #[.int .u8 0, .int .u8 0, .int .u8 0, .int .u8 0, .int .u8 0, .int .u8 0, .int .u8 0, .int .u8 0, .int .i64 0, .int .i64 0, .int .u8 0, .int .u8 0, .int .u8 0, .int .u8 0, .int .u8 0, .int .u8 0, .int .u8 0, .int .u8 0, .slice none 0 0, .slice none 0 0, .int .i64 0, .slice none 0 0, .slice none 0 0, .slice none 0 0, .slice none 0 0, .int .i64 0, .slice none 0 0, .slice none 0 0]) := ⟨fun _ => by kernel_rfl⟩
instance : FI Tryz.prog 34 0 0 := ⟨fun _ _ _ => by kernel_rfl⟩
instance : FI Tryz.prog 34 1 8 := ⟨fun _ _ _ => by kernel_rfl⟩
instance : FI Tryz.prog 34 2 9 := ⟨fun _ _ _ => by kernel_rfl⟩
instance : FI Tryz.prog 34 3 10 := ⟨fun _ _ _ => by kernel_rfl⟩
instance : FI Tryz.prog 34 4 18 := ⟨fun _ _ _ => by kernel_rfl⟩
instance : FI Tryz.prog 34 5 19 := ⟨fun _ _ _ => by kernel_rfl⟩
instance : FI Tryz.prog 34 6 20 := ⟨fun _ _ _ => by kernel_rfl⟩
instance : FI Tryz.prog 34 7 21 := ⟨fun _ _ _ => by kernel_rfl⟩
instance : FI Tryz.prog 34 8 26 := ⟨fun _ _ _ => by kernel_rfl⟩
instance : FI Tryz.prog 34 9 27 := ⟨fun _ _ _ => by kernel_rfl⟩
instance : TI Tryz.prog 35 true 28 := ⟨fun _ => by kernel_rfl, fun _ => by kernel_rfl⟩
instance : ZI Tryz.prog 35 (.agg #[.int .u8 0, .int .u8 0, .int .u8 0, .int .u8 0, .int .u8 0, .int .u8 0, .int .u8 0, .int .u8 0, .int .i64 0, .int .i64 0, .int .u8 0, .int .u8 0, .int .u8 0, .int .u8 0, .int .u8 0, .int .u8 0, .int .u8 0, .int .u8 0, .slice none 0 0, .slice none 0 0, .int .i64 0, .slice none 0 0, .slice none 0 0, .slice none 0 0, .slice none 0 0, .int .i64 0, .slice none 0 0, .slice none 0 0]) := ⟨fun _ => by kernel_rfl⟩
instance : BI Tryz.prog 35 (.agg #[.int .u8 0, .int .u8 0, .int .u8 0, .int .u8 0, .int .u8 0, .int .u8 0, .int .u8 0, .int .u8 0, .int .i64 0, .int .i64 0, .int .u8 0, .int .u8 0, .int .u8 0, .int .u8 0, .int .u8 0, .int .u8 0, .int .u8 0, .int .u8 0, .slice none 0 0, .slice none 0 0, .int .i64 0, .slice none 0 0, .slice none 0 0, .slice none 0 0, .slice none 0 0, .int .i64 0, .slice none 0 0, .slice none 0 0]) := ⟨fun _ => by kernel_rfl⟩
instance : FI Tryz.prog 35 0 0 := ⟨fun _ _ _ => by kernel_rfl⟩
instance : FI Tryz.prog 35 1 8 := ⟨fun _ _ _ => by kernel_rfl⟩
instance : FI Tryz.prog 35 2 9 := ⟨fun _ _ _ => by kernel_rfl⟩
instance : FI Tryz.prog 35 3 10 := ⟨fun _ _ _ => by kernel_rfl⟩
instance : FI Tryz.prog 35 4 18 := ⟨fun _ _ _ => by kernel_rfl⟩
instance : FI Tryz.prog 35 5 19 := ⟨fun _ _ _ => by kernel_rfl⟩
instance : FI Tryz.prog 35 6 20 := ⟨fun _ _ _ => by kernel_rfl⟩
instance : FI Tryz.prog 35 7 21 := ⟨fun _ _ _ => by kernel_rfl⟩
instance : FI Tryz.prog 35 8 26 := ⟨fun _ _ _ => by kernel_rfl⟩
instance : FI Tryz.prog 35 9 27 := ⟨fun _ _ _ => by kernel_rfl⟩
instance : TI Tryz.prog 36 false 1 := ⟨fun _ => by kernel_rfl, fun _ => by kernel_rfl⟩
instance : TI Tryz.prog 37 false 1 := ⟨fun _ => by kernel_rfl, fun _ => by kernel_rfl⟩
instance : ZI Tryz.prog 37 (.slice none 0 0) := ⟨fun _ => by kernel_rfl⟩
instance : SI Tryz.prog 37 35 28 240 (.agg #[.int .u8 0, .int .u8 0, .int .u8 0, .int .u8 0, .int .u8 0, .int .u8 0, .int .u8 0, .int .u8 0, .int .i64 0, .int .i64 0, .int .u8 0, .int .u8 0, .int .u8 0, .int .u8 0, .int .u8 0, .int .u8 0, .int .u8 0, .int .u8 0, .slice none 0 0, .slice none 0 0, .int .i64 0, .slice none 0 0, .slice none 0 0, .slice none 0 0, .slice none 0 0, .int .i64 0, .slice none 0 0, .slice none 0 0]) := ⟨Tryz.underlying37, by kernel_rfl, rfl, by decide, by decide⟩
instance : TI Tryz.prog 38 false 1 := ⟨fun _ => by kernel_rfl, fun _ => by kernel_rfl⟩
instance : TI Tryz.prog 39 false 1 := ⟨fun _ => by kernel_rfl, fun _ => by kernel_rfl⟩
instance : TI Tryz.prog 40 false 1 := ⟨fun _ => by kernel_rfl, fun _ => by kernel_rfl⟩
instance : TI Tryz.prog 41 false 1 := ⟨fun _ => by kernel_rfl, fun _ => by kernel_rfl⟩
instance : ZI Tryz.prog 41 (.slice none 0 0) := ⟨fun _ => by kernel_rfl⟩
instance : SI Tryz.prog 41 87 22 64 (.agg #[.int .i64 0, .int .i64 0, .int .i64 0, .int .i64 0, .int .i64 0, .int .i64 0, .int .u8 0, .int .u8 0, .int .u8 0, .int .u8 0, .int .u8 0, .int .u8 0, .int .u8 0, .int .u8 0, .int .u8 0, .int .u8 0, .int .u8 0, .int .u8 0, .int .u8 0, .int .u8 0, .int .u8 0, .int .u8 0]) := ⟨Tryz.underlying41, by kernel_rfl, rfl, by decide, by decide⟩
instance : TI Tryz.prog 42 false 1 := ⟨fun _ => by kernel_rfl, fun _ => by kernel_rfl⟩
instance : TI Tryz.prog 43 false 1 := ⟨fun _ => by kernel_rfl, fun _ => by kernel_rfl⟩
instance : TI Tryz.prog 44 false 1 := ⟨fun _ => by kernel_rfl, fun _ => by kernel_rfl⟩
instance : TI Tryz.prog 45 false 1 := ⟨fun _ => by kernel_rfl, fun _ => by kernel_rfl⟩
instance : TI Tryz.prog 46 false 1 := ⟨fun _ => by kernel_rfl, fun _ => by kernel_rfl⟩
instance : TI Tryz.prog 47 false 1 := ⟨fun _ => by kernel_rfl, fun _ => by kernel_rfl⟩
instance : TI Tryz.prog 48 false 1 := ⟨fun _ => by kernel_rfl, fun _ => by kernel_rfl⟩
instance : ZI Tryz.prog 48 (.pointer none) := ⟨fun _ => by kernel_rfl⟩
instance : TI Tryz.prog 49 false 1 := ⟨fun _ => by kernel_rfl, fun _ => by kernel_rfl⟩
instance : TI Tryz.prog 50 true 5 := ⟨fun _ => by kernel_rfl, fun _ => by kernel_rfl⟩
instance : ZI Tryz.prog 50 (.agg #[.int .i64 0, .int .i64 0, .slice none 0 0, .slice none 0 0, .slice none 0 0]) := ⟨fun _ => by kernel_rfl⟩
instance : BI Tryz.prog 50 (.agg #[.int .i64 0, .int .i64 0, .slice none 0 0, .slice none 0 0, .slice none 0 0]) := ⟨fun _ => by kernel_rfl⟩
instance : FI Tryz.prog 50 0 0 := ⟨fun _ _ _ => by kernel_rfl⟩
instance : FI Tryz.prog 50 1 1 := ⟨fun _ _ _ => by kernel_rfl⟩
instance : FI Tryz.prog 50 2 2 := ⟨fun _ _ _ => by kernel_rfl⟩
instance : FI Tryz.prog 50 3 3 := ⟨fun _ _ _ => by kernel_rfl⟩
instance : FI Tryz.prog 50 4 4 := ⟨fun _ _ _ => by kernel_rfl⟩
instance : TI Tryz.prog 51 true 5 := ⟨fun _ => by kernel_rfl, fun _ => by kernel_rfl⟩
instance : ZI Tryz.prog 51 (.agg #[.int .i64 0, .int .i64 0, .slice none 0 0, .slice none 0 0, .slice none 0 0]) := ⟨fun _ => by kernel_rfl⟩
instance : BI Tryz.prog 51 (.agg #[.int .i64 0, .int .i64 0, .slice none 0 0, .slice none 0 0, .slice none 0 0]) := ⟨fun _ => by kernel_rfl⟩
instance : FI Tryz.prog 51 0 0 := ⟨fun _ _ _ => by kernel_rfl⟩
instance : FI Tryz.prog 51 1 1 := ⟨fun _ _ _ => by kernel_rfl⟩
instance : FI Tryz.prog 51 2 2 := ⟨fun _ _ _ => by kernel_rfl⟩
instance : FI Tryz.prog 51 3 3 := ⟨fun _ _ _ => by kernel_rfl⟩
instance : FI Tryz.prog 51 4 4 := ⟨fun _ _ _ => by kernel_rfl⟩
instance : TI Tryz.prog 52 false 1 := ⟨fun _ => by kernel_rfl, fun _ => by kernel_rfl⟩
instance : TI Tryz.prog 53 false 1 := ⟨fun _ => by kernel_rfl, fun _ => by kernel_rfl⟩
instance : ZI Tryz.prog 53 (.slice none 0 0) := ⟨fun _ => by kernel_rfl⟩
instance : SI Tryz.prog 53 64 1 24 (.slice none 0 0) := ⟨Tryz.underlying53, by kernel_rfl, rfl, by decide, by decide⟩
instance : TI Tryz.prog 54 true 3 := ⟨fun _ => by kernel_rfl, fun _ => by kernel_rfl⟩
instance : ZI Tryz.prog 54 (.agg #[.slice none 0 0, .int .i64 0, .slice none 0 0]) := ⟨fun _ => by kernel_rfl⟩
instance : BI Tryz.prog 54 (.agg #[.slice none 0 0, .int .i64 0, .slice none 0 0]) := ⟨fun _ => by kernel_rfl⟩
instance : FI Tryz.prog 54 0 0 := ⟨fun _ _ _ => by kernel_rfl⟩
instance : FI Tryz.prog 54 1 1 := ⟨fun _ _ _ => by kernel_rfl⟩
instance : FI Tryz.prog 54 2 2 := ⟨fun _ _ _ => by kernel_rfl⟩
instance : TI Tryz.prog 55 true 3 := ⟨fun _ => by kernel_rfl, fun _ => by kernel_rfl⟩
instance : ZI Tryz.prog 55 (.agg #[.slice none 0 0, .int .i64 0, .slice none 0 0]) := ⟨fun _ => by kernel_rfl⟩
instance : BI Tryz.prog 55 (.agg #[.slice none 0 0, .int .i64 0, .slice none 0 0]) := ⟨fun _ => by kernel_rfl⟩
instance : FI Tryz.prog 55 0 0 := ⟨fun _ _ _ => by kernel_rfl⟩
instance : FI Tryz.prog 55 1 1 := ⟨fun _ _ _ => by kernel_rfl⟩
instance : FI Tryz.prog 55 2 2 := ⟨fun _ _ _ => by kernel_rfl⟩
instance : TI Tryz.prog 56 true 9 := ⟨fun _ => by kernel_rfl, fun _ => by kernel_rfl⟩
instance : ZI Tryz.prog 56 (.agg #[.int .i64 0, .int .i64 0, .slice none 0 0, .slice none 0 0, .slice none 0 0, .slice none 0 0, .int .i64 0, .slice none 0 0, .slice none 0 0]) := ⟨fun _ => by kernel_rfl⟩
instance : BI Tryz.prog 56 (.agg #[.int .i64 0, .int .i64 0, .slice none 0 0, .slice none 0 0, .slice none 0 0, .slice none 0 0, .int .i64 0, .slice none 0 0, .slice none 0 0]) := ⟨fun _ => by kernel_rfl⟩
instance : FI Tryz.prog 56 0 0 := ⟨fun _ _ _ => by kernel_rfl⟩
instance : FI Tryz.prog 56 1 5 := ⟨fun _ _ _ => by kernel_rfl⟩
instance : FI Tryz.prog 56 2 8 := ⟨fun _ _ _ => by kernel_rfl⟩
instance : TI Tryz.prog 57 true 9 := ⟨fun _ => by kernel_rfl, fun _ => by kernel_rfl⟩
instance : ZI Tryz.prog 57 (.agg #[.int .i64 0, .int .i64 0, .slice none 0 0, .slice none 0 0, .slice none 0 0, .slice none 0 0, .int .i64 0, .slice none 0 0, .slice none 0 0]) := ⟨fun _ => by kernel_rfl⟩
instance : BI Tryz.prog 57 (.agg #[.int .i64 0, .int .i64 0, .slice none 0 0, .slice none 0 0, .slice none 0 0, .slice none 0 0, .int .i64 0, .slice none 0 0, .slice none 0 0]) := ⟨fun _ => by kernel_rfl⟩
instance : FI Tryz.prog 57 0 0 := ⟨fun _ _ _ => by kernel_rfl⟩
instance : FI Tryz.prog 57 1 5 := ⟨fun _ _ _ => by kernel_rfl⟩
instance : FI Tryz.prog 57 2 8 := ⟨fun _ _ _ => by kernel_rfl⟩
instance : TI Tryz.prog 58 false 1 := ⟨fun _ => by kernel_rfl, fun _ => by kernel_rfl⟩
instance : TI Tryz.prog 59 false 1 := ⟨fun _ => by kernel_rfl, fun _ => by kernel_rfl⟩
instance : TI Tryz.prog 60 false 1 := ⟨fun _ => by kernel_rfl, fun _ => by kernel_rfl⟩
instance : TI Tryz.prog 61 false 1 := ⟨fun _ => by kernel_rfl, fun _ => by kernel_rfl⟩
instance : TI Tryz.prog 62 false 1 := ⟨fun _ => by kernel_rfl, fun _ => by kernel_rfl⟩
instance : TI Tryz.prog 63 false 1 := ⟨fun _ => by kernel_rfl, fun _ => by kernel_rfl⟩
instance : TI Tryz.prog 64 false 1 := ⟨fun _ => by kernel_rfl, fun _ => by kernel_rfl⟩
instance : ZI Tryz.prog 64 (.slice none 0 0) := ⟨fun _ => by kernel_rfl⟩
instance : SI Tryz.prog 64 5 1 1 (.int .u8 0) := ⟨Tryz.underlying64, by kernel_rfl, rfl, by decide, by decide⟩
instance : TI Tryz.prog 65 false 1 := ⟨fun _ => by kernel_rfl, fun _ => by kernel_rfl⟩
instance : TI Tryz.prog 66 false 1 := ⟨fun _ => by kernel_rfl, fun _ => by kernel_rfl⟩
instance : ZI Tryz.prog 66 (.pointer none) := ⟨fun _ => by kernel_rfl⟩
instance : TI Tryz.prog 67 false 1 := ⟨fun _ => by kernel_rfl, fun _ => by kernel_rfl⟩
instance : TI Tryz.prog 68 false 1 := ⟨fun _ => by kernel_rfl, fun _ => by kernel_rfl⟩
instance : TI Tryz.prog 69 false 1 := ⟨fun _ => by kernel_rfl, fun _ => by kernel_rfl⟩
instance : TI Tryz.prog 70 false 1 := ⟨fun _ => by kernel_rfl, fun _ => by kernel_rfl⟩
instance : TI Tryz.prog 71 false 1 := ⟨fun _ => by kernel_rfl, fun _ => by kernel_rfl⟩
instance : ZI Tryz.prog 71 (.int .i64 0) := ⟨fun _ => by kernel_rfl⟩
instance : UI Tryz.prog 71 (.int .i64) := ⟨Tryz.underlying71⟩
instance : TI Tryz.prog 72 true 4 := ⟨fun _ => by kernel_rfl, fun _ => by kernel_rfl⟩
instance : ZI Tryz.prog 72 (.agg #[.int .i64 0, .slice none 0 0, .int .i64 0, .int .i64 0]) := ⟨fun _ => by kernel_rfl⟩
instance : BI Tryz.prog 72 (.agg #[.int .i64 0, .slice none 0 0, .int .i64 0, .int .i64 0]) := ⟨fun _ => by kernel_rfl⟩
instance : FI Tryz.prog 72 0 0 := ⟨fun _ _ _ => by kernel_rfl⟩
instance : FI Tryz.prog 72 1 1 := ⟨fun _ _ _ => by kernel_rfl⟩
instance : FI Tryz.prog 72 2 2 := ⟨fun _ _ _ => by kernel_rfl⟩
instance : FI Tryz.prog 72 3 3 := ⟨fun _ _ _ => by kernel_rfl⟩
instance : TI Tryz.prog 73 true 4 := ⟨fun _ => by kernel_rfl, fun _ => by kernel_rfl⟩
instance : ZI Tryz.prog 73 (.agg #[.int .i64 0, .slice none 0 0, .int .i64 0, .int .i64 0]) := ⟨fun _ => by kernel_rfl⟩
instance : BI Tryz.prog 73 (.agg #[.int .i64 0, .slice none 0 0, .int .i64 0, .int .i64 0]) := ⟨fun _ => by kernel_rfl⟩
instance : FI Tryz.prog 73 0 0 := ⟨fun _ _ _ => by kernel_rfl⟩
instance : FI Tryz.prog 73 1 1 := ⟨fun _ _ _ => by kernel_rfl⟩
instance : FI Tryz.prog 73 2 2 := ⟨fun _ _ _ => by kernel_rfl⟩
instance : FI Tryz.prog 73 3 3 := ⟨fun _ _ _ => by kernel_rfl⟩
instance : TI Tryz.prog 74 false 1 := ⟨fun _ => by kernel_rfl, fun _ => by kernel_rfl⟩
instance : TI Tryz.prog 76 false 1 := ⟨fun _ => by kernel_rfl, fun _ => by kernel_rfl⟩
instance : TI Tryz.prog 77 false 1 := ⟨fun _ => by kernel_rfl, fun _ => by kernel_rfl⟩
instance : TI Tryz.prog 78 false 1 := ⟨fun _ => by kernel_rfl, fun _ => by kernel_rfl⟩
instance : TI Tryz.prog 80 false 1 := ⟨fun _ => by kernel_rfl, fun _ => by kernel_rfl⟩
instance : TI Tryz.prog 81 false 1 := ⟨fun _ => by kernel_rfl, fun _ => by kernel_rfl⟩
instance : ZI Tryz.prog 81 (.pointer none) := ⟨fun _ => by kernel_rfl⟩
instance : TI Tryz.prog 82 true 2 := ⟨fun _ => by kernel_rfl, fun _ => by kernel_rfl⟩
instance : ZI Tryz.prog 82 (.agg #[.slice none 0 0, .int .i64 0]) := ⟨fun _ => by kernel_rfl⟩
instance : BI Tryz.prog 82 (.agg #[.slice none 0 0, .int .i64 0]) := ⟨fun _ => by kernel_rfl⟩
instance : FI Tryz.prog 82 0 0 := ⟨fun _ _ _ => by kernel_rfl⟩
instance : FI Tryz.prog 82 1 1 := ⟨fun _ _ _ => by kernel_rfl⟩
instance : TI Tryz.prog 83 true 2 := ⟨fun _ => by kernel_rfl, fun _ => by kernel_rfl⟩
instance : ZI Tryz.prog 83 (.agg #[.slice none 0 0, .int .i64 0]) := ⟨fun _ => by kernel_rfl⟩
instance : BI Tryz.prog 83 (.agg #[.slice none 0 0, .int .i64 0]) := ⟨fun _ => by kernel_rfl⟩
instance : FI Tryz.prog 83 0 0 := ⟨fun _ _ _ => by kernel_rfl⟩
instance : FI Tryz.prog 83 1 1 := ⟨fun _ _ _ => by kernel_rfl⟩
instance : TI Tryz.prog 84 false 1 := ⟨fun _ => by kernel_rfl, fun _ => by kernel_rfl⟩
instance : TI Tryz.prog 85 false 1 := ⟨fun _ => by kernel_rfl, fun _ => by kernel_rfl⟩
instance : TI Tryz.prog 86 true 22 := ⟨fun _ => by kernel_rfl, fun _ => by kernel_rfl⟩
instance : ZI Tryz.prog 86 (.agg #[.int .i64 0, .int .i64 0, .int .i64 0, .int .i64 0, .int .i64 0, .int .i64 0, .int .u8 0, .int .u8 0, .int .u8 0, .int .u8 0, .int .u8 0, .int .u8 0, .int .u8 0, .int .u8 0, .int .u8 0, .int .u8 0, .int .u8 0, .int .u8 0, .int .u8 0, .int .u8 0, .int .u8 0, .int .u8 0]) := ⟨fun _ => by kernel_rfl⟩
instance : BI Tryz.prog 86 (.agg #[.int .i64 0, .int .i64 0, .int .i64 0, .int .i64 0, .int .i64 0, .int .i64 0, .int .u8 0, .int .u8 0, .int .u8 0, .int .u8 0, .int .u8 0, .int .u8 0, .int .u8 0, .int .u8 0, .int .u8 0, .int .u8 0, .int .u8 0, .int .u8 0, .int .u8 0, .int .u8 0, .int .u8 0, .int .u8 0]) := ⟨fun _ => by kernel_rfl⟩
instance : FI Tryz.prog 86 0 0 := ⟨fun _ _ _ => by kernel_rfl⟩
instance : FI Tryz.prog 86 1 1 := ⟨fun _ _ _ => by kernel_rfl⟩
instance : FI Tryz.prog 86 2 2 := ⟨fun _ _ _ => by kernel_rfl⟩
instance : FI Tryz.prog 86 3 3 := ⟨fun _ _ _ => by kernel_rfl⟩
instance : FI Tryz.prog 86 4 4 := ⟨fun _ _ _ => by kernel_rfl⟩
instance : FI Tryz.prog 86 5 5 := ⟨fun _ _ _ => by kernel_rfl⟩
instance : FI Tryz.prog 86 6 6 := ⟨fun _ _ _ => by kernel_rfl⟩
instance : FI Tryz.prog 86 7 14 := ⟨fun _ _ _ => by kernel_rfl⟩
instance : TI Tryz.prog 87 true 22 := ⟨fun _ => by kernel_rfl, fun _ => by kernel_rfl⟩
instance : ZI Tryz.prog 87 (.agg #[.int .i64 0, .int .i64 0, .int .i64 0, .int .i64 0, .int .i64 0, .int .i64 0, .int .u8 0, .int .u8 0, .int .u8 0, .int .u8 0, .int .u8 0, .int .u8 0, .int .u8 0, .int .u8 0, .int .u8 0, .int .u8 0, .int .u8 0, .int .u8 0, .int .u8 0, .int .u8 0, .int .u8 0, .int .u8 0]) := ⟨fun _ => by kernel_rfl⟩
instance : BI Tryz.prog 87 (.agg #[.int .i64 0, .int .i64 0, .int .i64 0, .int .i64 0, .int .i64 0, .int .i64 0, .int .u8 0, .int .u8 0, .int .u8 0, .int .u8 0, .int .u8 0, .int .u8 0, .int .u8 0, .int .u8 0, .int .u8 0, .int .u8 0, .int .u8 0, .int .u8 0, .int .u8 0, .int .u8 0, .int .u8 0, .int .u8 0]) := ⟨fun _ => by kernel_rfl⟩
instance : FI Tryz.prog 87 0 0 := ⟨fun _ _ _ => by kernel_rfl⟩
instance : FI Tryz.prog 87 1 1 := ⟨fun _ _ _ => by kernel_rfl⟩
instance : FI Tryz.prog 87 2 2 := ⟨fun _ _ _ => by kernel_rfl⟩
instance : FI Tryz.prog 87 3 3 := ⟨fun _ _ _ => by kernel_rfl⟩
instance : FI Tryz.prog 87 4 4 := ⟨fun _ _ _ => by kernel_rfl⟩
instance : FI Tryz.prog 87 5 5 := ⟨fun _ _ _ => by kernel_rfl⟩
instance : FI Tryz.prog 87 6 6 := ⟨fun _ _ _ => by kernel_rfl⟩
instance : FI Tryz.prog 87 7 14 := ⟨fun _ _ _ => by kernel_rfl⟩
instance : TI Tryz.prog 88 false 1 := ⟨fun _ => by kernel_rfl, fun _ => by kernel_rfl⟩
instance : TI Tryz.prog 90 false 1 := ⟨fun _ => by kernel_rfl, fun _ => by kernel_rfl⟩
instance : ZI Tryz.prog 90 (.map none) := ⟨fun _ => by kernel_rfl⟩
instance : TI Tryz.prog 91 true 2 := ⟨fun _ => by kernel_rfl, fun _ => by kernel_rfl⟩
instance : ZI Tryz.prog 91 (.agg #[.slice none 0 0, .map none]) := ⟨fun _ => by kernel_rfl⟩
instance : BI Tryz.prog 91 (.agg #[.slice none 0 0, .map none]) := ⟨fun _ => by kernel_rfl⟩
instance : FI Tryz.prog 91 0 0 := ⟨fun _ _ _ => by kernel_rfl⟩
instance : FI Tryz.prog 91 1 1 := ⟨fun _ _ _ => by kernel_rfl⟩
instance : TI Tryz.prog 92 true 2 := ⟨fun _ => by kernel_rfl, fun _ => by kernel_rfl⟩
instance : ZI Tryz.prog 92 (.agg #[.slice none 0 0, .map none]) := ⟨fun _ => by kernel_rfl⟩
instance : BI Tryz.prog 92 (.agg #[.slice none 0 0, .map none]) := ⟨fun _ => by kernel_rfl⟩
instance : FI Tryz.prog 92 0 0 := ⟨fun _ _ _ => by kernel_rfl⟩
instance : FI Tryz.prog 92 1 1 := ⟨fun _ _ _ => by kernel_rfl⟩
instance : TI Tryz.prog 93 false 1 := ⟨fun _ => by kernel_rfl, fun _ => by kernel_rfl⟩
instance : ZI Tryz.prog 93 (.map none) := ⟨fun _ => by kernel_rfl⟩
instance : TI Tryz.prog 94 false 1 := ⟨fun _ => by kernel_rfl, fun _ => by kernel_rfl⟩
instance : ZI Tryz.prog 94 (.map none) := ⟨fun _ => by kernel_rfl⟩
instance : TI Tryz.prog 95 true 5 := ⟨fun _ => by kernel_rfl, fun _ => by kernel_rfl⟩
instance : ZI Tryz.prog 95 (.agg #[.slice none 0 0, .slice none 0 0, .map none, .map none, .map none]) := ⟨fun _ => by kernel_rfl⟩
instance : BI Tryz.prog 95 (.agg #[.slice none 0 0, .slice none 0 0, .map none, .map none, .map none]) := ⟨fun _ => by kernel_rfl⟩
instance : FI Tryz.prog 95 0 0 := ⟨fun _ _ _ => by kernel_rfl⟩
instance : FI Tryz.prog 95 1 1 := ⟨fun _ _ _ => by kernel_rfl⟩
instance : FI Tryz.prog 95 2 3 := ⟨fun _ _ _ => by kernel_rfl⟩
instance : FI Tryz.prog 95 3 4 := ⟨fun _ _ _ => by kernel_rfl⟩
instance : TI Tryz.prog 96 true 5 := ⟨fun _ => by kernel_rfl, fun _ => by kernel_rfl⟩
instance : ZI Tryz.prog 96 (.agg #[.slice none 0 0, .slice none 0 0, .map none, .map none, .map none]) := ⟨fun _ => by kernel_rfl⟩
instance : BI Tryz.prog 96 (.agg #[.slice none 0 0, .slice none 0 0, .map none, .map none, .map none]) := ⟨fun _ => by kernel_rfl⟩
instance : FI Tryz.prog 96 0 0 := ⟨fun _ _ _ => by kernel_rfl⟩
instance : FI Tryz.prog 96 1 1 := ⟨fun _ _ _ => by kernel_rfl⟩
instance : FI Tryz.prog 96 2 3 := ⟨fun _ _ _ => by kernel_rfl⟩
instance : FI Tryz.prog 96 3 4 := ⟨fun _ _ _ => by kernel_rfl⟩
instance : TI Tryz.prog 97 false 1 := ⟨fun _ => by kernel_rfl, fun _ => by kernel_rfl⟩
instance : TI Tryz.prog 98 false 1 := ⟨fun _ => by kernel_rfl, fun _ => by kernel_rfl⟩
instance : TI Tryz.prog 99 false 1 := ⟨fun _ => by kernel_rfl, fun _ => by kernel_rfl⟩
instance : TI Tryz.prog 100 false 1 := ⟨fun _ => by kernel_rfl, fun _ => by kernel_rfl⟩
instance : TI Tryz.prog 101 false 1 := ⟨fun _ => by kernel_rfl, fun _ => by kernel_rfl⟩
instance : TI Tryz.prog 102 false 1 := ⟨fun _ => by kernel_rfl, fun _ => by kernel_rfl⟩
instance : TI Tryz.prog 103 false 1 := ⟨fun _ => by kernel_rfl, fun _ => by kernel_rfl⟩
instance : TI Tryz.prog 104 false 1 := ⟨fun _ => by kernel_rfl, fun _ => by kernel_rfl⟩
instance : TI Tryz.prog 105 false 1 := ⟨fun _ => by kernel_rfl, fun _ => by kernel_rfl⟩
instance : TI Tryz.prog 106 false 1 := ⟨fun _ => by kernel_rfl, fun _ => by kernel_rfl⟩
instance : TI Tryz.prog 107 false 1 := ⟨fun _ => by kernel_rfl, fun _ => by kernel_rfl⟩
instance : TI Tryz.prog 108 false 1 := ⟨fun _ => by kernel_rfl, fun _ => by kernel_rfl⟩
instance : TI Tryz.prog 109 false 1 := ⟨fun _ => by kernel_rfl, fun _ => by kernel_rfl⟩
instance : TI Tryz.prog 110 true 17 := ⟨fun _ => by kernel_rfl, fun _ => by kernel_rfl⟩
instance : ZI Tryz.prog 110 (.agg #[.int .i64 0, .int .u8 0, .int .u8 0, .int .u8 0, .int .u8 0, .int .u8 0, .int .u8 0, .int .u8 0, .int .u8 0, .int .u8 0, .int .u8 0, .int .u8 0, .int .u8 0, .int .u8 0, .int .u8 0, .int .u8 0, .int .u8 0]) := ⟨fun _ => by kernel_rfl⟩
instance : BI Tryz.prog 110 (.agg #[.int .i64 0, .int .u8 0, .int .u8 0, .int .u8 0, .int .u8 0, .int .u8 0, .int .u8 0, .int .u8 0, .int .u8 0, .int .u8 0, .int .u8 0, .int .u8 0, .int .u8 0, .int .u8 0, .int .u8 0, .int .u8 0, .int .u8 0]) := ⟨fun _ => by kernel_rfl⟩
instance : FI Tryz.prog 110 0 0 := ⟨fun _ _ _ => by kernel_rfl⟩
instance : FI Tryz.prog 110 1 1 := ⟨fun _ _ _ => by kernel_rfl⟩
instance : FI Tryz.prog 110 2 9 := ⟨fun _ _ _ => by kernel_rfl⟩
instance : TI Tryz.prog 111 true 17 := ⟨fun _ => by kernel_rfl, fun _ => by kernel_rfl⟩
instance : ZI Tryz.prog 111 (.agg #[.int .i64 0, .int .u8 0, .int .u8 0, .int .u8 0, .int .u8 0, .int .u8 0, .int .u8 0, .int .u8 0, .int .u8 0, .int .u8 0, .int .u8 0, .int .u8 0, .int .u8 0, .int .u8 0, .int .u8 0, .int .u8 0, .int .u8 0]) := ⟨fun _ => by kernel_rfl⟩
instance : BI Tryz.prog 111 (.agg #[.int .i64 0, .int .u8 0, .int .u8 0, .int .u8 0, .int .u8 0, .int .u8 0, .int .u8 0, .int .u8 0, .int .u8 0, .int .u8 0, .int .u8 0, .int .u8 0, .int .u8 0, .int .u8 0, .int .u8 0, .int .u8 0, .int .u8 0]) := ⟨fun _ => by kernel_rfl⟩
instance : FI Tryz.prog 111 0 0 := ⟨fun _ _ _ => by kernel_rfl⟩
instance : FI Tryz.prog 111 1 1 := ⟨fun _ _ _ => by kernel_rfl⟩
instance : FI Tryz.prog 111 2 9 := ⟨fun _ _ _ => by kernel_rfl⟩
instance : TI Tryz.prog 112 false 1 := ⟨fun _ => by kernel_rfl, fun _ => by kernel_rfl⟩
instance : TI Tryz.prog 113 false 1 := ⟨fun _ => by kernel_rfl, fun _ => by kernel_rfl⟩
instance : TI Tryz.prog 114 false 1 := ⟨fun _ => by kernel_rfl, fun _ => by kernel_rfl⟩
instance : ZI Tryz.prog 114 (.int .u64 0) := ⟨fun _ => by kernel_rfl⟩
instance : UI Tryz.prog 114 (.int .u64) := ⟨Tryz.underlying114⟩
instance : TI Tryz.prog 115 false 1 := ⟨fun _ => by kernel_rfl, fun _ => by kernel_rfl⟩
instance : TI Tryz.prog 116 true 1 := ⟨fun _ => by kernel_rfl, fun _ => by kernel_rfl⟩
instance : ZI Tryz.prog 116 (.agg #[.pointer none]) := ⟨fun _ => by kernel_rfl⟩
instance : BI Tryz.prog 116 (.agg #[.pointer none]) := ⟨fun _ => by kernel_rfl⟩
instance : FI Tryz.prog 116 0 0 := ⟨fun _ _ _ => by kernel_rfl⟩
instance : TI Tryz.prog 117 true 1 := ⟨fun _ => by kernel_rfl, fun _ => by kernel_rfl⟩
instance : ZI Tryz.prog 117 (.agg #[.pointer none]) := ⟨fun _ => by kernel_rfl⟩
instance : BI Tryz.prog 117 (.agg #[.pointer none]) := ⟨fun _ => by kernel_rfl⟩
instance : FI Tryz.prog 117 0 0 := ⟨fun _ _ _ => by kernel_rfl⟩
instance : TI Tryz.prog 118 false 1 := ⟨fun _ => by kernel_rfl, fun _ => by kernel_rfl⟩
instance : TI Tryz.prog 119 false 1 := ⟨fun _ => by kernel_rfl, fun _ => by kernel_rfl⟩
instance : TI Tryz.prog 120 false 1 := ⟨fun _ => by kernel_rfl, fun _ => by kernel_rfl⟩
instance : TI Tryz.prog 122 false 1 := ⟨fun _ => by kernel_rfl, fun _ => by kernel_rfl⟩
instance : TI Tryz.prog 123 false 1 := ⟨fun _ => by kernel_rfl, fun _ => by kernel_rfl⟩
instance : TI Tryz.prog 124 false 1 := ⟨fun _ => by kernel_rfl, fun _ => by kernel_rfl⟩
instance : TI Tryz.prog 125 false 1 := ⟨fun _ => by kernel_rfl, fun _ => by kernel_rfl⟩
instance : TI Tryz.prog 127 true 4 := ⟨fun _ => by kernel_rfl, fun _ => by kernel_rfl⟩
instance : ZI Tryz.prog 127 (.agg #[.int .i64 0, .int .i64 0, .int .i64 0, .bool false]) := ⟨fun _ => by kernel_rfl⟩
instance : BI Tryz.prog 127 (.agg #[.int .i64 0, .int .i64 0, .int .i64 0, .bool false]) := ⟨fun _ => by kernel_rfl⟩
instance : FI Tryz.prog 127 0 0 := ⟨fun _ _ _ => by kernel_rfl⟩
instance : FI Tryz.prog 127 1 1 := ⟨fun _ _ _ => by kernel_rfl⟩
instance : FI Tryz.prog 127 2 2 := ⟨fun _ _ _ => by kernel_rfl⟩
instance : FI Tryz.prog 127 3 3 := ⟨fun _ _ _ => by kernel_rfl⟩
instance : TI Tryz.prog 128 true 4 := ⟨fun _ => by kernel_rfl, fun _ => by kernel_rfl⟩
instance : ZI Tryz.prog 128 (.agg #[.int .i64 0, .int .i64 0, .int .i64 0, .bool false]) := ⟨fun _ => by kernel_rfl⟩
instance : BI Tryz.prog 128 (.agg #[.int .i64 0, .int .i64 0, .int .i64 0, .bool false]) := ⟨fun _ => by kernel_rfl⟩
instance : FI Tryz.prog 128 0 0 := ⟨fun _ _ _ => by kernel_rfl⟩
instance : FI Tryz.prog 128 1 1 := ⟨fun _ _ _ => by kernel_rfl⟩
instance : FI Tryz.prog 128 2 2 := ⟨fun _ _ _ => by kernel_rfl⟩
instance : FI Tryz.prog 128 3 3 := ⟨fun _ _ _ => by kernel_rfl⟩
instance : TI Tryz.prog 130 false 1 := ⟨fun _ => by kernel_rfl, fun _ => by kernel_rfl⟩
instance : TI Tryz.prog 131 false 1 := ⟨fun _ => by kernel_rfl, fun _ => by kernel_rfl⟩
instance : TI Tryz.prog 132 false 1 := ⟨fun _ => by kernel_rfl, fun _ => by kernel_rfl⟩
instance : TI Tryz.prog 133 false 1 := ⟨fun _ => by kernel_rfl, fun _ => by kernel_rfl⟩
instance : TI Tryz.prog 134 false 1 := ⟨fun _ => by kernel_rfl, fun _ => by kernel_rfl⟩
instance : TI Tryz.prog 135 true 10 := ⟨fun _ => by kernel_rfl, fun _ => by kernel_rfl⟩
instance : ZI Tryz.prog 135 (.agg #[.int .i64 0, .int .i64 0, .int .u8 0, .int .u8 0, .int .u8 0, .int .u8 0, .int .u8 0, .int .u8 0, .int .u8 0, .int .u8 0]) := ⟨fun _ => by kernel_rfl⟩
instance : BI Tryz.prog 135 (.agg #[.int .i64 0, .int .i64 0, .int .u8 0, .int .u8 0, .int .u8 0, .int .u8 0, .int .u8 0, .int .u8 0, .int .u8 0, .int .u8 0]) := ⟨fun _ => by kernel_rfl⟩
instance : FI Tryz.prog 135 0 0 := ⟨fun _ _ _ => by kernel_rfl⟩
instance : FI Tryz.prog 135 1 1 := ⟨fun _ _ _ => by kernel_rfl⟩
instance : FI Tryz.prog 135 2 2 := ⟨fun _ _ _ => by kernel_rfl⟩
instance : TI Tryz.prog 136 true 10 := ⟨fun _ => by kernel_rfl, fun _ => by kernel_rfl⟩
instance : ZI Tryz.prog 136 (.agg #[.int .i64 0, .int .i64 0, .int .u8 0, .int .u8 0, .int .u8 0, .int .u8 0, .int .u8 0, .int .u8 0, .int .u8 0, .int .u8 0]) := ⟨fun _ => by kernel_rfl⟩
instance : BI Tryz.prog 136 (.agg #[.int .i64 0, .int .i64 0, .int .u8 0, .int .u8 0, .int .u8 0, .int .u8 0, .int .u8 0, .int .u8 0, .int .u8 0, .int .u8 0]) := ⟨fun _ => by kernel_rfl⟩
instance : FI Tryz.prog 136 0 0 := ⟨fun _ _ _ => by kernel_rfl⟩
instance : FI Tryz.prog 136 1 1 := ⟨fun _ _ _ => by kernel_rfl⟩
instance : FI Tryz.prog 136 2 2 := ⟨fun _ _ _ => by kernel_rfl⟩
instance : TI Tryz.prog 137 true 11 := ⟨fun _ => by kernel_rfl, fun _ => by kernel_rfl⟩
instance : ZI Tryz.prog 137 (.agg #[.int .i64 0, .int .i64 0, .int .u8 0, .int .u8 0, .int .u8 0, .int .u8 0, .int .u8 0, .int .u8 0, .int .u8 0, .int .u8 0, .int .i64 0]) := ⟨fun _ => by kernel_rfl⟩
instance : BI Tryz.prog 137 (.agg #[.int .i64 0, .int .i64 0, .int .u8 0, .int .u8 0, .int .u8 0, .int .u8 0, .int .u8 0, .int .u8 0, .int .u8 0, .int .u8 0, .int .i64 0]) := ⟨fun _ => by kernel_rfl⟩
instance : FI Tryz.prog 137 0 0 := ⟨fun _ _ _ => by kernel_rfl⟩
instance : FI Tryz.prog 137 1 10 := ⟨fun _ _ _ => by kernel_rfl⟩
instance : TI Tryz.prog 138 true 11 := ⟨fun _ => by kernel_rfl, fun _ => by kernel_rfl⟩
instance : ZI Tryz.prog 138 (.agg #[.int .i64 0, .int .i64 0, .int .u8 0, .int .u8 0, .int .u8 0, .int .u8 0, .int .u8 0, .int .u8 0, .int .u8 0, .int .u8 0, .int .i64 0]) := ⟨fun _ => by kernel_rfl⟩
instance : BI Tryz.prog 138 (.agg #[.int .i64 0, .int .i64 0, .int .u8 0, .int .u8 0, .int .u8 0, .int .u8 0, .int .u8 0, .int .u8 0, .int .u8 0, .int .u8 0, .int .i64 0]) := ⟨fun _ => by kernel_rfl⟩
instance : FI Tryz.prog 138 0 0 := ⟨fun _ _ _ => by kernel_rfl⟩
instance : FI Tryz.prog 138 1 10 := ⟨fun _ _ _ => by kernel_rfl⟩
instance : TI Tryz.prog 139 false 1 := ⟨fun _ => by kernel_rfl, fun _ => by kernel_rfl⟩
instance : TI Tryz.prog 140 true 19 := ⟨fun _ => by kernel_rfl, fun _ => by kernel_rfl⟩
instance : ZI Tryz.prog 140 (.agg #[.int .u8 0, .int .u8 0, .int .u8 0, .int .u8 0, .int .u8 0, .int .u8 0, .int .u8 0, .int .u8 0, .int .u8 0, .int .u8 0, .int .u8 0, .int .u8 0, .int .u8 0, .int .u8 0, .int .u8 0, .int .u8 0, .int .i64 0, .int .i64 0, .int .i64 0]) := ⟨fun _ => by kernel_rfl⟩
instance : BI Tryz.prog 140 (.agg #[.int .u8 0, .int .u8 0, .int .u8 0, .int .u8 0, .int .u8 0, .int .u8 0, .int .u8 0, .int .u8 0, .int .u8 0, .int .u8 0, .int .u8 0, .int .u8 0, .int .u8 0, .int .u8 0, .int .u8 0, .int .u8 0, .int .i64 0, .int .i64 0, .int .i64 0]) := ⟨fun _ => by kernel_rfl⟩
instance : FI Tryz.prog 140 0 0 := ⟨fun _ _ _ => by kernel_rfl⟩
instance : FI Tryz.prog 140 1 8 := ⟨fun _ _ _ => by kernel_rfl⟩
instance : FI Tryz.prog 140 2 16 := ⟨fun _ _ _ => by kernel_rfl⟩
instance : FI Tryz.prog 140 3 17 := ⟨fun _ _ _ => by kernel_rfl⟩
instance : FI Tryz.prog 140 4 18 := ⟨fun _ _ _ => by kernel_rfl⟩
instance : TI Tryz.prog 141 true 19 := ⟨fun _ => by kernel_rfl, fun _ => by kernel_rfl⟩
instance : ZI Tryz.prog 141 (.agg #[.int .u8 0, .int .u8 0, .int .u8 0, .int .u8 0, .int .u8 0, .int .u8 0, .int .u8 0, .int .u8 0, .int .u8 0, .int .u8 0, .int .u8 0, .int .u8 0, .int .u8 0, .int .u8 0, .int .u8 0, .int .u8 0, .int .i64 0, .int .i64 0, .int .i64 0]) := ⟨fun _ => by kernel_rfl⟩
instance : BI Tryz.prog 141 (.agg #[.int .u8 0, .int .u8 0, .int .u8 0, .int .u8 0, .int .u8 0, .int .u8 0, .int .u8 0, .int .u8 0, .int .u8 0, .int .u8 0, .int .u8 0, .int .u8 0, .int .u8 0, .int .u8 0, .int .u8 0, .int .u8 0, .int .i64 0, .int .i64 0, .int .i64 0]) := ⟨fun _ => by kernel_rfl⟩
instance : FI Tryz.prog 141 0 0 := ⟨fun _ _ _ => by kernel_rfl⟩
instance : FI Tryz.prog 141 1 8 := ⟨fun _ _ _ => by kernel_rfl⟩
instance : FI Tryz.prog 141 2 16 := ⟨fun _ _ _ => by kernel_rfl⟩
instance : FI Tryz.prog 141 3 17 := ⟨fun _ _ _ => by kernel_rfl⟩
instance : FI Tryz.prog 141 4 18 := ⟨fun _ _ _ => by kernel_rfl⟩
instance : TI Tryz.prog 142 false 1 := ⟨fun _ => by kernel_rfl, fun _ => by kernel_rfl⟩
instance : TI Tryz.prog 143 false 1 := ⟨fun _ => by kernel_rfl, fun _ => by kernel_rfl⟩
instance : TI Tryz.prog 144 true 2 := ⟨fun _ => by kernel_rfl, fun _ => by kernel_rfl⟩
instance : ZI Tryz.prog 144 (.agg #[.int .u64 0, .int .u64 0]) := ⟨fun _ => by kernel_rfl⟩
instance : BI Tryz.prog 144 (.agg #[.int .u64 0, .int .u64 0]) := ⟨fun _ => by kernel_rfl⟩
instance : FI Tryz.prog 144 0 0 := ⟨fun _ _ _ => by kernel_rfl⟩
instance : FI Tryz.prog 144 1 1 := ⟨fun _ _ _ => by kernel_rfl⟩
instance : TI Tryz.prog 145 true 2 := ⟨fun _ => by kernel_rfl, fun _ => by kernel_rfl⟩
instance : ZI Tryz.prog 145 (.agg #[.int .u64 0, .int .u64 0]) := ⟨fun _ => by kernel_rfl⟩
instance : BI Tryz.prog 145 (.agg #[.int .u64 0, .int .u64 0]) := ⟨fun _ => by kernel_rfl⟩
instance : FI Tryz.prog 145 0 0 := ⟨fun _ _ _ => by kernel_rfl⟩
instance : FI Tryz.prog 145 1 1 := ⟨fun _ _ _ => by kernel_rfl⟩
instance : TI Tryz.prog 146 false 1 := ⟨fun _ => by kernel_rfl, fun _ => by kernel_rfl⟩
instance : TI Tryz.prog 147 false 1 := ⟨fun _ => by kernel_rfl, fun _ => by kernel_rfl⟩
instance : TI Tryz.prog 148 false 1 := ⟨fun _ => by kernel_rfl, fun _ => by kernel_rfl⟩
instance : TI Tryz.prog 149 false 1 := ⟨fun _ => by kernel_rfl, fun _ => by kernel_rfl⟩
instance : TI Tryz.prog 150 false 1 := ⟨fun _ => by kernel_rfl, fun _ => by kernel_rfl⟩
instance : TI Tryz.prog 151 false 1 := ⟨fun _ => by kernel_rfl, fun _ => by kernel_rfl⟩
instance : TI Tryz.prog 152 false 1 := ⟨fun _ => by kernel_rfl, fun _ => by kernel_rfl⟩
instance : TI Tryz.prog 153 false 1 := ⟨fun _ => by kernel_rfl, fun _ => by kernel_rfl⟩
instance : TI Tryz.prog 154 false 1 := ⟨fun _ => by kernel_rfl, fun _ => by kernel_rfl⟩
instance : TI Tryz.prog 155 false 1 := ⟨fun _ => by kernel_rfl, fun _ => by kernel_rfl⟩
instance : ZI Tryz.prog 155 (.int .u64 0) := ⟨fun _ => by kernel_rfl⟩
instance : UI Tryz.prog 155 (.int .u64) := ⟨Tryz.underlying155⟩
instance : TI Tryz.prog 156 false 1 := ⟨fun _ => by kernel_rfl, fun _ => by kernel_rfl⟩
instance : TI Tryz.prog 157 false 1 := ⟨fun _ => by kernel_rfl, fun _ => by kernel_rfl⟩
instance : TI Tryz.prog 158 false 1 := ⟨fun _ => by kernel_rfl, fun _ => by kernel_rfl⟩
instance : TI Tryz.prog 159 false 1 := ⟨fun _ => by kernel_rfl, fun _ => by kernel_rfl⟩
instance : TI Tryz.prog 160 false 1 := ⟨fun _ => by kernel_rfl, fun _ => by kernel_rfl⟩
instance : TI Tryz.prog 161 false 1 := ⟨fun _ => by kernel_rfl, fun _ => by kernel_rfl⟩
instance : TI Tryz.prog 162 false 1 := ⟨fun _ => by kernel_rfl, fun _ => by kernel_rfl⟩
instance : TI Tryz.prog 163 false 1 := ⟨fun _ => by kernel_rfl, fun _ => by kernel_rfl⟩
instance : TI Tryz.prog 164 false 1 := ⟨fun _ => by kernel_rfl, fun _ => by kernel_rfl⟩
instance : TI Tryz.prog 165 false 1 := ⟨fun _ => by kernel_rfl, fun _ => by kernel_rfl⟩
instance : TI Tryz.prog 166 true 16 := ⟨fun _ => by kernel_rfl, fun _ => by kernel_rfl⟩
instance : ZI Tryz.prog 166 (.agg #[.int .u8 0, .int .u8 0, .int .u8 0, .int .u8 0, .int .u8 0, .int .u8 0, .int .u8 0, .int .u8 0, .int .u8 0, .int .u8 0, .int .u8 0, .int .u8 0, .int .u8 0, .int .u8 0, .int .u8 0, .int .u8 0]) := ⟨fun _ => by kernel_rfl⟩
instance : BI Tryz.prog 166 (.agg #[.int .u8 0, .int .u8 0, .int .u8 0, .int .u8 0, .int .u8 0, .int .u8 0, .int .u8 0, .int .u8 0, .int .u8 0, .int .u8 0, .int .u8 0, .int .u8 0, .int .u8 0, .int .u8 0, .int .u8 0, .int .u8 0]) := ⟨fun _ => by kernel_rfl⟩
instance : AI Tryz.prog 166 16 1 := ⟨⟨5, Tryz.underlying166, by kernel_rfl⟩⟩
instance : TI Tryz.prog 167 false 1 := ⟨fun _ => by kernel_rfl, fun _ => by kernel_rfl⟩
instance : TI Tryz.prog 168 false 1 := ⟨fun _ => by kernel_rfl, fun _ => by kernel_rfl⟩
instance : ZI Tryz.prog 168 (.pointer none) := ⟨fun _ => by kernel_rfl⟩
instance : TI Tryz.prog 169 false 1 := ⟨fun _ => by kernel_rfl, fun _ => by kernel_rfl⟩
instance : TI Tryz.prog 171 false 1 := ⟨fun _ => by kernel_rfl, fun _ => by kernel_rfl⟩
instance : TI Tryz.prog 172 false 1 := ⟨fun _ => by kernel_rfl, fun _ => by kernel_rfl⟩
instance : TI Tryz.prog 173 false 1 := ⟨fun _ => by kernel_rfl, fun _ => by kernel_rfl⟩
instance : TI Tryz.prog 174 false 1 := ⟨fun _ => by kernel_rfl, fun _ => by kernel_rfl⟩
instance : TI Tryz.prog 175 false 1 := ⟨fun _ => by kernel_rfl, fun _ => by kernel_rfl⟩
instance : TI Tryz.prog 176 false 1 := ⟨fun _ => by kernel_rfl, fun _ => by kernel_rfl⟩
instance : TI Tryz.prog 177 false 1 := ⟨fun _ => by kernel_rfl, fun _ => by kernel_rfl⟩
instance : TI Tryz.prog 178 false 1 := ⟨fun _ => by kernel_rfl, fun _ => by kernel_rfl⟩
instance : TI Tryz.prog 179 false 1 := ⟨fun _ => by kernel_rfl, fun _ => by kernel_rfl⟩
instance : TI Tryz.prog 180 false 1 := ⟨fun _ => by kernel_rfl, fun _ => by kernel_rfl⟩
instance : ZI Tryz.prog 180 (.int .u32 0) := ⟨fun _ => by kernel_rfl⟩
instance : UI Tryz.prog 180 (.int .u32) := ⟨Tryz.underlying180⟩
instance : TI Tryz.prog 181 false 1 := ⟨fun _ => by kernel_rfl, fun _ => by kernel_rfl⟩
instance : TI Tryz.prog 182 false 1 := ⟨fun _ => by kernel_rfl, fun _ => by kernel_rfl⟩
instance : TI Tryz.prog 183 false 1 := ⟨fun _ => by kernel_rfl, fun _ => by kernel_rfl⟩
instance : TI Tryz.prog 184 false 1 := ⟨fun _ => by kernel_rfl, fun _ => by kernel_rfl⟩
instance : TI Tryz.prog 190 false 1 := ⟨fun _ => by kernel_rfl, fun _ => by kernel_rfl⟩
instance : TI Tryz.prog 193 false 1 := ⟨fun _ => by kernel_rfl, fun _ => by kernel_rfl⟩
instance : TI Tryz.prog 194 false 1 := ⟨fun _ => by kernel_rfl, fun _ => by kernel_rfl⟩
instance : ZI Tryz.prog 194 (.pointer none) := ⟨fun _ => by kernel_rfl⟩
instance : TI Tryz.prog 199 true 9 := ⟨fun _ => by kernel_rfl, fun _ => by kernel_rfl⟩
instance : ZI Tryz.prog 199 (.agg #[.int .i64 0, .int .u8 0, .int .u8 0, .int .u8 0, .int .u8 0, .int .u8 0, .int .u8 0, .int .u8 0, .int .u8 0]) := ⟨fun _ => by kernel_rfl⟩
instance : BI Tryz.prog 199 (.agg #[.int .i64 0, .int .u8 0, .int .u8 0, .int .u8 0, .int .u8 0, .int .u8 0, .int .u8 0, .int .u8 0, .int .u8 0]) := ⟨fun _ => by kernel_rfl⟩
instance : FI Tryz.prog 199 0 0 := ⟨fun _ _ _ => by kernel_rfl⟩
instance : FI Tryz.prog 199 1 1 := ⟨fun _ _ _ => by kernel_rfl⟩
instance : TI Tryz.prog 200 true 9 := ⟨fun _ => by kernel_rfl, fun _ => by kernel_rfl⟩
instance : ZI Tryz.prog 200 (.agg #[.int .i64 0, .int .u8 0, .int .u8 0, .int .u8 0, .int .u8 0, .int .u8 0, .int .u8 0, .int .u8 0, .int .u8 0]) := ⟨fun _ => by kernel_rfl⟩
instance : BI Tryz.prog 200 (.agg #[.int .i64 0, .int .u8 0, .int .u8 0, .int .u8 0, .int .u8 0, .int .u8 0, .int .u8 0, .int .u8 0, .int .u8 0]) := ⟨fun _ => by kernel_rfl⟩
instance : FI Tryz.prog 200 0 0 := ⟨fun _ _ _ => by kernel_rfl⟩
instance : FI Tryz.prog 200 1 1 := ⟨fun _ _ _ => by kernel_rfl⟩
instance : TI Tryz.prog 201 false 1 := ⟨fun _ => by kernel_rfl, fun _ => by kernel_rfl⟩
instance : ZI Tryz.prog 201 (.slice none 0 0) := ⟨fun _ => by kernel_rfl⟩
instance : SI Tryz.prog 201 209 23 104 (.agg #[.int .i64 0, .int .i64 0, .int .i64 0, .int .i64 0, .int .i64 0, .int .u8 0, .int .u8 0, .int .u8 0, .int .u8 0, .int .u8 0, .int .u8 0, .int .u8 0, .int .u8 0, .int .u8 0, .int .u8 0, .int .u8 0, .int .u8 0, .int .u8 0, .int .u8 0, .int .u8 0, .int .u8 0, .slice none 0 0, .slice none 0 0]) := ⟨Tryz.underlying201, by kernel_rfl, rfl, by decide, by decide⟩
instance : TI Tryz.prog 202 true 3 := ⟨fun _ => by kernel_rfl, fun _ => by kernel_rfl⟩
instance : ZI Tryz.prog 202 (.agg #[.int .i64 0, .int .i64 0, .slice none 0 0]) := ⟨fun _ => by kernel_rfl⟩
instance : BI Tryz.prog 202 (.agg #[.int .i64 0, .int .i64 0, .slice none 0 0]) := ⟨fun _ => by kernel_rfl⟩
instance : FI Tryz.prog 202 0 0 := ⟨fun _ _ _ => by kernel_rfl⟩
instance : FI Tryz.prog 202 1 1 := ⟨fun _ _ _ => by kernel_rfl⟩
instance : FI Tryz.prog 202 2 2 := ⟨fun _ _ _ => by kernel_rfl⟩
instance : TI Tryz.prog 203 true 3 := ⟨fun _ => by kernel_rfl, fun _ => by kernel_rfl⟩
instance : ZI Tryz.prog 203 (.agg #[.int .i64 0, .int .i64 0, .slice none 0 0]) := ⟨fun _ => by kernel_rfl⟩
instance : BI Tryz.prog 203 (.agg #[.int .i64 0, .int .i64 0, .slice none 0 0]) := ⟨fun _ => by kernel_rfl⟩
instance : FI Tryz.prog 203 0 0 := ⟨fun _ _ _ => by kernel_rfl⟩
instance : FI Tryz.prog 203 1 1 := ⟨fun _ _ _ => by kernel_rfl⟩
instance : FI Tryz.prog 203 2 2 := ⟨fun _ _ _ => by kernel_rfl⟩
instance : TI Tryz.prog 204 true 4 := ⟨fun _ => by kernel_rfl, fun _ => by kernel_rfl⟩
instance : ZI Tryz.prog 204 (.agg #[.int .i64 0, .int .i64 0, .slice none 0 0, .slice none 0 0]) := ⟨fun _ => by kernel_rfl⟩
instance : BI Tryz.prog 204 (.agg #[.int .i64 0, .int .i64 0, .slice none 0 0, .slice none 0 0]) := ⟨fun _ => by kernel_rfl⟩
instance : FI Tryz.prog 204 0 0 := ⟨fun _ _ _ => by kernel_rfl⟩
instance : FI Tryz.prog 204 1 3 := ⟨fun _ _ _ => by kernel_rfl⟩
instance : TI Tryz.prog 205 true 4 := ⟨fun _ => by kernel_rfl, fun _ => by kernel_rfl⟩
instance : ZI Tryz.prog 205 (.agg #[.int .i64 0, .int .i64 0, .slice none 0 0, .slice none 0 0]) := ⟨fun _ => by kernel_rfl⟩
instance : BI Tryz.prog 205 (.agg #[.int .i64 0, .int .i64 0, .slice none 0 0, .slice none 0 0]) := ⟨fun _ => by kernel_rfl⟩
instance : FI Tryz.prog 205 0 0 := ⟨fun _ _ _ => by kernel_rfl⟩
instance : FI Tryz.prog 205 1 3 := ⟨fun _ _ _ => by kernel_rfl⟩
instance : TI Tryz.prog 206 false 1 := ⟨fun _ => by kernel_rfl, fun _ => by kernel_rfl⟩
instance : TI Tryz.prog 208 true 23 := ⟨fun _ => by kernel_rfl, fun _ => by kernel_rfl⟩
instance : ZI Tryz.prog 208 (.agg #[.int .i64 0, .int .i64 0, .int .i64 0, .int .i64 0, .int .i64 0, .int .u8 0, .int .u8 0, .int .u8 0, .int .u8 0, .int .u8 0, .int .u8 0, .int .u8 0, .int .u8 0, .int .u8 0, .int .u8 0, .int .u8 0, .int .u8 0, .int .u8 0, .int .u8 0, .int .u8 0, .int .u8 0, .slice none 0 0, .slice none 0 0]) := ⟨fun _ => by kernel_rfl⟩
instance : BI Tryz.prog 208 (.agg #[.int .i64 0, .int .i64 0, .int .i64 0, .int .i64 0, .int .i64 0, .int .u8 0, .int .u8 0, .int .u8 0, .int .u8 0, .int .u8 0, .int .u8 0, .int .u8 0, .int .u8 0, .int .u8 0, .int .u8 0, .int .u8 0, .int .u8 0, .int .u8 0, .int .u8 0, .int .u8 0, .int .u8 0, .slice none 0 0, .slice none 0 0]) := ⟨fun _ => by kernel_rfl⟩
instance : FI Tryz.prog 208 0 0 := ⟨fun _ _ _ => by kernel_rfl⟩
instance : FI Tryz.prog 208 1 1 := ⟨fun _ _ _ => by kernel_rfl⟩
instance : FI Tryz.prog 208 2 2 := ⟨fun _ _ _ => by kernel_rfl⟩
instance : FI Tryz.prog 208 3 3 := ⟨fun _ _ _ => by kernel_rfl⟩
instance : FI Tryz.prog 208 4 4 := ⟨fun _ _ _ => by kernel_rfl⟩
instance : FI Tryz.prog 208 5 5 := ⟨fun _ _ _ => by kernel_rfl⟩
instance : FI Tryz.prog 208 6 13 := ⟨fun _ _ _ => by kernel_rfl⟩
instance : FI Tryz.prog 208 7 21 := ⟨fun _ _ _ => by kernel_rfl⟩
instance : FI Tryz.prog 208 8 22 := ⟨fun _ _ _ => by kernel_rfl⟩
instance : TI Tryz.prog 209 true 23 := ⟨fun _ => by kernel_rfl, fun _ => by kernel_rfl⟩
instance : ZI Tryz.prog 209 (.agg #[.int .i64 0, .int .i64 0, .int .i64 0, .int .i64 0, .int .i64 0, .int .u8 0, .int .u8 0, .int .u8 0, .int .u8 0, .int .u8 0, .int .u8 0, .int .u8 0, .int .u8 0, .int .u8 0, .int .u8 0, .int .u8 0, .int .u8 0, .int .u8 0, .int .u8 0, .int .u8 0, .int .u8 0, .slice none 0 0, .slice none 0 0]) := ⟨fun _ => by kernel_rfl⟩
instance : BI Tryz.prog 209 (.agg #[.int .i64 0, .int .i64 0, .int .i64 0, .int .i64 0, .int .i64 0, .int .u8 0, .int .u8 0, .int .u8 0, .int .u8 0, .int .u8 0, .int .u8 0, .int .u8 0, .int .u8 0, .int .u8 0, .int .u8 0, .int .u8 0, .int .u8 0, .int .u8 0, .int .u8 0, .int .u8 0, .int .u8 0, .slice none 0 0, .slice none 0 0]) := ⟨fun _ => by kernel_rfl⟩
instance : FI Tryz.prog 209 0 0 := ⟨fun _ _ _ => by kernel_rfl⟩
instance : FI Tryz.prog 209 1 1 := ⟨fun _ _ _ => by kernel_rfl⟩
instance : FI Tryz.prog 209 2 2 := ⟨fun _ _ _ => by kernel_rfl⟩
instance : FI Tryz.prog 209 3 3 := ⟨fun _ _ _ => by kernel_rfl⟩
instance : FI Tryz.prog 209 4 4 := ⟨fun _ _ _ => by kernel_rfl⟩
instance : FI Tryz.prog 209 5 5 := ⟨fun _ _ _ => by kernel_rfl⟩
instance : FI Tryz.prog 209 6 13 := ⟨fun _ _ _ => by kernel_rfl⟩
instance : FI Tryz.prog 209 7 21 := ⟨fun _ _ _ => by kernel_rfl⟩
instance : FI Tryz.prog 209 8 22 := ⟨fun _ _ _ => by kernel_rfl⟩
instance : TI Tryz.prog 210 false 1 := ⟨fun _ => by kernel_rfl, fun _ => by kernel_rfl⟩
instance : ZI Tryz.prog 210 (.map none) := ⟨fun _ => by kernel_rfl⟩
instance : FnI Tryz.prog 3 := ⟨fun _ _ => by kernel_rfl⟩
instance : FnI Tryz.prog 4 := ⟨fun _ _ => by kernel_rfl⟩
instance : FnI Tryz.prog 5 := ⟨fun _ _ => by kernel_rfl⟩
instance : FnI Tryz.prog 6 := ⟨fun _ _ => by kernel_rfl⟩
instance : FnI Tryz.prog 7 := ⟨fun _ _ => by kernel_rfl⟩
instance : FnI Tryz.prog 8 := ⟨fun _ _ => by kernel_rfl⟩
instance : FnI Tryz.prog 9 := ⟨fun _ _ => by kernel_rfl⟩
instance : FnI Tryz.prog 10 := ⟨fun _ _ => by kernel_rfl⟩
instance : FnI Tryz.prog 11 := ⟨fun _ _ => by kernel_rfl⟩
instance : FnI Tryz.prog 12 := ⟨fun _ _ => by kernel_rfl⟩
instance : FnI Tryz.prog 13 := ⟨fun _ _ => by kernel_rfl⟩
instance : FnI Tryz.prog 14 := ⟨fun _ _ => by kernel_rfl⟩
instance : FnI Tryz.prog 15 := ⟨fun _ _ => by kernel_rfl⟩
instance : FnI Tryz.prog 16 := ⟨fun _ _ => by kernel_rfl⟩
instance : FnI Tryz.prog 17 := ⟨fun _ _ => by kernel_rfl⟩
instance : FnI Tryz.prog 18 := ⟨fun _ _ => by kernel_rfl⟩
instance : FnI Tryz.prog 19 := ⟨fun _ _ => by kernel_rfl⟩
instance : FnI Tryz.prog 20 := ⟨fun _ _ => by kernel_rfl⟩
instance : FnI Tryz.prog 21 := ⟨fun _ _ => by kernel_rfl⟩
instance : FnI Tryz.prog 22 := ⟨fun _ _ => by kernel_rfl⟩
instance : FnI Tryz.prog 23 := ⟨fun _ _ => by kernel_rfl⟩
instance : FnI Tryz.prog 24 := ⟨fun _ _ => by kernel_rfl⟩
instance : FnI Tryz.prog 25 := ⟨fun _ _ => by kernel_rfl⟩
instance : FnI Tryz.prog 26 := ⟨fun _ _ => by kernel_rfl⟩
instance : FnI Tryz.prog 27 := ⟨fun _ _ => by kernel_rfl⟩
instance : FnI Tryz.prog 28 := ⟨fun _ _ => by kernel_rfl⟩
instance : FnI Tryz.prog 29 := ⟨fun _ _ => by kernel_rfl⟩
instance : FnI Tryz.prog 30 := ⟨fun _ _ => by kernel_rfl⟩
instance : FnI Tryz.prog 31 := ⟨fun _ _ => by kernel_rfl⟩
instance : FnI Tryz.prog 32 := ⟨fun _ _ => by kernel_rfl⟩
instance : FnI Tryz.prog 33 := ⟨fun _ _ => by kernel_rfl⟩
instance : FnI Tryz.prog 34 := ⟨fun _ _ => by kernel_rfl⟩
instance : FnI Tryz.prog 35 := ⟨fun _ _ => by kernel_rfl⟩
instance : FnI Tryz.prog 36 := ⟨fun _ _ => by kernel_rfl⟩
instance : FnI Tryz.prog 37 := ⟨fun _ _ => by kernel_rfl⟩
instance : FnI Tryz.prog 38 := ⟨fun _ _ => by kernel_rfl⟩
instance : FnI Tryz.prog 39 := ⟨fun _ _ => by kernel_rfl⟩
instance : FnI Tryz.prog 40 := ⟨fun _ _ => by kernel_rfl⟩
instance : FnI Tryz.prog 41 := ⟨fun _ _ => by kernel_rfl⟩
instance : FnI Tryz.prog 42 := ⟨fun _ _ => by kernel_rfl⟩
instance : FnI Tryz.prog 43 := ⟨fun _ _ => by kernel_rfl⟩
instance : FnI Tryz.prog 44 := ⟨fun _ _ => by kernel_rfl⟩
instance : FnI Tryz.prog 45 := ⟨fun _ _ => by kernel_rfl⟩
instance : FnI Tryz.prog 46 := ⟨fun _ _ => by kernel_rfl⟩
instance : FnI Tryz.prog 47 := ⟨fun _ _ => by kernel_rfl⟩
instance : FnI Tryz.prog 48 := ⟨fun _ _ => by kernel_rfl⟩
instance : FnI Tryz.prog 49 := ⟨fun _ _ => by kernel_rfl⟩
instance : FnI Tryz.prog 50 := ⟨fun _ _ => by kernel_rfl⟩
instance : FnI Tryz.prog 51 := ⟨fun _ _ => by kernel_rfl⟩
instance : FnI Tryz.prog 52 := ⟨fun _ _ => by kernel_rfl⟩
instance : FnI Tryz.prog 53 := ⟨fun _ _ => by kernel_rfl⟩
instance : FnI Tryz.prog 54 := ⟨fun _ _ => by kernel_rfl⟩
instance : FnI Tryz.prog 55 := ⟨fun _ _ => by kernel_rfl⟩
instance : FnI Tryz.prog 56 := ⟨fun _ _ => by kernel_rfl⟩
instance : FnI Tryz.prog 57 := ⟨fun _ _ => by kernel_rfl⟩
instance : FnI Tryz.prog 58 := ⟨fun _ _ => by kernel_rfl⟩
instance : FnI Tryz.prog 59 := ⟨fun _ _ => by kernel_rfl⟩
instance : FnI Tryz.prog 60 := ⟨fun _ _ => by kernel_rfl⟩
instance : FnI Tryz.prog 61 := ⟨fun _ _ => by kernel_rfl⟩
instance : FnI Tryz.prog 62 := ⟨fun _ _ => by kernel_rfl⟩
instance : FnI Tryz.prog 63 := ⟨fun _ _ => by kernel_rfl⟩
instance : FnI Tryz.prog 64 := ⟨fun _ _ => by kernel_rfl⟩
instance : FnI Tryz.prog 65 := ⟨fun _ _ => by kernel_rfl⟩
instance : FnI Tryz.prog 66 := ⟨fun _ _ => by kernel_rfl⟩
instance : FnI Tryz.prog 67 := ⟨fun _ _ => by kernel_rfl⟩
instance : FnI Tryz.prog 68 := ⟨fun _ _ => by kernel_rfl⟩
instance : FnI Tryz.prog 69 := ⟨fun _ _ => by kernel_rfl⟩
instance : FnI Tryz.prog 70 := ⟨fun _ _ => by kernel_rfl⟩
instance : FnI Tryz.prog 71 := ⟨fun _ _ => by kernel_rfl⟩
instance : FnI Tryz.prog 72 := ⟨fun _ _ => by kernel_rfl⟩
instance : FnI Tryz.prog 73 := ⟨fun _ _ => by kernel_rfl⟩
instance : FnI Tryz.prog 74 := ⟨fun _ _ => by kernel_rfl⟩
instance : FnI Tryz.prog 75 := ⟨fun _ _ => by kernel_rfl⟩
instance : FnI Tryz.prog 76 := ⟨fun _ _ => by kernel_rfl⟩
instance : FnI Tryz.prog 77 := ⟨fun _ _ => by kernel_rfl⟩
instance : FnI Tryz.prog 78 := ⟨fun _ _ => by kernel_rfl⟩
instance : FnI Tryz.prog 79 := ⟨fun _ _ => by kernel_rfl⟩
instance : FnI Tryz.prog 80 := ⟨fun _ _ => by kernel_rfl⟩
instance : FnI Tryz.prog 81 := ⟨fun _ _ => by kernel_rfl⟩
instance : FnI Tryz.prog 82 := ⟨fun _ _ => by kernel_rfl⟩
instance : FnI Tryz.prog 83 := ⟨fun _ _ => by kernel_rfl⟩
instance : FnI Tryz.prog 84 := ⟨fun _ _ => by kernel_rfl⟩
instance : FnI Tryz.prog 85 := ⟨fun _ _ => by kernel_rfl⟩
instance : FnI Tryz.prog 86 := ⟨fun _ _ => by kernel_rfl⟩
instance : FnI Tryz.prog 87 := ⟨fun _ _ => by kernel_rfl⟩
instance : FnI Tryz.prog 88 := ⟨fun _ _ => by kernel_rfl⟩
instance : FnI Tryz.prog 89 := ⟨fun _ _ => by kernel_rfl⟩
instance : FnI Tryz.prog 90 := ⟨fun _ _ => by kernel_rfl⟩
instance : FnI Tryz.prog 91 := ⟨fun _ _ => by kernel_rfl⟩
instance : FnI Tryz.prog 92 := ⟨fun _ _ => by kernel_rfl⟩
instance : FnI Tryz.prog 93 := ⟨fun _ _ => by kernel_rfl⟩
instance : FnI Tryz.prog 94 := ⟨fun _ _ => by kernel_rfl⟩
instance : FnI Tryz.prog 95 := ⟨fun _ _ => by kernel_rfl⟩
instance : FnI Tryz.prog 96 := ⟨fun _ _ => by kernel_rfl⟩
instance : FnI Tryz.prog 97 := ⟨fun _ _ => by kernel_rfl⟩
instance : FnI Tryz.prog 98 := ⟨fun _ _ => by kernel_rfl⟩
instance : FnI Tryz.prog 99 := ⟨fun _ _ => by kernel_rfl⟩
instance : FnI Tryz.prog 100 := ⟨fun _ _ => by kernel_rfl⟩
instance : FnI Tryz.prog 101 := ⟨fun _ _ => by kernel_rfl⟩
instance : FnI Tryz.prog 102 := ⟨fun _ _ => by kernel_rfl⟩
instance : FnI Tryz.prog 103 := ⟨fun _ _ => by kernel_rfl⟩
instance : FnI Tryz.prog 104 := ⟨fun _ _ => by kernel_rfl⟩
instance : FnI Tryz.prog 105 := ⟨fun _ _ => by kernel_rfl⟩
instance : FnI Tryz.prog 106 := ⟨fun _ _ => by kernel_rfl⟩
instance : FnI Tryz.prog 107 := ⟨fun _ _ => by kernel_rfl⟩
instance : FnI Tryz.prog 108 := ⟨fun _ _ => by kernel_rfl⟩
instance : FnI Tryz.prog 109 := ⟨fun _ _ => by kernel_rfl⟩
instance : FnI Tryz.prog 110 := ⟨fun _ _ => by kernel_rfl⟩
instance : FnI Tryz.prog 111 := ⟨fun _ _ => by kernel_rfl⟩
instance : FnI Tryz.prog 112 := ⟨fun _ _ => by kernel_rfl⟩
instance : FnI Tryz.prog 113 := ⟨fun _ _ => by kernel_rfl⟩
instance : FnI Tryz.prog 114 := ⟨fun _ _ => by kernel_rfl⟩
instance : FnI Tryz.prog 115 := ⟨fun _ _ => by kernel_rfl⟩
instance : FnI Tryz.prog 116 := ⟨fun _ _ => by kernel_rfl⟩
instance : FnI Tryz.prog 117 := ⟨fun _ _ => by kernel_rfl⟩
instance : FnI Tryz.prog 118 := ⟨fun _ _ => by kernel_rfl⟩
instance : FnI Tryz.prog 119 := ⟨fun _ _ => by kernel_rfl⟩
instance : FnI Tryz.prog 120 := ⟨fun _ _ => by kernel_rfl⟩
instance : FnI Tryz.prog 121 := ⟨fun _ _ => by kernel_rfl⟩
instance : FnI Tryz.prog 122 := ⟨fun _ _ => by kernel_rfl⟩
instance : FnI Tryz.prog 123 := ⟨fun _ _ => by kernel_rfl⟩
instance : FnI Tryz.prog 124 := ⟨fun _ _ => by kernel_rfl⟩
instance : FnI Tryz.prog 125 := ⟨fun _ _ => by kernel_rfl⟩
instance : FnI Tryz.prog 126 := ⟨fun _ _ => by kernel_rfl⟩
instance : FnI Tryz.prog 127 := ⟨fun _ _ => by kernel_rfl⟩
instance : FnI Tryz.prog 128 := ⟨fun _ _ => by kernel_rfl⟩
instance : FnI Tryz.prog 129 := ⟨fun _ _ => by kernel_rfl⟩
instance : FnI Tryz.prog 130 := ⟨fun _ _ => by kernel_rfl⟩
instance : FnI Tryz.prog 131 := ⟨fun _ _ => by kernel_rfl⟩
instance : FnI Tryz.prog 132 := ⟨fun _ _ => by kernel_rfl⟩
instance : FnI Tryz.prog 133 := ⟨fun _ _ => by kernel_rfl⟩
instance : FnI Tryz.prog 134 := ⟨fun _ _ => by kernel_rfl⟩
instance : FnI Tryz.prog 135 := ⟨fun _ _ => by kernel_rfl⟩
instance : FnI Tryz.prog 136 := ⟨fun _ _ => by kernel_rfl⟩
instance : FnI Tryz.prog 137 := ⟨fun _ _ => by kernel_rfl⟩
instance : FnI Tryz.prog 138 := ⟨fun _ _ => by kernel_rfl⟩
instance : FnI Tryz.prog 139 := ⟨fun _ _ => by kernel_rfl⟩
instance : FnI Tryz.prog 140 := ⟨fun _ _ => by kernel_rfl⟩
instance : FnI Tryz.prog 141 := ⟨fun _ _ => by kernel_rfl⟩
instance : FnI Tryz.prog 142 := ⟨fun _ _ => by kernel_rfl⟩
instance : FnI Tryz.prog 143 := ⟨fun _ _ => by kernel_rfl⟩
instance : FnI Tryz.prog 144 := ⟨fun _ _ => by kernel_rfl⟩
instance : FnI Tryz.prog 145 := ⟨fun _ _ => by kernel_rfl⟩
instance : FnI Tryz.prog 146 := ⟨fun _ _ => by kernel_rfl⟩
instance : FnI Tryz.prog 147 := ⟨fun _ _ => by kernel_rfl⟩
instance : FnI Tryz.prog 148 := ⟨fun _ _ => by kernel_rfl⟩
instance : FnI Tryz.prog 149 := ⟨fun _ _ => by kernel_rfl⟩
instance : FnI Tryz.prog 150 := ⟨fun _ _ => by kernel_rfl⟩
instance : FnI Tryz.prog 151 := ⟨fun _ _ => by kernel_rfl⟩
instance : FnI Tryz.prog 152 := ⟨fun _ _ => by kernel_rfl⟩
instance : FnI Tryz.prog 153 := ⟨fun _ _ => by kernel_rfl⟩
instance : FnI Tryz.prog 154 := ⟨fun _ _ => by kernel_rfl⟩
end Go.Proofs.YtneeclacmhhblaaGreat


namespace Go.Proofs.YtneeclacmhhblaaGreat

instance : PI Tryz.prog 13 [.string .empty, .int .u64 0] [(0, 1), (1, 1)] := PI.struct Tryz.underlying13 (fun _ => by kernel_rfl) (fun _ => by kernel_rfl)
instance : PI Tryz.prog 22 [.int .u8 0, .int .u8 0, .int .u8 0, .int .u8 0, .int .u8 0, .int .u8 0, .int .u8 0, .int .u8 0] [(0, 1), (1, 1), (2, 1), (3, 1), (4, 1), (5, 1), (6, 1), (7, 1)] := PI.array (size := 1) Tryz.underlying22 (fun _ => by kernel_rfl) (by kernel_rfl) rfl
instance : PI Tryz.prog 23 [.int .u8 0, .int .u8 0, .int .u8 0, .int .u8 0, .int .u8 0, .int .u8 0, .int .u8 0, .int .u8 0] [(0, 1), (1, 1), (2, 1), (3, 1), (4, 1), (5, 1), (6, 1), (7, 1)] := PI.array (size := 1) Tryz.underlying23 (fun _ => by kernel_rfl) (by kernel_rfl) rfl
instance : PI Tryz.prog 30 [.slice none 0 0, .slice none 0 0, .slice none 0 0, .slice none 0 0, .int .i64 0] [(0, 1), (1, 1), (2, 1), (3, 1), (4, 1)] := PI.struct Tryz.underlying30 (fun _ => by kernel_rfl) (fun _ => by kernel_rfl)
instance : PI Tryz.prog 31 [.slice none 0 0, .slice none 0 0, .slice none 0 0, .slice none 0 0, .int .i64 0] [(0, 1), (1, 1), (2, 1), (3, 1), (4, 1)] := PI.struct Tryz.underlying31 (fun _ => by kernel_rfl) (fun _ => by kernel_rfl)
instance : PI Tryz.prog 34 [.int .u8 0, .int .u8 0, .int .u8 0, .int .u8 0, .int .u8 0, .int .u8 0, .int .u8 0, .int .u8 0, .int .i64 0, .int .i64 0, .int .u8 0, .int .u8 0, .int .u8 0, .int .u8 0, .int .u8 0, .int .u8 0, .int .u8 0, .int .u8 0, .slice none 0 0, .slice none 0 0, .int .i64 0, .slice none 0 0, .slice none 0 0, .slice none 0 0, .slice none 0 0, .int .i64 0, .slice none 0 0, .slice none 0 0] [(0, 8), (8, 1), (9, 1), (10, 8), (18, 1), (19, 1), (20, 1), (21, 5), (26, 1), (27, 1)] := PI.struct Tryz.underlying34 (fun _ => by kernel_rfl) (fun _ => by kernel_rfl)
instance : PI Tryz.prog 35 [.int .u8 0, .int .u8 0, .int .u8 0, .int .u8 0, .int .u8 0, .int .u8 0, .int .u8 0, .int .u8 0, .int .i64 0, .int .i64 0, .int .u8 0, .int .u8 0, .int .u8 0, .int .u8 0, .int .u8 0, .int .u8 0, .int .u8 0, .int .u8 0, .slice none 0 0, .slice none 0 0, .int .i64 0, .slice none 0 0, .slice none 0 0, .slice none 0 0, .slice none 0 0, .int .i64 0, .slice none 0 0, .slice none 0 0] [(0, 8), (8, 1), (9, 1), (10, 8), (18, 1), (19, 1), (20, 1), (21, 5), (26, 1), (27, 1)] := PI.struct Tryz.underlying35 (fun _ => by kernel_rfl) (fun _ => by kernel_rfl)
instance : PI Tryz.prog 50 [.int .i64 0, .int .i64 0, .slice none 0 0, .slice none 0 0, .slice none 0 0] [(0, 1), (1, 1), (2, 1), (3, 1), (4, 1)] := PI.struct Tryz.underlying50 (fun _ => by kernel_rfl) (fun _ => by kernel_rfl)
instance : PI Tryz.prog 51 [.int .i64 0, .int .i64 0, .slice none 0 0, .slice none 0 0, .slice none 0 0] [(0, 1), (1, 1), (2, 1), (3, 1), (4, 1)] := PI.struct Tryz.underlying51 (fun _ => by kernel_rfl) (fun _ => by kernel_rfl)
instance : PI Tryz.prog 54 [.slice none 0 0, .int .i64 0, .slice none 0 0] [(0, 1), (1, 1), (2, 1)] := PI.struct Tryz.underlying54 (fun _ => by kernel_rfl) (fun _ => by kernel_rfl)
instance : PI Tryz.prog 55 [.slice none 0 0, .int .i64 0, .slice none 0 0] [(0, 1), (1, 1), (2, 1)] := PI.struct Tryz.underlying55 (fun _ => by kernel_rfl) (fun _ => by kernel_rfl)
instance : PI Tryz.prog 56 [.int .i64 0, .int .i64 0, .slice none 0 0, .slice none 0 0, .slice none 0 0, .slice none 0 0, .int .i64 0, .slice none 0 0, .slice none 0 0] [(0, 5), (5, 3), (8, 1)] := PI.struct Tryz.underlying56 (fun _ => by kernel_rfl) (fun _ => by kernel_rfl)
instance : PI Tryz.prog 57 [.int .i64 0, .int .i64 0, .slice none 0 0, .slice none 0 0, .slice none 0 0, .slice none 0 0, .int .i64 0, .slice none 0 0, .slice none 0 0] [(0, 5), (5, 3), (8, 1)] := PI.struct Tryz.underlying57 (fun _ => by kernel_rfl) (fun _ => by kernel_rfl)
instance : PI Tryz.prog 72 [.int .i64 0, .slice none 0 0, .int .i64 0, .int .i64 0] [(0, 1), (1, 1), (2, 1), (3, 1)] := PI.struct Tryz.underlying72 (fun _ => by kernel_rfl) (fun _ => by kernel_rfl)
instance : PI Tryz.prog 73 [.int .i64 0, .slice none 0 0, .int .i64 0, .int .i64 0] [(0, 1), (1, 1), (2, 1), (3, 1)] := PI.struct Tryz.underlying73 (fun _ => by kernel_rfl) (fun _ => by kernel_rfl)
instance : PI Tryz.prog 82 [.slice none 0 0, .int .i64 0] [(0, 1), (1, 1)] := PI.struct Tryz.underlying82 (fun _ => by kernel_rfl) (fun _ => by kernel_rfl)
instance : PI Tryz.prog 83 [.slice none 0 0, .int .i64 0] [(0, 1), (1, 1)] := PI.struct Tryz.underlying83 (fun _ => by kernel_rfl) (fun _ => by kernel_rfl)
instance : PI Tryz.prog 86 [.int .i64 0, .int .i64 0, .int .i64 0, .int .i64 0, .int .i64 0, .int .i64 0, .int .u8 0, .int .u8 0, .int .u8 0, .int .u8 0, .int .u8 0, .int .u8 0, .int .u8 0, .int .u8 0, .int .u8 0, .int .u8 0, .int .u8 0, .int .u8 0, .int .u8 0, .int .u8 0, .int .u8 0, .int .u8 0] [(0, 1), (1, 1), (2, 1), (3, 1), (4, 1), (5, 1), (6, 8), (14, 8)] := PI.struct Tryz.underlying86 (fun _ => by kernel_rfl) (fun _ => by kernel_rfl)
instance : PI Tryz.prog 87 [.int .i64 0, .int .i64 0, .int .i64 0, .int .i64 0, .int .i64 0, .int .i64 0, .int .u8 0, .int .u8 0, .int .u8 0, .int .u8 0, .int .u8 0, .int .u8 0, .int .u8 0, .int .u8 0, .int .u8 0, .int .u8 0, .int .u8 0, .int .u8 0, .int .u8 0, .int .u8 0, .int .u8 0, .int .u8 0] [(0, 1), (1, 1), (2, 1), (3, 1), (4, 1), (5, 1), (6, 8), (14, 8)] := PI.struct Tryz.underlying87 (fun _ => by kernel_rfl) (fun _ => by kernel_rfl)
instance : PI Tryz.prog 91 [.slice none 0 0, .map none] [(0, 1), (1, 1)] := PI.struct Tryz.underlying91 (fun _ => by kernel_rfl) (fun _ => by kernel_rfl)
instance : PI Tryz.prog 92 [.slice none 0 0, .map none] [(0, 1), (1, 1)] := PI.struct Tryz.underlying92 (fun _ => by kernel_rfl) (fun _ => by kernel_rfl)
instance : PI Tryz.prog 95 [.slice none 0 0, .slice none 0 0, .map none, .map none, .map none] [(0, 1), (1, 2), (3, 1), (4, 1)] := PI.struct Tryz.underlying95 (fun _ => by kernel_rfl) (fun _ => by kernel_rfl)
instance : PI Tryz.prog 96 [.slice none 0 0, .slice none 0 0, .map none, .map none, .map none] [(0, 1), (1, 2), (3, 1), (4, 1)] := PI.struct Tryz.underlying96 (fun _ => by kernel_rfl) (fun _ => by kernel_rfl)
instance : PI Tryz.prog 110 [.int .i64 0, .int .u8 0, .int .u8 0, .int .u8 0, .int .u8 0, .int .u8 0, .int .u8 0, .int .u8 0, .int .u8 0, .int .u8 0, .int .u8 0, .int .u8 0, .int .u8 0, .int .u8 0, .int .u8 0, .int .u8 0, .int .u8 0] [(0, 1), (1, 8), (9, 8)] := PI.struct Tryz.underlying110 (fun _ => by kernel_rfl) (fun _ => by kernel_rfl)
instance : PI Tryz.prog 111 [.int .i64 0, .int .u8 0, .int .u8 0, .int .u8 0, .int .u8 0, .int .u8 0, .int .u8 0, .int .u8 0, .int .u8 0, .int .u8 0, .int .u8 0, .int .u8 0, .int .u8 0, .int .u8 0, .int .u8 0, .int .u8 0, .int .u8 0] [(0, 1), (1, 8), (9, 8)] := PI.struct Tryz.underlying111 (fun _ => by kernel_rfl) (fun _ => by kernel_rfl)
instance : PI Tryz.prog 116 [.pointer none] [(0, 1)] := PI.struct Tryz.underlying116 (fun _ => by kernel_rfl) (fun _ => by kernel_rfl)
instance : PI Tryz.prog 117 [.pointer none] [(0, 1)] := PI.struct Tryz.underlying117 (fun _ => by kernel_rfl) (fun _ => by kernel_rfl)
instance : PI Tryz.prog 127 [.int .i64 0, .int .i64 0, .int .i64 0, .bool false] [(0, 1), (1, 1), (2, 1), (3, 1)] := PI.struct Tryz.underlying127 (fun _ => by kernel_rfl) (fun _ => by kernel_rfl)
instance : PI Tryz.prog 128 [.int .i64 0, .int .i64 0, .int .i64 0, .bool false] [(0, 1), (1, 1), (2, 1), (3, 1)] := PI.struct Tryz.underlying128 (fun _ => by kernel_rfl) (fun _ => by kernel_rfl)
instance : PI Tryz.prog 135 [.int .i64 0, .int .i64 0, .int .u8 0, .int .u8 0, .int .u8 0, .int .u8 0, .int .u8 0, .int .u8 0, .int .u8 0, .int .u8 0] [(0, 1), (1, 1), (2, 8)] := PI.struct Tryz.underlying135 (fun _ => by kernel_rfl) (fun _ => by kernel_rfl)
instance : PI Tryz.prog 136 [.int .i64 0, .int .i64 0, .int .u8 0, .int .u8 0, .int .u8 0, .int .u8 0, .int .u8 0, .int .u8 0, .int .u8 0, .int .u8 0] [(0, 1), (1, 1), (2, 8)] := PI.struct Tryz.underlying136 (fun _ => by kernel_rfl) (fun _ => by kernel_rfl)
instance : PI Tryz.prog 137 [.int .i64 0, .int .i64 0, .int .u8 0, .int .u8 0, .int .u8 0, .int .u8 0, .int .u8 0, .int .u8 0, .int .u8 0, .int .u8 0, .int .i64 0] [(0, 10), (10, 1)] := PI.struct Tryz.underlying137 (fun _ => by kernel_rfl) (fun _ => by kernel_rfl)
instance : PI Tryz.prog 138 [.int .i64 0, .int .i64 0, .int .u8 0, .int .u8 0, .int .u8 0, .int .u8 0, .int .u8 0, .int .u8 0, .int .u8 0, .int .u8 0, .int .i64 0] [(0, 10), (10, 1)] := PI.struct Tryz.underlying138 (fun _ => by kernel_rfl) (fun _ => by kernel_rfl)
instance : PI Tryz.prog 140 [.int .u8 0, .int .u8 0, .int .u8 0, .int .u8 0, .int .u8 0, .int .u8 0, .int .u8 0, .int .u8 0, .int .u8 0, .int .u8 0, .int .u8 0, .int .u8 0, .int .u8 0, .int .u8 0, .int .u8 0, .int .u8 0, .int .i64 0, .int .i64 0, .int .i64 0] [(0, 8), (8, 8), (16, 1), (17, 1), (18, 1)] := PI.struct Tryz.underlying140 (fun _ => by kernel_rfl) (fun _ => by kernel_rfl)
instance : PI Tryz.prog 141 [.int .u8 0, .int .u8 0, .int .u8 0, .int .u8 0, .int .u8 0, .int .u8 0, .int .u8 0, .int .u8 0, .int .u8 0, .int .u8 0, .int .u8 0, .int .u8 0, .int .u8 0, .int .u8 0, .int .u8 0, .int .u8 0, .int .i64 0, .int .i64 0, .int .i64 0] [(0, 8), (8, 8), (16, 1), (17, 1), (18, 1)] := PI.struct Tryz.underlying141 (fun _ => by kernel_rfl) (fun _ => by kernel_rfl)
instance : PI Tryz.prog 144 [.int .u64 0, .int .u64 0] [(0, 1), (1, 1)] := PI.struct Tryz.underlying144 (fun _ => by kernel_rfl) (fun _ => by kernel_rfl)
instance : PI Tryz.prog 145 [.int .u64 0, .int .u64 0] [(0, 1), (1, 1)] := PI.struct Tryz.underlying145 (fun _ => by kernel_rfl) (fun _ => by kernel_rfl)
instance : PI Tryz.prog 166 [.int .u8 0, .int .u8 0, .int .u8 0, .int .u8 0, .int .u8 0, .int .u8 0, .int .u8 0, .int .u8 0, .int .u8 0, .int .u8 0, .int .u8 0, .int .u8 0, .int .u8 0, .int .u8 0, .int .u8 0, .int .u8 0] [(0, 1), (1, 1), (2, 1), (3, 1), (4, 1), (5, 1), (6, 1), (7, 1), (8, 1), (9, 1), (10, 1), (11, 1), (12, 1), (13, 1), (14, 1), (15, 1)] := PI.array (size := 1) Tryz.underlying166 (fun _ => by kernel_rfl) (by kernel_rfl) rfl
instance : PI Tryz.prog 199 [.int .i64 0, .int .u8 0, .int .u8 0, .int .u8 0, .int .u8 0, .int .u8 0, .int .u8 0, .int .u8 0, .int .u8 0] [(0, 1), (1, 8)] := PI.struct Tryz.underlying199 (fun _ => by kernel_rfl) (fun _ => by kernel_rfl)
instance : PI Tryz.prog 200 [.int .i64 0, .int .u8 0, .int .u8 0, .int .u8 0, .int .u8 0, .int .u8 0, .int .u8 0, .int .u8 0, .int .u8 0] [(0, 1), (1, 8)] := PI.struct Tryz.underlying200 (fun _ => by kernel_rfl) (fun _ => by kernel_rfl)
instance : PI Tryz.prog 202 [.int .i64 0, .int .i64 0, .slice none 0 0] [(0, 1), (1, 1), (2, 1)] := PI.struct Tryz.underlying202 (fun _ => by kernel_rfl) (fun _ => by kernel_rfl)
instance : PI Tryz.prog 203 [.int .i64 0, .int .i64 0, .slice none 0 0] [(0, 1), (1, 1), (2, 1)] := PI.struct Tryz.underlying203 (fun _ => by kernel_rfl) (fun _ => by kernel_rfl)
instance : PI Tryz.prog 204 [.int .i64 0, .int .i64 0, .slice none 0 0, .slice none 0 0] [(0, 3), (3, 1)] := PI.struct Tryz.underlying204 (fun _ => by kernel_rfl) (fun _ => by kernel_rfl)
instance : PI Tryz.prog 205 [.int .i64 0, .int .i64 0, .slice none 0 0, .slice none 0 0] [(0, 3), (3, 1)] := PI.struct Tryz.underlying205 (fun _ => by kernel_rfl) (fun _ => by kernel_rfl)
instance : PI Tryz.prog 208 [.int .i64 0, .int .i64 0, .int .i64 0, .int .i64 0, .int .i64 0, .int .u8 0, .int .u8 0, .int .u8 0, .int .u8 0, .int .u8 0, .int .u8 0, .int .u8 0, .int .u8 0, .int .u8 0, .int .u8 0, .int .u8 0, .int .u8 0, .int .u8 0, .int .u8 0, .int .u8 0, .int .u8 0, .slice none 0 0, .slice none 0 0] [(0, 1), (1, 1), (2, 1), (3, 1), (4, 1), (5, 8), (13, 8), (21, 1), (22, 1)] := PI.struct Tryz.underlying208 (fun _ => by kernel_rfl) (fun _ => by kernel_rfl)
instance : PI Tryz.prog 209 [.int .i64 0, .int .i64 0, .int .i64 0, .int .i64 0, .int .i64 0, .int .u8 0, .int .u8 0, .int .u8 0, .int .u8 0, .int .u8 0, .int .u8 0, .int .u8 0, .int .u8 0, .int .u8 0, .int .u8 0, .int .u8 0, .int .u8 0, .int .u8 0, .int .u8 0, .int .u8 0, .int .u8 0, .slice none 0 0, .slice none 0 0] [(0, 1), (1, 1), (2, 1), (3, 1), (4, 1), (5, 8), (13, 8), (21, 1), (22, 1)] := PI.struct Tryz.underlying209 (fun _ => by kernel_rfl) (fun _ => by kernel_rfl)
end Go.Proofs.YtneeclacmhhblaaGreat


namespace Go.Proofs.YtneeclacmhhblaaGreat
open Go.RowKit
theorem own_store {P : Program} {w0 : World} {M : Mod} {Hr : AH} {E : Env} {b g o : Nat} {blk : ABlk} {ds : List AV} {ys : List Value} (hs : Sta w0 M Hr E) (hb : hk Hr b = some blk) (hg : (E.L b).g = some g) (hm : (E.L b).c ≤ maxLen) (hys : RVs E ds ys) (h1 : ds.all AV.one = true) (ho : o + ds.length ≤ blk.cells.length) :
    ∃ w', (storeCells ⟨g, o, none⟩ ys).run P E.w = .ok () w' ∧ Sta w0 M ((b, some { blk with cells := spl blk.cells o ds }) :: Hr) { E with w := w' } ∧ E.le { E with w := w' } := by
  obtain ⟨cur, c1, c2, c3, c4, c5⟩ := (hs.own b blk hb).2.2.at hg hm
  have hst := run_storeCells_at (P := P) g o blk.elem ys 0 cur E.w c1 (by rw [hys.1]; omega) (hys.ones h1)
  simp only [Nat.add_zero] at hst
  have hR := RVs.spl (o := o) c4 c5 hys ho
  refine ⟨_, hst, hs.set hb hg _ (by simp [World.setRow]) (fun g' hne => setRow_other E.w g g' _ hne) rfl rfl rfl (spl blk.cells o ds) (fun E' hw hle => .mk hg ⟨_, by rw [hw]; exact setRow_heap E.w g cur _ _ _ c1, c2, ?_, ?_, hR.mono hle⟩)⟩
  · show (cur.toList.take o ++ ys ++ cur.toList.drop (o + ys.length)).toArray.size = _
    have := hys.1
    rw [← c3]; simp only [List.size_toArray, List.length_append, List.length_take, List.length_drop, Array.length_toList]; omega
  · show (spl blk.cells o ds).length ≤ (cur.toList.take o ++ ys ++ cur.toList.drop (o + ys.length)).toArray.size
    have := hys.1
    rw [spl_length _ _ _ ho]; simp only [List.size_toArray, List.length_append, List.length_take, List.length_drop, Array.length_toList]; omega
theorem own_g {w0 : World} {M : Mod} {Hr : AH} {E : Env} {b : Nat} {blk : ABlk} (hs : Sta w0 M Hr E) (hb : hk Hr b = some blk) (h : 0 < (E.L b).c ∨ 0 < blk.cells.length) : ∃ g, (E.L b).g = some g := by
  cases eg : (E.L b).g with
  | some g => exact ⟨g, rfl⟩
  | none => have := (hs.own b blk hb).2.2.none eg; rw [this.1] at h; simp at h; omega
section
variable {P : Program} {t e : TypeId} {size bytes : Nat} {z : Value} {k : Nat} {H : AH} {T : AT} {d : Option Tmp} {ty t' : TypeId} {ps : String} {af : Array Edge} {gd : Option (Nat × Bool)}
theorem first_cells {w : World} {A : Option Addr} {m c2 q : Nat} {ys : List Value} (hrd : RdC w A ys) (hl : ys.length = m * size) (hq : q ≤ m) (hp : 0 < size) : (Builtin.firstCells size q (.slice A m c2)).run P w = .ok (ys.take (q * size)).toArray w := by
  rcases hrd with h | ⟨g, o, rfl, hc⟩
  · subst h
    have hm : m = 0 := by
      rcases Nat.eq_zero_or_pos m with h | h
      · exact h
      · have := Nat.mul_pos h hp; simp at hl; omega
    have hq0 : q = 0 := by omega
    subst hq0
    cases A <;> simp [Builtin.firstCells, loadCells, loadCellsFrom]
  · have hqs : q * size ≤ m * size := Nat.mul_le_mul_right _ hq
    exact run_firstCells_some (P := P) w size q ⟨g, o, none⟩ m c2 (ys.take (q * size)) (by rw [List.length_take]; omega) (fun j v hv => by
      rw [addr_at]
      rw [List.getElem?_take] at hv
      split at hv
      · exact hc j v hv
      · cases hv)
theorem s_appIn {x y : Operand} {b n m c : Nat} {blk : ABlk} {u : AV} {cs : List AV} {U : List Nat} [hS : SI P t e size bytes z] (hx : ev T x = some (.sc b n c)) (hb : hk H b = some blk) (hy : ev T y = some u) (hr : Rdv H size u m cs U)
    (hcs : cs.length = m * size) (hfit : n * size + m * size ≤ blk.cells.length) (h1 : cs.all AV.one = true) (hroom : n + m ≤ c) (hc0 : 0 < c) :
    StepU P ⟨d, .call { callee := .builtin .append, args := #[x, y], argTypes := #[t, t] }, ty, ps, af, gd⟩ k (b :: U) H T (.sc b (n + m) c) [(b, some { blk with cells := spl blk.cells (n * size) cs })] := by
  refine ⟨fun w0 M Hr E a hs hU hk0 hT K Q hK => ?_⟩
  have hb' := (hU b (by simp)).trans hb
  have hv := hT x (by simp [Op.operands, Call.operands]) _ hx
  obtain ⟨A2, c2, ys, hy2, _, hys, hysl, hrd⟩ := hr w0 M Hr E _ hs (fun b hb => hU b (by simp [hb])) (hT y (by simp [Op.operands, Call.operands]) _ hy)
  generalize hxv : a.eval x = v at hv
  cases hv with
  | sc b n c hD hcc hn hm =>
    obtain ⟨g, hg⟩ := own_g hs hb' (.inl (by omega))
    obtain ⟨w', hrun, h2, h3⟩ := own_store (P := P) (o := n * size) hs hb' hg hm hys h1 (by omega)
    have hfc := first_cells (P := P) (c2 := c2) (q := m) hrd hysl (Nat.le_refl _) hS.pos
    rw [← hysl, List.take_length] at hfc
    have hi := hS.info
    have hns : (P.underlying t).isSome = true := by rw [hS.under]; rfl
    have hap : (Builtin.append_ #[t, t] ty #[.slice (some ⟨g, 0, none⟩) n c, .slice A2 m c2]).run P E.w = .ok (.slice (some ⟨g, 0, none⟩) (n + m) c) w' := by
      simp [Builtin.append_, run_underlying hS.under, run_sizeOf' (si_size hS), Builtin.lenOf, hroom, hfc, addr_at, hrun]
    unfold Oper.wp
    have : (execOp a.eval ⟨d, .call { callee := .builtin .append, args := #[x, y], argTypes := #[t, t] }, ty, ps, af, gd⟩).run P E.w = .ok (.value (.slice (some ⟨g, 0, none⟩) (n + m) c)) w' := by
      simp only [execOp, resolve, invoke, builtin, Sem.run_bind, Sem.run_pure, Result.andThen_ok, List.map_toArray, List.map_cons, List.map_nil, hxv, hy2, hg, Option.map_some, hap]
    rw [this]
    have hx' : RV { E with w := w' } (.sc b (n + m) c) (.slice (some ⟨g, 0, none⟩) (n + m) c) := by
      have : RV { E with w := w' } (.sc b (n + m) c) (.slice ((E.L b).g.map fun g => ⟨g, 0, none⟩) (n + m) c) := .sc _ _ _ hD hcc hroom hm
      rw [hg] at this
      exact this
    exact hK _ _ h2 h3 (fun b hb => .inl hb) hx'
theorem s_slS {x : Operand} {lo hi : Option Operand} {b n l h c : Nat} [hS : SI P t e size bytes z] (hx : ev T x = some (.sc b n c)) (hlo : Bnd T lo l 0) (hhi : Bnd T hi h n) (h1 : l ≤ h) (h2 : h ≤ c) {blk : ABlk} (hb : hk H b = some blk) :
    StepU P ⟨d, .slice t x lo hi none, ty, ps, af, gd⟩ k [b] H T (.sb b (l * size) (h - l) (some (c - l))) [] :=
  .of_pure fun _ _ _ E a hs hU hT => by
    have hv := hT x (by simp [Op.operands]) _ hx
    have b1 := bnd_map (E := E) (a := a) hlo (l := (Op.slice t x lo hi none).operands.toList) (fun y hy => by subst hy; simp [Op.operands]) (fun y hy => hT y (by simpa using hy))
    have b2 := bnd_map (E := E) (a := a) hhi (l := (Op.slice t x lo hi none).operands.toList) (fun y hy => by subst hy; simp [Op.operands]) (fun y hy => hT y (by simpa using hy))
    generalize hy : a.eval x = v at hv
    cases hv with
    | sc b n c hD hcc hn hm =>
      have hr := run_bounds (P := P) (isS := true) (len := n) (cap := c) (l := l) (h := h) (m := c) (lo := lo.map a.eval) (hi := hi.map a.eval) (mx := none) E.w b1
        b2 (fun _ => rfl) rfl h1 h2 (Nat.le_refl _)
      have := run_sliceSlice (P := P) (t := t) (isN := false) E.w ((E.L b).g.map fun g => ⟨g, 0, none⟩) n c l h c hr
      refine ⟨_, by simp only [execOp, hy, Sem.run_bind, Sem.run_pure, Option.map_none, this, Result.andThen_ok]; rfl, ?_⟩
      refine .sb _ _ _ _ _ _ hD (fun hne => ?_) (by omega) (fun k hk => by injection hk) hm
      obtain ⟨g, hg⟩ := own_g hs ((hU b (by simp)).trans hb) (.inl (by omega))
      exact ⟨g, hg, by rw [if_neg (by omega), hg]; simp [addr_at]⟩
class OvI (P : Program) (f : FuncId) (t : outParam TypeId) : Prop where
  h : ∃ tr, ∀ args w, (callFunc f args).run P w = ((Extern.SlicesOverlaps.overlaps #[t, t] #[tr] args).run P w).andThen fun v w' => .ok (.value v) w'
end
end Go.Proofs.YtneeclacmhhblaaGreat


namespace Go.Proofs.YtneeclacmhhblaaGreat
open Go.ChangeShapes Go.WideShapes Go.ChangeAt Go.RowKit

section
variable {H : Type} {enc : TypeId × Value → H} {P : Program} {w : World} {base : Nat} {spare : Nat → Bool} {held : Bool} {fuel : Nat} {t e : TypeId} {cs : List Value} {x : DataW H × List MemPlace}
theorem trod_bytes {n : Nat} (ht : P.underlying t = some (.array n e)) (he : P.underlying e = some (.int .u8)) (hce : P.cellsOf e = 1) (hct : P.cellsOf t = n)
    (h : DataW.trod enc P w base spare held fuel t cs = some x) : ∃ b : Nat → UInt8, cs = (List.range n).map fun i => .int .u8 ((b i).toNat : Int) := by
  obtain ⟨xs, m, _, _, hlen, hxs, hg⟩ := DataW.trod_array ht h
  have hb : ∀ i, ∃ c : UInt8, i < n → cs[i]? = some (.int .u8 (c.toNat : Int)) := by
    intro i
    by_cases hi : i < n
    · have h1 := hg i hi
      rw [List.getElem?_eq_getElem (by omega), hce, Nat.mul_one] at h1
      obtain ⟨z, hz, _, hwf⟩ := DataW.trod_int he h1
      have hbd := bounds_u8 hwf
      obtain ⟨c, hc⟩ := u8_of z (by omega) (by omega)
      refine ⟨c, fun _ => ?_⟩
      rw [← hc]
      have h2 : ((cs.drop i).take 1)[0]? = some (.int .u8 z) := by rw [hz]; rfl
      rw [List.getElem?_take_of_lt (by omega), List.getElem?_drop] at h2
      simpa using h2
    · exact ⟨0, fun h => absurd h hi⟩
  refine ⟨fun i => Classical.choose (hb i), ?_⟩
  apply List.ext_getElem?
  intro i
  by_cases hi : i < n
  · rw [Classical.choose_spec (hb i) hi]
    simp [hi]
  · rw [List.getElem?_eq_none (by omega), List.getElem?_eq_none (by simp; omega)]
theorem trod_name (ht : P.underlying t = some (.array 8 e)) (he : P.underlying e = some (.int .u8)) (hce : P.cellsOf e = 1) (hct : P.cellsOf t = 8)
    (h : DataW.trod enc P w base spare held fuel t cs = some x) : ∃ n : UInt64, cs = (nameC n).toList := by
  obtain ⟨b, rfl⟩ := trod_bytes ht he hce hct h
  refine ⟨nameOf b, ?_⟩
  rw [nameC_nameOf]
  rfl
theorem okWide_arr {r : Reach} {b0 n : Nat} {v : Value} (ht : P.underlying t = some (.array n e)) (h : Value.okWide P w r b0 t v) : ∃ cs, v = .agg cs ∧ cs.size = P.cellsOf t := by
  simp only [Value.okWide, ht] at h
  obtain ⟨cs, h1, h2, _⟩ := h
  exact ⟨cs, h1, h2⟩
theorem open_name {r : Reach} {b0 : Nat} {v : Value} {d : DataW H} {p : List MemPlace} (ht : P.underlying t = some (.array 8 e)) (he : P.underlying e = some (.int .u8)) (hce : P.cellsOf e = 1) (hct : P.cellsOf t = 8)
    (hv : Value.okWide P w r b0 t v) (h : DataW.Trod enc P w base spare held t v d p) : ∃ n : UInt64, v = .agg (nameC n) := by
  obtain ⟨cs, rfl, _⟩ := okWide_arr ht hv
  obtain ⟨fuel, hf⟩ := h
  obtain ⟨n, hn⟩ := trod_name ht he hce hct hf
  refine ⟨n, ?_⟩
  simp only [Value.cells] at hn
  rw [← Array.toArray_toList (xs := cs), hn]
theorem open_i64 {r : Reach} {b0 : Nat} {v : Value} {d : DataW H} {p : List MemPlace} (ht : P.underlying t = some (.int .i64)) (hv : Value.okWide P w r b0 t v) (h : DataW.Trod enc P w base spare held t v d p) :
    ∃ n : Int, v = .int .i64 n ∧ -9223372036854775808 ≤ n ∧ n ≤ 9223372036854775807 := by
  obtain ⟨z, rfl, _, _, hwf⟩ := open_int ht hv h
  have hbd := bounds_i64 hwf
  exact ⟨z, rfl, by omega, by omega⟩
end
end Go.Proofs.YtneeclacmhhblaaGreat


namespace Go.Proofs.YtneeclacmhhblaaGreat
open Go.RowKit

def E0 (w : World) : Env := { w := w, S := fun _ => False, L := fun _ => ⟨none, 0⟩, D := fun _ => False }
section
variable {P : Program}
theorem Fresh.calls {f : FuncId} {args : List AV} {x : Value} (h : Fresh P f args (fun _ => .v x) []) (w : World) (xs : List Value) (hx : RVs (E0 w) args xs) : Calls P f xs.toArray w fun e w' => e = .returned x ∧ Ext w w' := by
  refine (h (E0 w) xs (fun g h => h) (fun b h => h) hx).mono ?_
  rintro e w' ⟨y, ls, rfl, h1, _, _, h4⟩
  have := (h4 0 (E0 w') rfl (fun g hg => hg.elim) (fun j hj => by simp at hj)).2.v_inv
  subst this
  exact ⟨rfl, h1⟩
theorem Fresh.of_calls {f : FuncId} {args : List AV} {x : Value} (h : ∀ (w : World) (xs : List Value) (E : Env), E.w = w → RVs E args xs → Calls P f xs.toArray w fun e w' => e = .returned x ∧ Ext w w') : Fresh P f args (fun _ => .v x) [] := by
  intro E xs hS hD hx
  refine (h E.w xs E rfl hx).mono ?_
  rintro e w' ⟨rfl, hb⟩
  exact ⟨x, fun _ => ⟨none, 0⟩, rfl, hb, fun j g hj => by simp at hj, fun i j g hi => by simp at hi, fun k E' _ _ _ => ⟨fun j blk hj => by simp at hj, .v x⟩⟩
theorem Fresh.of_own {f : FuncId} {args : List AV} {n size : Nat} {e : TypeId} {vs : List Value} (h : ∀ (w : World) (xs : List Value) (E : Env), E.w = w → RVs E args xs → Calls P f xs.toArray w fun en w' => ∃ A c, en = .returned (.slice A n c) ∧ w'.ownsRow w.heap.size e size (.slice A n c) n vs ∧ Ext w w') :
    Fresh P f args (fun k => .sl k n) [⟨vs.map .v, e, size⟩] := by
  intro E xs hS hD hx
  refine (h E.w xs E rfl hx).mono ?_
  rintro en w' ⟨A, c, rfl, hown, hb⟩
  have hown0 := own_base hown (Nat.zero_le _)
  obtain ⟨l, rfl, rfl, hnl, hml, hob, hB⟩ := loc_of hown0
  refine ⟨_, fun _ => l, rfl, hb, fun j g _ hg => ?_, fun i j g hi hj _ _ => by simp at hi hj; omega, fun k E' hw _ hD' => ⟨fun j blk hj => ?_, ?_⟩⟩
  · have := own_block hown g (by rw [hob]; exact hg)
    exact this
  · cases j with
    | zero => simp at hj; subst hj; exact hB E' _ hw (RVs.vals vs)
    | succ j => simp at hj
  · obtain ⟨d1, d2⟩ := hD' 0 (by simp)
    simp only [Nat.add_zero] at d1 d2
    rw [← d2] at hnl hml ⊢
    exact .sl _ _ d1 hnl hml
theorem arg1 {E : Env} {a : AV} {xs : List Value} (h : RVs E [a] xs) : ∃ x, xs = [x] ∧ RV E a x := by
  obtain ⟨x, ys, rfl, h1, h2⟩ := h.cons_inv
  rw [h2.nil_inv]
  exact ⟨x, rfl, h1⟩
theorem arg2 {E : Env} {a b : AV} {xs : List Value} (h : RVs E [a, b] xs) : ∃ x y, xs = [x, y] ∧ RV E a x ∧ RV E b y := by
  obtain ⟨x, ys, rfl, h1, h2⟩ := h.cons_inv
  obtain ⟨y, rfl, h3⟩ := arg1 h2
  exact ⟨x, y, rfl, h1, h3⟩
theorem arg3 {E : Env} {a b c : AV} {xs : List Value} (h : RVs E [a, b, c] xs) : ∃ x y z, xs = [x, y, z] ∧ RV E a x ∧ RV E b y ∧ RV E c z := by
  obtain ⟨x, ys, rfl, h1, h2⟩ := h.cons_inv
  obtain ⟨y, z, rfl, h3, h4⟩ := arg2 h2
  exact ⟨x, y, z, rfl, h1, h3, h4⟩
theorem ex_bytes {E : Env} {n : Nat} {f : Bool} {bs : List UInt8} {x : Value} (h : RV E (.ex n f (byA bs)) x) : ∃ A c, x = .slice A n c ∧ n ≤ c ∧ Rd E.w A (bytesV bs) := by
  generalize hcs : byA bs = cs at h
  cases h with
  | ex0 n f A c hn hf =>
    have : bs = [] := by simpa [byA] using hcs
    subst this
    exact ⟨A, c, rfl, hn, .inl rfl⟩
  | ex n f cs g o c xs hn hf hg hS hl hx h =>
    subst hcs
    have hv : RVs E (byA bs) xs := ⟨hl, h⟩
    rw [byA_vals] at hv
    rw [hv.vals_inv] at hx
    exact ⟨_, c, rfl, hn, .inr ⟨g, o, rfl, hx⟩⟩
end
end Go.Proofs.YtneeclacmhhblaaGreat


namespace Go.Proofs.YtneeclacmhhblaaGreat
open Go.RowKit

theorem loadName (dst : Option Tmp) (x : Operand) (ty : TypeId) (pos : String) (after : Array Edge) (gd : Option (Nat × Bool)) (ρ : Operand → Value) (w : World)
    (h : isRow 8 (ρ x) w = true) : (execOp ρ ⟨dst, .load 23 x, ty, pos, after, gd⟩).run Tryz.prog w = .ok (.value (rowVal 8 (ρ x) w)) w := exec_load_agg 23 8 (by kernel_rfl) (by kernel_rfl) dst x ty pos after gd ρ w h
theorem storeName (dst : Option Tmp) (x y : Operand) (ty : TypeId) (pos : String) (after : Array Edge) (gd : Option (Nat × Bool)) (ρ : Operand → Value) (w : World)
    (h : isRow 8 (ρ x) w = true) (hv : isAggN 8 (ρ y) = true) : (execOp ρ ⟨dst, .store 23 x y, ty, pos, after, gd⟩).run Tryz.prog w = .ok .skip (putRow (ρ x) (ρ y) w) := exec_store_agg 23 8 (by kernel_rfl) dst x y ty pos after gd ρ w h hv
theorem allocName (dst : Option Tmp) (ty : TypeId) (pos : String) (after : Array Edge) (gd : Option (Nat × Bool)) (ρ : Operand → Value) (w : World) :
    (execOp ρ ⟨dst, .alloc 23, ty, pos, after, gd⟩).run Tryz.prog w = .ok (.value (.pointer (some ⟨w.heap.size, 0, none⟩))) (w.alloc (.cells (nameC 0) 23)) := by kernel_rfl
theorem zeroName (dst : Option Tmp) (ty : TypeId) (pos : String) (after : Array Edge) (gd : Option (Nat × Bool)) (ρ : Operand → Value) (w : World) :
    (execOp ρ ⟨dst, .build 23 #[], ty, pos, after, gd⟩).run Tryz.prog w = .ok (.value (.agg (nameC 0))) w := by kernel_rfl
theorem eqName (w : World) (a b : UInt64) : (Op.equalIn 10000 23 (.agg (nameC a)) (.agg (nameC b))).run Tryz.prog w = .ok (a == b) w :=
  run_eq_name w 9998 Tryz.underlying23 (by kernel_rfl) Tryz.underlying5 (by kernel_rfl) a b
theorem indexName (w : World) (n : UInt64) (k : Int) (h0 : 0 ≤ k) (h8 : k < 8) : (Instr.index 23 (.agg (nameC n)) (.int .i64 k)).run Tryz.prog w = .ok (.int .u8 ((nb n (7 - k.toNat)).toNat : Int)) w :=
  run_index_name w Tryz.underlying23 (by kernel_rfl) Tryz.underlying5 n k h0 h8
theorem retName {fn : Func} {p : Tmp} (hr : fn.results = #[.cell p 23]) (tmps : Array Value) (w : World) (h : isRow 8 (tmps.getD p undef) w = true) : (results fn tmps).run Tryz.prog w = .ok (rowVal 8 (tmps.getD p undef) w) w :=
  run_results_cell hr 8 (by kernel_rfl) (by kernel_rfl) tmps w h
theorem bytesT : SlT Tryz.prog 64 5 1 1 (.int .u8 0) := ⟨Tryz.underlying64, by kernel_rfl, rfl, by decide, by decide⟩
theorem strName (w : World) (g : Nat) (h1 : (rowAt w g).isSome = true) (h2 : nameC (nameOfC ((rowAt w g).getD #[])) = (rowAt w g).getD #[]) :
    (convert 64 9 (.slice (some ⟨g, 0, none⟩) 8 8)).run Tryz.prog w = .ok (.string (strB (nameB (nameOfC ((rowAt w g).getD #[]))))) w := run_strName w _ _ _ Tryz.underlying64 Tryz.underlying5 Tryz.underlying9 g h1 h2
attribute [go_sem ↓] strName
attribute [go_sem] strB_toList strB_size strB_append less_names nameOfC_nameC
attribute [go_sem ↓] allocName zeroName storeName loadName eqName
attribute [go_sem] allOne_lit one_int one_bool one_string one_pointer one_slice isAggN_agg nameC_ones putRow_ptr setRow_new rowAt_setRow rowAt_setRow_far size_setRow spliceA_whole
attribute [go_sem] nameC_get cell_row free_row rowAt_put rowAt_far
attribute [go_sem] indexName rowAt_new rowAt_alloc rowAt_drew nameC_size isRow_ptr rowVal_ptr nameC_whole u64_xor u64_or u64_and u64_add u64_mul u64_add_mod
end Go.Proofs.YtneeclacmhhblaaGreat


namespace Go.Proofs.YtneeclacmhhblaaGreat
open Go.RowKit
attribute [local go_sem ↓] Go.wp_at_zero Go.wp_at_succ

def top (n : UInt64) (k : Nat) : Nat := n.toNat / 256 ^ (8 - k)
theorem top_zero (n : UInt64) : top n 0 = 0 := by
  have := n.toNat_lt
  unfold top
  simp only [Nat.sub_zero, Nat.reducePow]
  omega
theorem top_eight (n : UInt64) : top n 8 = n.toNat := by simp [top]
theorem top_step (n : UInt64) (k : Nat) (hk : k < 8) : bits .or .u64 (IntKind.u64.wrap ((top n k : Int) * 256)) (IntKind.u64.wrap ((nb n (7 - k)).toNat : Int)) = (top n (k + 1) : Int) := by
  have hn := n.toNat_lt
  have hd : top n k = top n (k + 1) / 256 := by
    unfold top
    rw [Nat.div_div_eq_div_mul, ← Nat.pow_succ, show 8 - k = (8 - (k + 1)).succ from by omega]
  have hb : top n (k + 1) < 18446744073709551616 := Nat.lt_of_le_of_lt (Nat.div_le_self _ _) hn
  have he : (nb n (7 - k)).toNat = top n (k + 1) % 256 := by rw [nb_lt]; unfold top; rw [show 7 - k = 8 - (k + 1) from by omega]
  rw [hd, he]
  generalize top n (k + 1) = q at *
  have := or_shl8 (q / 256) (q % 256) (by omega) (by omega)
  rw [wrap_u64, wrap_u64, show (((q / 256 : Nat) : Int) * 256) % 18446744073709551616 = ((q / 256 * 256 : Nat) : Int) from by omega, show (((q % 256 : Nat) : Int)) % 18446744073709551616 = ((q % 256 : Nat) : Int) from by omega, this]
  omega

set_option maxHeartbeats 400000 in
theorem number_calls (n : UInt64) (w : World) :
    Calls Tryz.prog 132 #[.agg (nameC n)] w fun e w' => e = .returned (.int .u64 (n.toNat : Int)) ∧ Ext w w' := by
  go_enter Tryz.func132, Tryz.ntmps132
  go_wp2
  go_loop [3, 7] (fun v i => ∃ k : Nat, k ≤ 8 ∧ i = .int .i64 k ∧ v = .int .u64 (top n k : Int)) (fun _ i => 8 - (intOf i).toNat)
  case atStart => exact ⟨0, by omega, rfl, by rw [top_zero]; rfl⟩
  case round =>
    obtain ⟨k, hk, rfl, rfl⟩ := hrel
    by_cases hlt : k < 8
    · go_wp2
      go_round
      case rel => exact ⟨k + 1, by omega, by go_num, by rw [top_step n k hlt]⟩
      case measure => simp [intOf]; omega
    · go_wp2
      go_ret
      obtain rfl : k = 8 := by omega
      exact ⟨by rw [← top_eight n]; rfl, (Ext.refl w).alloc _⟩

set_option maxHeartbeats 400000 in
theorem refNumber_calls (n : UInt64) (w : World) :
    Calls Tryz.prog 82 #[.agg (nameC n)] w fun e w' => e = .returned (.int .u64 (n.toNat : Int)) ∧ Ext w w' := by
  go_enter Tryz.func82, Tryz.ntmps82
  go_wp2
  go_loop [3, 4] (fun v i => ∃ k : Nat, k ≤ 8 ∧ i = .int .i64 k ∧ v = .int .u64 (top n k : Int)) (fun _ i => 8 - (intOf i).toNat)
  case atStart => exact ⟨0, by omega, rfl, by rw [top_zero]; rfl⟩
  case round =>
    obtain ⟨k, hk, rfl, rfl⟩ := hrel
    by_cases hlt : k < 8
    · have hc : (nameC n)[k]? = some (.int .u8 ((nb n (7 - k)).toNat : Int)) := nameC_at n k hlt
      go_wp2
      go_round
      case rel => exact ⟨k + 1, by omega, by go_num, by rw [top_step n k hlt]⟩
      case measure => simp [intOf]; omega
    · go_wp2
      go_ret
      obtain rfl : k = 8 := by omega
      exact ⟨by rw [← top_eight n]; rfl, (Ext.refl w).alloc _⟩

theorem of_cells (v : UInt64) : #[Value.int .u8 ((v.toNat : Int) / 72057594037927936), .int .u8 ((v.toNat : Int) / 281474976710656 % 256), .int .u8 ((v.toNat : Int) / 1099511627776 % 256), .int .u8 ((v.toNat : Int) / 4294967296 % 256),
    .int .u8 ((v.toNat : Int) / 16777216 % 256), .int .u8 ((v.toNat : Int) / 65536 % 256), .int .u8 ((v.toNat : Int) / 256 % 256), .int .u8 ((v.toNat : Int) % 256)] = nameC v := by
  have := v.toNat_lt
  unfold nameC
  simp only [nb_lt, Nat.reducePow, Nat.pow_zero, Nat.pow_one, Nat.div_one]
  congr 1
  simp only [List.cons.injEq, Value.int.injEq, true_and, and_true]
  omega
set_option maxHeartbeats 400000 in
theorem of_calls (v : UInt64) (w : World) :
    Calls Tryz.prog 104 #[.int .u64 (v.toNat : Int)] w fun e w' => e = .returned (.agg (nameC v)) ∧ Ext w w' := by
  have hv : (v.toNat : Int) < 18446744073709551616 := by have := v.toNat_lt; omega
  have hc := of_cells v
  have HC := Lib.hid hc
  clear hc
  go_enter Tryz.func104, Tryz.ntmps104
  go_wp2
  rw [HC.out]
  refine bodyPost_ret (retName rfl _ _ (by simp [go_sem])) rfl ⟨by simp [go_sem], (Ext.refl w).alloc _⟩

set_option maxHeartbeats 400000 in
theorem refOf_calls (v : UInt64) (w : World) :
    Calls Tryz.prog 136 #[.int .u64 (v.toNat : Int)] w fun e w' => e = .returned (.agg (nameC v)) ∧ Ext w w' := by
  have hv : (v.toNat : Int) < 18446744073709551616 := by have := v.toNat_lt; omega
  have hc := of_cells v
  have HC := Lib.hid hc
  clear hc
  go_enter Tryz.func136, Tryz.ntmps136
  go_wp2
  rw [HC.out]
  refine bodyPost_ret (retName rfl _ _ (by simp [go_sem])) rfl ⟨by simp [go_sem], (Ext.refl w).alloc _⟩

theorem lt_toNat (a b : UInt64) : decide (a.toNat < b.toNat) = decide (a < b) := by simp [UInt64.lt_iff_toNat_lt]
set_option maxHeartbeats 400000 in
theorem refLess_calls (a b : UInt64) (w : World) :
    Calls Tryz.prog 48 #[.agg (nameC a), .agg (nameC b)] w fun e w' => e = .returned (.bool (decide (a < b))) ∧ Ext w w' := by
  go_enter Tryz.func48, Tryz.ntmps48
  go_wp2
  go_region_held3 (fun w' => rowAt w' w.heap.size = some (nameC a) ∧ rowAt w' (w.heap.size + 1) = some (nameC b) ∧ Ext w w') ((refine ⟨?_, ?_, ?_⟩ <;> (repeat (first | exact Ext.refl _ | assumption | refine Ext.drew ?_ | refine Ext.drewN ?_ _ | refine Ext.alloc ?_ _ | refine Ext.trans ?_ (by assumption) | refine rowAt_keep ?_ (by assumption) | refine cell_keep ?_ (by assumption) | (simp [go_sem]; done)))))
    (first | (go_at_call 82; refine (refNumber_calls _ _).mono ?_; rintro e w' ⟨rfl, hb⟩))
  go_wp2
  rename_i hh
  go_ret
  exact ⟨by simp only [← lt_toNat]; rfl, hh.2.2⟩
end Go.Proofs.YtneeclacmhhblaaGreat


namespace Go.Proofs.YtneeclacmhhblaaGreat
open Go.RowKit
attribute [local go_sem ↓] Go.wp_at_zero Go.wp_at_succ

def shlU (x : UInt64) (k : Nat) : UInt64 := UInt64.ofNat (x.toNat * 2 ^ k)
def shrU (x : UInt64) (k : Nat) : UInt64 := UInt64.ofNat (x.toNat / 2 ^ k)
def rotl (x : UInt64) (k : Nat) : UInt64 := orU (shlU x k) (shrU x (64 - k))
def factor : UInt64 := 11400714819323198485
def mixU (s : UInt64 × UInt64) : UInt64 × UInt64 :=
  (mulU (rotl (addU s.1 s.2) 32) factor, xorU (rotl s.2 13) (addU s.1 s.2))

theorem wrap_ofNat (n : Nat) : IntKind.u64.wrap (n : Int) = ((UInt64.ofNat n).toNat : Int) := by
  rw [wrap_u64, UInt64.toNat_ofNat']; omega
theorem shl13 (x : UInt64) : IntKind.u64.wrap ((x.toNat : Int) * 8192) = ((shlU x 13).toNat : Int) := by
  unfold shlU; rw [← wrap_ofNat]; simp only [Nat.reducePow, Int.natCast_mul]; rfl
theorem shl32 (x : UInt64) : IntKind.u64.wrap ((x.toNat : Int) * 4294967296) = ((shlU x 32).toNat : Int) := by
  unfold shlU; rw [← wrap_ofNat]; simp only [Nat.reducePow, Int.natCast_mul]; rfl
theorem shr51 (x : UInt64) : (x.toNat : Int) / 2251799813685248 = ((shrU x 51).toNat : Int) := by
  have := x.toNat_lt
  unfold shrU; rw [UInt64.toNat_ofNat']; simp only [Nat.reducePow]; omega
theorem shr32 (x : UInt64) : (x.toNat : Int) / 4294967296 = ((shrU x 32).toNat : Int) := by
  have := x.toNat_lt
  unfold shrU; rw [UInt64.toNat_ofNat']; simp only [Nat.reducePow]; omega
theorem fac (x : UInt64) : IntKind.u64.wrap ((x.toNat : Int) * 11400714819323198485) = ((mulU x factor).toNat : Int) := by
  have := u64_mul x factor
  exact this
theorem shl13_mod (x : UInt64) : (x.toNat : Int) * 8192 % 18446744073709551616 = ((shlU x 13).toNat : Int) := by rw [← wrap_u64]; exact shl13 x
theorem shl32_mod (x : UInt64) : (x.toNat : Int) * 4294967296 % 18446744073709551616 = ((shlU x 32).toNat : Int) := by rw [← wrap_u64]; exact shl32 x
theorem fac_mod (x : UInt64) : (x.toNat : Int) * 11400714819323198485 % 18446744073709551616 = ((mulU x factor).toNat : Int) := by rw [← wrap_u64]; exact fac x
attribute [local go_sem] shl13 shl32 shr51 shr32 fac shl13_mod shl32_mod fac_mod
theorem and63a : bits .and .u64 13 63 = 13 := by decide +kernel
theorem and63b : bits .and .u64 32 63 = 32 := by decide +kernel
attribute [local go_sem] and63a and63b

set_option maxHeartbeats 400000 in
theorem rot13_calls (x : UInt64) (w : World) :
    Calls Tryz.prog 133 #[.int .u64 (x.toNat : Int), .int .i64 13] w fun e w' => e = .returned (.int .u64 ((rotl x 13).toNat : Int)) ∧ w = w' := by
  go_enter Tryz.func133, Tryz.ntmps133
  go_wp2
  go_ret
  exact ⟨rfl, rfl⟩
set_option maxHeartbeats 400000 in
theorem rot32_calls (x : UInt64) (w : World) :
    Calls Tryz.prog 133 #[.int .u64 (x.toNat : Int), .int .i64 32] w fun e w' => e = .returned (.int .u64 ((rotl x 32).toNat : Int)) ∧ w = w' := by
  go_enter Tryz.func133, Tryz.ntmps133
  go_wp2
  go_ret
  exact ⟨rfl, rfl⟩
set_option maxHeartbeats 400000 in
theorem refRot13_calls (x : UInt64) (w : World) :
    Calls Tryz.prog 151 #[.int .u64 (x.toNat : Int), .int .u64 13] w fun e w' => e = .returned (.int .u64 ((rotl x 13).toNat : Int)) ∧ w = w' := by
  go_enter Tryz.func151, Tryz.ntmps151
  go_wp2
  go_ret
  exact ⟨rfl, rfl⟩
set_option maxHeartbeats 400000 in
theorem refRot32_calls (x : UInt64) (w : World) :
    Calls Tryz.prog 151 #[.int .u64 (x.toNat : Int), .int .u64 32] w fun e w' => e = .returned (.int .u64 ((rotl x 32).toNat : Int)) ∧ w = w' := by
  go_enter Tryz.func151, Tryz.ntmps151
  go_wp2
  go_ret
  exact ⟨rfl, rfl⟩
theorem rot_calls (x : UInt64) (k : Int) (hk : k = 13 ∨ k = 32) (w : World) :
    Calls Tryz.prog 133 #[.int .u64 (x.toNat : Int), .int .i64 k] w fun e w' => e = .returned (.int .u64 ((rotl x k.toNat).toNat : Int)) ∧ w = w' := by
  rcases hk with rfl | rfl
  · exact rot13_calls x w
  · exact rot32_calls x w
theorem refRot_calls (x : UInt64) (k : Int) (hk : k = 13 ∨ k = 32) (w : World) :
    Calls Tryz.prog 151 #[.int .u64 (x.toNat : Int), .int .u64 k] w fun e w' => e = .returned (.int .u64 ((rotl x k.toNat).toNat : Int)) ∧ w = w' := by
  rcases hk with rfl | rfl
  · exact refRot13_calls x w
  · exact refRot32_calls x w
set_option maxHeartbeats 400000 in
theorem refMix_calls (x y : UInt64) (w : World) :
    Calls Tryz.prog 135 #[.int .u64 (x.toNat : Int), .int .u64 (y.toNat : Int)] w fun e w' => e = .returned (.tuple #[.int .u64 ((mixU (x, y)).1.toNat : Int), .int .u64 ((mixU (x, y)).2.toNat : Int)]) ∧ w = w' := by
  go_enter Tryz.func135, Tryz.ntmps135
  go_wp2_with (first | (go_at_call 151; refine (refRot_calls _ _ (by decide) _).mono ?_; rintro e w' ⟨rfl, rfl⟩))
  go_ret2
  exact ⟨rfl, rfl⟩

def mixN : Nat → UInt64 × UInt64 → UInt64 × UInt64
  | 0, s => s
  | n + 1, s => mixU (mixN n s)
def stC (s : UInt64 × UInt64) : Array Value := #[.int .u64 (s.1.toNat : Int), .int .u64 (s.2.toNat : Int)]
def Only (g : Nat) (w w' : World) : Prop := w.grownBy w' (some g)
theorem Only.refl (g : Nat) (w : World) : Only g w w := World.grownBy.refl _ _
theorem Only.drew {g : Nat} {w v : World} (h : Only g w v) : Only g w v.drew := ⟨h.os, h.tape, h.output, h.size, h.block⟩
theorem Only.set {g : Nat} {w v : World} (h : Only g w v) (o : Nat) (x : Value) : Only g w (v.setCell ⟨g, o, none⟩ x) :=
  ⟨h.os, h.tape, h.output, by simpa [World.setCell] using h.size, fun i hi hne => (Below.heap_setCell v ⟨g, o, none⟩ x i (fun e => hne (by rw [e]))).trans (h.block i hi hne)⟩
theorem Only.ext {g : Nat} {w v u : World} (h : Only g v u) (k : Ext w v) (hg : w.heap.size ≤ g) : Ext w u := Ext.grown k h (fun _ e => by injection e with e; omega)
theorem Only.row {g j : Nat} {w v : World} {cs : Array Value} (h : Only g w v) (hj : rowAt w j = some cs) (hne : j ≠ g) : rowAt v j = some cs := by
  have hl := rowAt_lt hj
  unfold rowAt at hj ⊢
  rw [h.block j hl (fun e => hne (by injection e))]
  exact hj
theorem Only.cell {g : Nat} {w v : World} {p : Addr} {x : Value} (h : Only g w v) (hp : w.cell? p = some x) (hne : p.block ≠ g) : v.cell? p = some x :=
  (World.cell?_of_block (h.block p.block (block_lt_of_cell hp) (fun e => hne (by injection e)))).trans hp
set_option maxHeartbeats 1000000 in
theorem mix_calls (g : Nat) (s : UInt64 × UInt64) (n : Nat) (w : World) (hn : n ≤ 4) (hr : rowAt w g = some (stC s)) :
    Calls Tryz.prog 103 #[.pointer (some ⟨g, 0, none⟩), .int .i64 n] w fun e w' => e = .returned (.tuple #[]) ∧ rowAt w' g = some (stC (mixN n s)) ∧ Only g w w' := by
  go_enter Tryz.func103, Tryz.ntmps103
  go_wp2
  go_loopw [5] (fun i wr => ∃ k : Nat, k ≤ n ∧ i = .int .i64 k ∧ rowAt wr g = some (stC (mixN k s)) ∧ Only g w wr) (fun i _ => n - (intOf i).toNat)
  case atStart => exact ⟨0, by omega, rfl, hr, World.grownBy.refl _ _⟩
  case round =>
    obtain ⟨k, hk, rfl, hrk, hok⟩ := hrel
    clear hr
    unfold stC at hrk
    by_cases hlt : k < n
    · go_wp2
      go_region
      go_wp2
      have r1 := hrk
      have hmix : mixN (k + 1) s = mixU ((mixN k s).1, (mixN k s).2) := rfl
      generalize (mixN k s).1 = x at *
      generalize (mixN k s).2 = y at *
      have r2 : rowAt (wr.setCell ⟨g, 0, none⟩ (.int .u64 ((addU x y).toNat : Int))).drew g = some #[.int .u64 ((addU x y).toNat : Int), .int .u64 (y.toNat : Int)] := by simp [go_sem, hrk]
      have o2 : Only g w (wr.setCell ⟨g, 0, none⟩ (.int .u64 ((addU x y).toNat : Int))).drew := (hok.set _ _).drew
      generalize (wr.setCell ⟨g, 0, none⟩ (.int .u64 ((addU x y).toNat : Int))).drew = W1 at *
      clear r1 hrk hok
      go_region_with (go_at_call 133; refine (rot_calls _ _ (by decide) _).mono ?_; rintro e w' ⟨rfl, rfl⟩)
      all_goals
        have r3 : rowAt (W1.setCell ⟨g, 1, none⟩ (.int .u64 ((xorU (rotl y 13) (addU x y)).toNat : Int))).drew g = some #[.int .u64 ((addU x y).toNat : Int), .int .u64 ((xorU (rotl y 13) (addU x y)).toNat : Int)] := by simp [go_sem, r2]
        have o3 : Only g w (W1.setCell ⟨g, 1, none⟩ (.int .u64 ((xorU (rotl y 13) (addU x y)).toNat : Int))).drew := (o2.set _ _).drew
        generalize (W1.setCell ⟨g, 1, none⟩ (.int .u64 ((xorU (rotl y 13) (addU x y)).toNat : Int))).drew = W2 at *
        clear r2 o2
        go_wp2_with (go_at_call 133; refine (rot_calls _ _ (by decide) _).mono ?_; rintro e w' ⟨rfl, rfl⟩)
        go_roundw
        case rel =>
          refine ⟨k + 1, by omega, by go_num, ?_, o3.set _ _⟩
          rw [hmix]
          simp [go_sem, r3, stC, mixU]
        case measure => simp [intOf]; omega
    · obtain rfl : k = n := by omega
      go_wp2
      go_end0
      exact ⟨rfl, hrk, hok⟩
end Go.Proofs.YtneeclacmhhblaaGreat


namespace Go.Proofs.YtneeclacmhhblaaGreat
open Go.RowKit
attribute [local go_sem ↓] Go.wp_at_zero Go.wp_at_succ

def wordOf (bs : List UInt8) : UInt64 := nameOf fun i => bs.getD i 0
def sh (c : UInt8) (k : Nat) : UInt64 := UInt64.ofNat (c.toNat * 256 ^ k)
theorem sh_toNat (c : UInt8) (k : Nat) (h : k ≤ 7) : (sh c k).toNat = c.toNat * 256 ^ k := by
  have hc := c.toNat_lt
  unfold sh
  rw [UInt64.toNat_ofNat']
  match k, h with
  | 0, _ | 1, _ | 2, _ | 3, _ | 4, _ | 5, _ | 6, _ | 7, _ => simp only [Nat.reducePow]; omega
theorem shB (c : UInt8) (k : Nat) (m : Int) (hm : m = ((256 ^ k : Nat) : Int)) : IntKind.u64.wrap ((c.toNat : Int) * m) = ((sh c k).toNat : Int) := by
  subst hm
  unfold sh
  rw [← wrap_ofNat, Int.natCast_mul]
theorem shB7 (c : UInt8) : IntKind.u64.wrap ((c.toNat : Int) * 72057594037927936) = ((sh c 7).toNat : Int) := shB c 7 _ rfl
theorem shB6 (c : UInt8) : IntKind.u64.wrap ((c.toNat : Int) * 281474976710656) = ((sh c 6).toNat : Int) := shB c 6 _ rfl
theorem shB5 (c : UInt8) : IntKind.u64.wrap ((c.toNat : Int) * 1099511627776) = ((sh c 5).toNat : Int) := shB c 5 _ rfl
theorem shB4 (c : UInt8) : IntKind.u64.wrap ((c.toNat : Int) * 4294967296) = ((sh c 4).toNat : Int) := shB c 4 _ rfl
theorem shB3 (c : UInt8) : IntKind.u64.wrap ((c.toNat : Int) * 16777216) = ((sh c 3).toNat : Int) := shB c 3 _ rfl
theorem shB2 (c : UInt8) : IntKind.u64.wrap ((c.toNat : Int) * 65536) = ((sh c 2).toNat : Int) := shB c 2 _ rfl
theorem shB1 (c : UInt8) : IntKind.u64.wrap ((c.toNat : Int) * 256) = ((sh c 1).toNat : Int) := shB c 1 _ rfl
theorem u8_u64 (c : UInt8) : IntKind.u64.wrap (c.toNat : Int) = (c.toNat : Int) := by
  have := c.toNat_lt
  rw [wrap_u64]; omega
theorem or_u8 (x : UInt64) (c : UInt8) : bits .or .u64 (x.toNat : Int) (c.toNat : Int) = ((orU x (sh c 0)).toNat : Int) := by
  rw [← u64_or, sh_toNat c 0 (by omega)]; simp
attribute [local go_sem] shB7 shB6 shB5 shB4 shB3 shB2 shB1 u8_u64 or_u8
theorem or_next (q c k : Nat) (hc : c < 256) : q * 256 ^ (k + 1) ||| c * 256 ^ k = (q * 256 + c) * 256 ^ k := by
  have e : (256 : Nat) ^ k = 2 ^ (8 * k) := by rw [show (256 : Nat) = 2 ^ 8 from rfl, ← Nat.pow_mul]
  have h1 : q * 256 ||| c = q * 256 + c := by
    have := Nat.shiftLeft_add_eq_or_of_lt (b := c) (i := 8) (by omega) q
    rw [Nat.shiftLeft_eq] at this
    exact this.symm
  rw [Nat.pow_succ, Nat.mul_comm (256 ^ k) 256, ← Nat.mul_assoc, e, ← Nat.shiftLeft_eq, ← Nat.shiftLeft_eq, ← Nat.shiftLeft_eq, ← Nat.shiftLeft_or_distrib, h1]
theorem orU_toNat (x y : UInt64) : (orU x y).toNat = x.toNat ||| y.toNat := by unfold orU; rw [UInt64.toNat_or]
def or8 (b : Nat → UInt8) : UInt64 := orU (orU (orU (orU (orU (orU (orU (sh (b 0) 7) (sh (b 1) 6)) (sh (b 2) 5)) (sh (b 3) 4)) (sh (b 4) 3)) (sh (b 5) 2)) (sh (b 6) 1)) (sh (b 7) 0)
theorem or8_eq (b : Nat → UInt8) : or8 b = nameOf b := by
  have h1 := (b 1).toNat_lt; have h2 := (b 2).toNat_lt; have h3 := (b 3).toNat_lt
  have h4 := (b 4).toNat_lt; have h5 := (b 5).toNat_lt; have h6 := (b 6).toNat_lt; have h7 := (b 7).toNat_lt
  apply UInt64.toNat_inj.1
  unfold or8
  simp only [orU_toNat]
  rw [sh_toNat _ 7 (by omega), sh_toNat _ 6 (by omega), sh_toNat _ 5 (by omega), sh_toNat _ 4 (by omega), sh_toNat _ 3 (by omega), sh_toNat _ 2 (by omega), sh_toNat _ 1 (by omega), sh_toNat _ 0 (by omega),
    or_next _ _ 6 h1, or_next _ _ 5 h2, or_next _ _ 4 h3, or_next _ _ 3 h4, or_next _ _ 2 h5, or_next _ _ 1 h6, or_next _ _ 0 h7, nameOf_toNat]
  omega

theorem bytesV_at (bs : List UInt8) (j : Nat) (h : j < bs.length) : (bytesV bs)[j]? = some (.int .u8 ((bs.getD j 0).toNat : Int)) := by
  simp [bytesV, List.getElem?_map, List.getElem?_eq_getElem h, List.getD_eq_getElem?_getD]
theorem bytesV_length (bs : List UInt8) : (bytesV bs).length = bs.length := by simp [bytesV]

theorem bytesV_ne (bs : List UInt8) (h : 0 < bs.length) : bytesV bs ≠ [] := by
  intro e
  have := congrArg List.length e
  rw [bytesV_length] at this
  simp only [List.length_nil] at this
  omega
set_option maxRecDepth 100000 in
set_option maxHeartbeats 1000000 in
theorem word8_calls (g o c n : Nat) (b : Nat → UInt8) (w : World) (hn : 8 ≤ n) (hc : ∀ j, j < 8 → w.cell? ⟨g, o + j, none⟩ = some (.int .u8 ((b j).toNat : Int))) :
    Calls Tryz.prog 102 #[.slice (some ⟨g, o, none⟩) n c] w fun e w' => e = .returned (.int .u64 ((or8 b).toNat : Int)) ∧ Ext w w' := by
  have q0 := hc 0 (by omega); have q1 := hc 1 (by omega); have q2 := hc 2 (by omega); have q3 := hc 3 (by omega)
  have q4 := hc 4 (by omega); have q5 := hc 5 (by omega); have q6 := hc 6 (by omega); have q7 := hc 7 (by omega)
  clear hc
  simp only [Nat.add_zero] at q0
  have hi : (8 : Int) ≤ (n : Int) := by omega
  have i0 : (0 : Int) < (n : Int) := by omega
  have i1 : (1 : Int) < (n : Int) := by omega
  have i2 : (2 : Int) < (n : Int) := by omega
  have i3 : (3 : Int) < (n : Int) := by omega
  have i4 : (4 : Int) < (n : Int) := by omega
  have i5 : (5 : Int) < (n : Int) := by omega
  have i6 : (6 : Int) < (n : Int) := by omega
  have i7 : (7 : Int) < (n : Int) := by omega
  unfold or8
  generalize b 0 = b0 at *
  generalize b 1 = b1 at *
  generalize b 2 = b2 at *
  generalize b 3 = b3 at *
  generalize b 4 = b4 at *
  generalize b 5 = b5 at *
  generalize b 6 = b6 at *
  generalize b 7 = b7 at *
  go_enter Tryz.func102, Tryz.ntmps102
  go_wp2
  go_quiet (fail)
  go_wp2
  go_ret
  exact ⟨rfl, (Ext.refl w).drewN _⟩
theorem splice_name (bs : List UInt8) (h : bs.length ≤ 8) : spliceA (nameC 0) 0 ((bytesV bs).take 8).toArray = nameC (wordOf bs) := by
  unfold wordOf
  rw [nameC_nameOf, List.take_of_length_le (by rw [bytesV_length]; exact h)]
  match bs, h with
  | [], _ | [_], _ | [_, _], _ | [_, _, _], _ | [_, _, _, _], _ | [_, _, _, _, _], _ | [_, _, _, _, _, _], _ | [_, _, _, _, _, _, _], _ | [_, _, _, _, _, _, _, _], _ => rfl
set_option maxHeartbeats 1000000 in
theorem wordS_calls (A : Option Addr) (c : Nat) (bs : List UInt8) (w : World) (hn : bs.length < 8) (hr : Rd w A (bytesV bs)) :
    Calls Tryz.prog 102 #[.slice A bs.length c] w fun e w' => e = .returned (.int .u64 ((wordOf bs).toNat : Int)) ∧ Ext w w' := by
  have hlen : ¬ (8 : Int) ≤ (bs.length : Int) := by omega
  have hcp := fun ty => run_cp (P := Tryz.prog) (sT := 64) (ty := ty) (dc := 8) (c := c) Tryz.underlying64 (by kernel_rfl) (rowAt_new w (nameC 0) 23 w.heap.size rfl) (hr.keep ((Ext.refl w).alloc _)) (bytesV_length bs) (ones_bytes bs) (by simp [nameC_size]) _ (splice_name bs (by omega))
  generalize bs.length = L at *
  go_enter Tryz.func102, Tryz.ntmps102
  go_wp2_with (go_at_call 132; refine (number_calls _ _).mono ?_; rintro e w' ⟨rfl, hb⟩)
  go_ret
  exact ⟨rfl, ((Ext.refl w).alloc _).trans hb⟩
theorem word_calls (A : Option Addr) (c : Nat) (bs : List UInt8) (w : World) (hr : Rd w A (bytesV bs)) :
    Calls Tryz.prog 102 #[.slice A bs.length c] w fun e w' => e = .returned (.int .u64 ((wordOf bs).toNat : Int)) ∧ Ext w w' := by
  by_cases hn : bs.length < 8
  · exact wordS_calls A c bs w hn hr
  · obtain ⟨g, o, rfl, hc⟩ := hr.at (bytesV_ne bs (by omega))
    have := word8_calls g o c bs.length (fun i => bs.getD i 0) w (by omega) (fun j hj => hc j _ (bytesV_at bs j (by omega)))
    rw [or8_eq] at this
    exact this

set_option maxRecDepth 100000 in
set_option maxHeartbeats 1000000 in
theorem refWord8_calls (g o c n : Nat) (b : Nat → UInt8) (w : World) (hn : 8 ≤ n) (hc : ∀ j, j < 8 → w.cell? ⟨g, o + j, none⟩ = some (.int .u8 ((b j).toNat : Int))) :
    Calls Tryz.prog 134 #[.slice (some ⟨g, o, none⟩) n c] w fun e w' => e = .returned (.int .u64 ((or8 b).toNat : Int)) ∧ Ext w w' := by
  have q0 := hc 0 (by omega); have q1 := hc 1 (by omega); have q2 := hc 2 (by omega); have q3 := hc 3 (by omega)
  have q4 := hc 4 (by omega); have q5 := hc 5 (by omega); have q6 := hc 6 (by omega); have q7 := hc 7 (by omega)
  clear hc
  simp only [Nat.add_zero] at q0
  have hi : (8 : Int) ≤ (n : Int) := by omega
  have i0 : (0 : Int) < (n : Int) := by omega
  have i1 : (1 : Int) < (n : Int) := by omega
  have i2 : (2 : Int) < (n : Int) := by omega
  have i3 : (3 : Int) < (n : Int) := by omega
  have i4 : (4 : Int) < (n : Int) := by omega
  have i5 : (5 : Int) < (n : Int) := by omega
  have i6 : (6 : Int) < (n : Int) := by omega
  have i7 : (7 : Int) < (n : Int) := by omega
  unfold or8
  generalize b 0 = b0 at *
  generalize b 1 = b1 at *
  generalize b 2 = b2 at *
  generalize b 3 = b3 at *
  generalize b 4 = b4 at *
  generalize b 5 = b5 at *
  generalize b 6 = b6 at *
  generalize b 7 = b7 at *
  go_enter Tryz.func134, Tryz.ntmps134
  go_wp2
  go_quiet (fail)
  go_wp2
  go_ret
  exact ⟨rfl, (Ext.refl w).drewN _⟩
def wordK (bs : List UInt8) (k : Nat) : UInt64 := wordOf (bs.take k)
theorem take_getD (bs : List UInt8) (k i : Nat) : (bs.take k).getD i 0 = if i < k then bs.getD i 0 else 0 := by
  rw [List.getD_eq_getElem?_getD, List.getElem?_take]
  split
  · rw [List.getD_eq_getElem?_getD]
  · rfl
theorem wordK_toNat (bs : List UInt8) (k : Nat) (h : k ≤ 8) : (wordK bs k).toNat = topB (fun i => bs.getD i 0) k * 256 ^ (8 - k) := by
  unfold wordK wordOf
  rw [nameOf_topB]
  have h1 := topB_zeros (fun i => (bs.take k).getD i 0) k (8 - k) (fun i hi => by show (bs.take k).getD i 0 = 0; rw [take_getD, if_neg (by omega)])
  rw [show k + (8 - k) = 8 from by omega] at h1
  rw [h1, topB_congr _ (fun i => bs.getD i 0) k (fun i hi => by show (bs.take k).getD i 0 = bs.getD i 0; rw [take_getD, if_pos hi])]
theorem wordK_zero (bs : List UInt8) : (wordK bs 0).toNat = 0 := by rw [wordK_toNat bs 0 (by omega)]; simp [topB]
theorem wordK_next (bs : List UInt8) (k : Nat) (h : k < 8) :
    bits .or .u64 ((wordK bs k).toNat : Int) (IntKind.u64.wrap (((bs[k]?.getD 0).toNat : Int) * 2 ^ (56 - 8 * k))) = ((wordK bs (k + 1)).toNat : Int) := by
  have hc := (bs.getD k 0).toNat_lt
  have e0 : (256 : Nat) ^ (7 - k) = 2 ^ (56 - 8 * k) := by
    rw [show (256 : Nat) = 2 ^ 8 from rfl, ← Nat.pow_mul]
    congr 1
    omega
  have e1 : (2 : Int) ^ (56 - 8 * k) = ((256 ^ (7 - k) : Nat) : Int) := by rw [e0, Int.natCast_pow]; rfl
  clear e0
  rw [← List.getD_eq_getElem?_getD, shB _ (7 - k) _ e1, u64_or]
  congr 1
  rw [orU_toNat, wordK_toNat bs k (by omega), wordK_toNat bs (k + 1) (by omega), sh_toNat _ _ (by omega), show 8 - k = (7 - k) + 1 from by omega, or_next _ _ _ hc, show 8 - (k + 1) = 7 - k from by omega, topB]
set_option maxHeartbeats 1000000 in
theorem refWordS_calls (A : Option Addr) (c : Nat) (bs : List UInt8) (w : World) (hn : bs.length < 8) (hr : Rd w A (bytesV bs)) :
    Calls Tryz.prog 134 #[.slice A bs.length c] w fun e w' => e = .returned (.int .u64 ((wordOf bs).toNat : Int)) ∧ Ext w w' := by
  have hlen : ¬ (8 : Int) ≤ (bs.length : Int) := by omega
  generalize hL : bs.length = L at *
  have HL := Lib.hid hL
  clear hL
  go_enter Tryz.func134, Tryz.ntmps134
  go_wp2
  go_loop [3, 4] (fun v i => ∃ k : Nat, k ≤ L ∧ i = .int .i64 k ∧ v = .int .u64 ((wordK bs k).toNat : Int)) (fun _ i => L - (intOf i).toNat)
  case atStart => exact ⟨0, by omega, rfl, by rw [wordK_zero]; rfl⟩
  case round =>
    obtain ⟨k, hk, rfl, rfl⟩ := hrel
    by_cases hlt : k < L
    · obtain ⟨g, o, rfl, hc⟩ := hr.at (bytesV_ne bs (by rw [HL.out]; omega))
      have q1 := hc k _ (bytesV_at bs k (by rw [HL.out]; exact hlt))
      have Hr := Lib.hid hr
      have Hc := Lib.hid hc
      clear hr hc
      go_wp2
      go_round
      case rel => exact ⟨k + 1, by omega, by go_num, by rw [wordK_next bs k (by omega)]⟩
      case measure => simp [intOf]; omega
    · obtain rfl : k = L := by omega
      go_wp2
      go_ret
      refine ⟨?_, Ext.refl w⟩
      rw [show wordK bs k = wordOf bs from by unfold wordK; rw [← HL.out, List.take_length]]
      rfl
theorem refWord_calls (A : Option Addr) (c : Nat) (bs : List UInt8) (w : World) (hr : Rd w A (bytesV bs)) :
    Calls Tryz.prog 134 #[.slice A bs.length c] w fun e w' => e = .returned (.int .u64 ((wordOf bs).toNat : Int)) ∧ Ext w w' := by
  by_cases hn : bs.length < 8
  · exact refWordS_calls A c bs w hn hr
  · obtain ⟨g, o, rfl, hc⟩ := hr.at (bytesV_ne bs (by omega))
    have := refWord8_calls g o c bs.length (fun i => bs.getD i 0) w (by omega) (fun j hj => hc j _ (bytesV_at bs j (by omega)))
    rw [or8_eq] at this
    exact this
end Go.Proofs.YtneeclacmhhblaaGreat


namespace Go.Proofs.YtneeclacmhhblaaGreat
open Go.RowKit
attribute [local go_sem ↓] Go.wp_at_zero Go.wp_at_succ

def startS : UInt64 × UInt64 := (2611923443488327891, 1376283091369227076)
def sumTo (bs : List UInt8) : Nat → UInt64 × UInt64
  | 0 => startS
  | k + 1 => mixN 2 (xorU (sumTo bs k).1 (wordOf (bs.drop (8 * k))), (sumTo bs k).2)
def sumEnd (bs : List UInt8) : UInt64 × UInt64 := sumTo bs ((bs.length + 7) / 8)
def lenU (n : Nat) : UInt64 := UInt64.ofNat n
def sumFin (bs : List UInt8) : UInt64 × UInt64 := mixN 4 ((sumEnd bs).1, xorU (sumEnd bs).2 (lenU bs.length))
theorem xor_len (y : UInt64) (L : Nat) (h : L < 18446744073709551616) : bits .xor .u64 (y.toNat : Int) (L : Int) = ((xorU y (lenU L)).toNat : Int) := by
  rw [← u64_xor]
  unfold lenU
  rw [UInt64.toNat_ofNat_of_lt' h]
def sumN (bs : List UInt8) : UInt64 := xorU (sumFin bs).1 (sumFin bs).2

theorem word_calls_n (A : Option Addr) (c n : Nat) (bs : List UInt8) (w : World) (hn : bs.length = n) (hr : Rd w A (bytesV bs)) :
    Calls Tryz.prog 102 #[.slice A n c] w fun e w' => e = .returned (.int .u64 ((wordOf bs).toNat : Int)) ∧ Ext w w' := by
  subst hn; exact word_calls A c bs w hr
theorem refWord_calls_n (A : Option Addr) (c n : Nat) (bs : List UInt8) (w : World) (hn : bs.length = n) (hr : Rd w A (bytesV bs)) :
    Calls Tryz.prog 134 #[.slice A n c] w fun e w' => e = .returned (.int .u64 ((wordOf bs).toNat : Int)) ∧ Ext w w' := by
  subst hn; exact refWord_calls A c bs w hr
theorem mix_calls_n (g : Nat) (x y : UInt64) (m : Int) (h0 : 0 ≤ m) (h4 : m ≤ 4) (w : World) (hr : rowAt w g = some #[.int .u64 (x.toNat : Int), .int .u64 (y.toNat : Int)]) :
    Calls Tryz.prog 103 #[.pointer (some ⟨g, 0, none⟩), .int .i64 m] w fun e w' => e = .returned (.tuple #[]) ∧ rowAt w' g = some #[.int .u64 ((mixN m.toNat (x, y)).1.toNat : Int), .int .u64 ((mixN m.toNat (x, y)).2.toNat : Int)] ∧ Only g w w' := by
  obtain ⟨n, rfl⟩ := Int.eq_ofNat_of_zero_le h0
  exact mix_calls g (x, y) n w (by omega) hr
theorem addr_add (g o j : Nat) : (⟨g, o, none⟩ : Addr).add j = ⟨g, o + j, none⟩ := by unfold Addr.add; split <;> simp_all
theorem drop_bytes (bs : List UInt8) (k : Nat) : (bytesV bs).drop k = bytesV (bs.drop k) := by simp [bytesV, List.map_drop]

set_option maxHeartbeats 2000000 in
theorem sum_calls (A : Option Addr) (L c : Nat) (bs : List UInt8) (w : World) (hL : bs.length = L) (hlc : L ≤ c) (hlen : L ≤ 281474976710656) (hr : Rd w A (bytesV bs)) :
    Calls Tryz.prog 71 #[.slice A L c] w fun e w' => e = .returned (.agg (nameC (sumN bs))) ∧ Ext w w' := by
  have HL := Lib.hid hL
  clear hL
  go_enter Tryz.func71, Tryz.ntmps71
  go_wp2
  have E : Ext w ((w.alloc (.cells (nameC 0) 23)).alloc (.cells #[.int .u64 2611923443488327891, .int .u64 1376283091369227076] 145)) := by (repeat (first | exact Ext.refl _ | assumption | refine Ext.drew ?_ | refine Ext.drewN ?_ _ | refine Ext.alloc ?_ _ | refine Ext.trans ?_ (by assumption)))
  have R1 : rowAt ((w.alloc (.cells (nameC 0) 23)).alloc (.cells #[.int .u64 2611923443488327891, .int .u64 1376283091369227076] 145)) w.heap.size = some (nameC 0) := (rowAt_alloc _ _ _ (by simp)).trans (rowAt_new _ _ _ _ rfl)
  have R2 : rowAt ((w.alloc (.cells (nameC 0) 23)).alloc (.cells #[.int .u64 2611923443488327891, .int .u64 1376283091369227076] 145)) (w.heap.size + 1) = some #[.int .u64 2611923443488327891, .int .u64 1376283091369227076] := rowAt_new _ _ _ _ (by simp)
  generalize (w.alloc (.cells (nameC 0) 23)).alloc (.cells #[.int .u64 2611923443488327891, .int .u64 1376283091369227076] 145) = W at E R1 R2 ⊢
  go_loopw [4] (fun i wr => ∃ k j : Nat, j = 8 * k ∧ j < L + 8 ∧ i = .int .i64 (j : Int) ∧ rowAt wr w.heap.size = some (nameC 0) ∧ rowAt wr (w.heap.size + 1) = some #[.int .u64 ((sumTo bs k).1.toNat : Int), .int .u64 ((sumTo bs k).2.toNat : Int)] ∧ Ext w wr) (fun i _ => L + 8 - (intOf i).toNat)
  case atStart => exact ⟨0, 0, rfl, by omega, rfl, R1, R2, E⟩
  case round =>
    obtain ⟨k, j, hj, hk, rfl, r1, r2, e⟩ := hrel
    clear E R1 R2
    have HJ := Lib.hid hj
    by_cases hlt : j < L
    · have hnext : sumTo bs (k + 1) = mixN 2 (xorU (sumTo bs k).1 (wordOf (bs.drop (8 * k))), (sumTo bs k).2) := rfl
      rw [← hj] at hnext
      have HN := Lib.hid hnext
      clear hnext hj
      generalize hx : (sumTo bs k).1 = x at *
      generalize hy : (sumTo bs k).2 = y at *
      clear hx hy
      obtain ⟨g, o, rfl, hc⟩ := hr.at (bytesV_ne bs (by rw [HL.out]; omega))
      have hrd := (hr.keep e).drop j c (by rw [bytesV_length, HL.out]; omega) (by rw [bytesV_length, HL.out]; omega)
      rw [drop_bytes, if_neg (by omega), Option.map_some, addr_add] at hrd
      have HR := Lib.hid hrd
      have H2 := Lib.hid (show (bs.drop j).length = L - j by rw [List.length_drop, HL.out])
      clear hr hc hrd
      have i0 : (0 : Int) ≤ (j : Int) := by omega
      have i1 : (j : Int) ≤ (L : Int) := by omega
      have i2 : (L : Int) ≤ (c : Int) := by omega
      have i3 : ¬ c = j := by omega
      go_wp2
      go_region_with (go_at_call 102; refine (word_calls_n _ _ _ (bs.drop j) _ H2.out HR.out.drew).mono ?_; rintro e1 w1 ⟨rfl, hb⟩; replace r1 := rowAt_keep (w := wr.drew) r1 hb; replace r2 := rowAt_keep (w := wr.drew) r2 hb; replace e := Ext.trans e.drew hb; clear hb)
      all_goals
        have r3 : rowAt (w1.setCell ⟨w.heap.size + 1, 0, none⟩ (.int .u64 ((xorU x (wordOf (bs.drop j))).toNat : Int))) (w.heap.size + 1) = some #[.int .u64 ((xorU x (wordOf (bs.drop j))).toNat : Int), .int .u64 (y.toNat : Int)] := by simp [go_sem, r2]
        have r4 : rowAt (w1.setCell ⟨w.heap.size + 1, 0, none⟩ (.int .u64 ((xorU x (wordOf (bs.drop j))).toNat : Int))) w.heap.size = some (nameC 0) := (rowAt_far _ _ (by simp)).trans r1
        have e3 : Ext w (w1.setCell ⟨w.heap.size + 1, 0, none⟩ (.int .u64 ((xorU x (wordOf (bs.drop j))).toNat : Int))) := e.setCell (by simp) _
        generalize w1.setCell ⟨w.heap.size + 1, 0, none⟩ (.int .u64 ((xorU x (wordOf (bs.drop j))).toNat : Int)) = W1 at *
        generalize xorU x (wordOf (bs.drop j)) = z at *
        clear r1 r2 e
        go_wp2_with (go_at_call 103; refine (mix_calls_n _ _ _ _ (by decide) (by decide) _ r3).mono ?_; rintro e1 w2 ⟨rfl, r5, ho⟩; replace r4 := ho.row r4 (by simp); replace e3 := ho.ext e3 (by simp); clear ho r3)
        go_roundw
        case rel => exact ⟨k + 1, j + 8, by rw [HJ.out]; omega, by omega, by go_num, r4, by rw [HN.out]; exact r5, e3⟩
        case measure => simp [intOf]; omega
    · have hend : sumEnd bs = sumTo bs k := by unfold sumEnd; rw [HL.out, show (L + 7) / 8 = k from by omega]
      have hfin : sumFin bs = mixN 4 ((sumTo bs k).1, xorU (sumTo bs k).2 (lenU L)) := by unfold sumFin; rw [hend, HL.out]
      have hN : sumN bs = xorU (mixN 4 ((sumTo bs k).1, xorU (sumTo bs k).2 (lenU L))).1 (mixN 4 ((sumTo bs k).1, xorU (sumTo bs k).2 (lenU L))).2 := by unfold sumN; rw [hfin]
      generalize (sumTo bs k).1 = x at *
      generalize (sumTo bs k).2 = y at *
      have HS := Lib.hid hN
      clear hN hfin hend hj HJ hr
      have hxl := xor_len y L (by omega)
      go_upto_region 8 with (fail)
      have r3 : rowAt (wr.setCell ⟨w.heap.size + 1, 1, none⟩ (.int .u64 ((xorU y (lenU L)).toNat : Int))) (w.heap.size + 1) = some #[.int .u64 (x.toNat : Int), .int .u64 ((xorU y (lenU L)).toNat : Int)] := by simp [go_sem, r2]
      have r4 : rowAt (wr.setCell ⟨w.heap.size + 1, 1, none⟩ (.int .u64 ((xorU y (lenU L)).toNat : Int))) w.heap.size = some (nameC 0) := (rowAt_far _ _ (by simp)).trans r1
      have e3 : Ext w (wr.setCell ⟨w.heap.size + 1, 1, none⟩ (.int .u64 ((xorU y (lenU L)).toNat : Int))) := e.setCell (by simp) _
      clear hxl
      generalize wr.setCell ⟨w.heap.size + 1, 1, none⟩ (.int .u64 ((xorU y (lenU L)).toNat : Int)) = W1 at *
      clear r1 r2 e
      go_upto_region 9 with (go_at_call 103; refine (mix_calls_n _ _ _ _ (by decide) (by decide) _ r3).mono ?_; rintro e1 w2 ⟨rfl, r5, ho⟩; replace r4 := ho.row r4 (by simp); replace e3 := ho.ext e3 (by simp); clear ho r3)
      simp only [Int.reduceToNat] at r5
      generalize (mixN 4 (x, xorU y (lenU L))).1 = x2 at *
      generalize (mixN 4 (x, xorU y (lenU L))).2 = y2 at *
      go_wp2_with (go_at_call 104; refine (of_calls _ _).mono ?_; rintro e1 w3 ⟨rfl, hb⟩; replace r4 := rowAt_keep r4 hb; replace e3 := Ext.trans e3 hb; clear hb r5)
      rw [HS.out]
      refine bodyPost_ret (retName rfl _ _ (by simp [go_sem, r4])) rfl ⟨by simp [go_sem, r4], e3.setRow (Nat.le_refl _) _⟩

theorem mixN_next (n : Nat) (s : UInt64 × UInt64) : mixN (n + 1) s = mixU ((mixN n s).1, (mixN n s).2) := rfl
set_option maxHeartbeats 2000000 in
theorem refSum_calls (A : Option Addr) (L c : Nat) (bs : List UInt8) (w : World) (hL : bs.length = L) (hlc : L ≤ c) (hlen : L ≤ 281474976710656) (hr : Rd w A (bytesV bs)) :
    Calls Tryz.prog 105 #[.slice A L c] w fun e w' => e = .returned (.agg (nameC (sumN bs))) ∧ Ext w w' := by
  have HL := Lib.hid hL
  clear hL
  go_enter Tryz.func105, Tryz.ntmps105
  go_wp2
  have E : Ext w (w.alloc (.cells (nameC 0) 23)) := by (repeat (first | exact Ext.refl _ | assumption | refine Ext.drew ?_ | refine Ext.drewN ?_ _ | refine Ext.alloc ?_ _ | refine Ext.trans ?_ (by assumption)))
  have R1 : rowAt (w.alloc (.cells (nameC 0) 23)) w.heap.size = some (nameC 0) := rowAt_new _ _ _ _ rfl
  generalize w.alloc (.cells (nameC 0) 23) = W at E R1 ⊢
  go_loopw [3, 4, 5] (fun x y i wr => ∃ k j : Nat, j = 8 * k ∧ j < L + 8 ∧ i = .int .i64 (j : Int) ∧ x = .int .u64 ((sumTo bs k).1.toNat : Int) ∧ y = .int .u64 ((sumTo bs k).2.toNat : Int) ∧ rowAt wr w.heap.size = some (nameC 0) ∧ Ext w wr) (fun _ _ i _ => L + 8 - (intOf i).toNat)
  case atStart => exact ⟨0, 0, rfl, by omega, rfl, rfl, rfl, R1, E⟩
  case round =>
    obtain ⟨k, j, hj, hk, rfl, rfl, rfl, r1, e⟩ := hrel
    clear E R1
    have HJ := Lib.hid hj
    by_cases hlt : j < L
    · have hnext : sumTo bs (k + 1) = mixN 2 (xorU (sumTo bs k).1 (wordOf (bs.drop (8 * k))), (sumTo bs k).2) := rfl
      rw [← hj, mixN_next, mixN_next] at hnext
      have HN := Lib.hid hnext
      clear hnext hj
      generalize hx : (sumTo bs k).1 = x at *
      generalize hy : (sumTo bs k).2 = y at *
      clear hx hy
      obtain ⟨g, o, rfl, hc⟩ := hr.at (bytesV_ne bs (by rw [HL.out]; omega))
      have hrd := (hr.keep e).drop j c (by rw [bytesV_length, HL.out]; omega) (by rw [bytesV_length, HL.out]; omega)
      rw [drop_bytes, if_neg (by omega), Option.map_some, addr_add] at hrd
      have HR := Lib.hid hrd
      have H2 := Lib.hid (show (bs.drop j).length = L - j by rw [List.length_drop, HL.out])
      clear hr hc hrd
      have i0 : (0 : Int) ≤ (j : Int) := by omega
      have i1 : (j : Int) ≤ (L : Int) := by omega
      have i2 : (L : Int) ≤ (c : Int) := by omega
      have i3 : ¬ c = j := by omega
      go_wp2_with (first
        | (go_at_call 134; refine (refWord_calls_n _ _ _ (bs.drop j) _ H2.out HR.out).mono ?_; rintro e1 w1 ⟨rfl, hb⟩; replace r1 := rowAt_keep r1 hb; replace e := Ext.trans e hb; clear hb)
        | (go_at_call 135; refine (refMix_calls _ _ _).mono ?_; rintro e w' ⟨rfl, rfl⟩))
      go_roundw
      case rel => exact ⟨k + 1, j + 8, by rw [HJ.out]; omega, by omega, by go_num, by rw [HN.out]; rfl, by rw [HN.out]; rfl, r1, e⟩
      case measure => simp [intOf]; omega
    · have hend : sumEnd bs = sumTo bs k := by unfold sumEnd; rw [HL.out, show (L + 7) / 8 = k from by omega]
      have hfin : sumFin bs = mixN 4 ((sumTo bs k).1, xorU (sumTo bs k).2 (lenU L)) := by unfold sumFin; rw [hend, HL.out]
      have hN : sumN bs = xorU (mixN 4 ((sumTo bs k).1, xorU (sumTo bs k).2 (lenU L))).1 (mixN 4 ((sumTo bs k).1, xorU (sumTo bs k).2 (lenU L))).2 := by unfold sumN; rw [hfin]
      generalize (sumTo bs k).1 = x at *
      generalize (sumTo bs k).2 = y at *
      have HS := Lib.hid hN
      clear hN hfin hend hj HJ hr
      have hxl := xor_len y L (by omega)
      go_wp2
      clear hxl
      generalize xorU y (lenU L) = z at *
      go_loopw [3, 4, 6] (fun a b i wr' => ∃ n : Nat, n ≤ 4 ∧ i = .int .i64 (n : Int) ∧ a = .int .u64 ((mixN n (x, z)).1.toNat : Int) ∧ b = .int .u64 ((mixN n (x, z)).2.toNat : Int) ∧ wr' = wr) (fun _ _ i _ => 4 - (intOf i).toNat)
      case atStart => exact ⟨0, by omega, rfl, rfl, rfl, rfl⟩
      case round =>
        obtain ⟨n, hn, rfl, rfl, rfl, rfl⟩ := hrel
        by_cases hlt4 : n < 4
        · have HN := Lib.hid (mixN_next n (x, z))
          generalize (mixN n (x, z)).1 = a at *
          generalize (mixN n (x, z)).2 = b at *
          go_wp2_with (go_at_call 135; refine (refMix_calls _ _ _).mono ?_; rintro e w' ⟨rfl, rfl⟩)
          go_roundw
          case rel => exact ⟨n + 1, by omega, by go_num, by rw [HN.out], by rw [HN.out], trivial⟩
          case measure => simp [intOf]; omega
        · obtain rfl : n = 4 := by omega
          generalize (mixN 4 (x, z)).1 = a at *
          generalize (mixN 4 (x, z)).2 = b at *
          clear hlt4 hn
          go_wp2_with (go_at_call 136; refine (refOf_calls _ _).mono ?_; rintro e1 w3 ⟨rfl, hb⟩; replace r1 := rowAt_keep r1 hb; replace e := Ext.trans e hb; clear hb)
          rw [HS.out]
          refine bodyPost_ret (retName rfl _ _ (by simp [go_sem, r1])) rfl ⟨by simp [go_sem, r1], e.setRow (Nat.le_refl _) _⟩
end Go.Proofs.YtneeclacmhhblaaGreat


namespace Go.Proofs.YtneeclacmhhblaaGreat
open Go.RowKit
attribute [local go_sem ↓] Go.wp_at_zero Go.wp_at_succ

def tagN (tag : UInt8) (bs : List UInt8) : UInt64 := sumN (tag :: bs)
theorem len_47 {L : Nat} (h : L ≤ 140737488355000) : 1 + L ≤ 281474976710656 := by omega
theorem len_47' {L : Nat} (h : L ≤ 140737488355000) : (1 + L) * 1 ≤ 140737488355328 := by omega

set_option maxHeartbeats 1000000 in
theorem tagged_calls (tag : UInt8) (A : Option Addr) (L c : Nat) (bs : List UInt8) (w : World) (hL : bs.length = L) (hlen : L ≤ 140737488355000) (hr : Rd w A (bytesV bs)) :
    Calls Tryz.prog 35 #[.int .u8 (tag.toNat : Int), .slice A L c] w fun e w' => e = .returned (.agg (nameC (tagN tag bs))) ∧ Ext w w' := by
  have hmk := run_mk bytesT .i64 .i64 0 160 (by decide) (by decide) (by decide)
  have c1 := len_47 hlen
  have c2 := len_47' hlen
  have HL := Lib.hid hL
  clear hL hlen
  have tok1 : True := trivial
  go_enter Tryz.func35, Tryz.ntmps35
  go_upto_region 1 with (fail)
  have E : Ext w (w.alloc (.cells (nameC 0) 23)) := by (repeat (first | exact Ext.refl _ | assumption | refine Ext.drew ?_ | refine Ext.drewN ?_ _ | refine Ext.alloc ?_ _ | refine Ext.trans ?_ (by assumption)))
  have R1 : rowAt (w.alloc (.cells (nameC 0) 23)) w.heap.size = some (nameC 0) := rowAt_new _ _ _ _ (by simp)
  generalize (w.alloc (.cells (nameC 0) 23)) = W at E R1 ⊢
  have L1 := rowAt_lt R1
  have HR := Lib.hid (hr.keep E)
  clear hr
  go_wp2_with (first
    | (at_builtin; have _t := tok1; refine wpList_app bytesT ((World.ownsRow_made W _ 160 (Nat.le_refl _) (by decide) (by simp [size_madeCells])).alloc _) (Rd.whole (rowAt_new _ _ _ _ (by simp))) rfl (ones_cons rfl ones_nil) (by decide) (by simp <;> omega) rfl _ _ rfl rfl rfl ?_; intro A1 c1' w1 hown1 hb1 _ _; have E1 : Ext W w1 := Ext.then (by (repeat (first | exact Ext.refl _ | assumption | refine Ext.drew ?_ | refine Ext.drewN ?_ _ | refine Ext.alloc ?_ _ | refine Ext.trans ?_ (by assumption)))) hb1; simp only [Nat.zero_add, List.nil_append] at hown1; clear tok1 _t hb1)
    | (at_builtin; refine wpList_app bytesT hown1 (HR.out.keep E1) (by rw [bytesV_length, HL.out]; simp) (ones_bytes bs) c2 E1.size rfl _ _ rfl rfl rfl ?_; intro A2 c2' w2 hown2 hb2 _ _; have E2 : Ext W w2 := E1.then hb2; clear hb2 hown1)
    | (go_at_call 71; refine (sum_calls A2 (1 + L) c2' (tag :: bs) _ (by rw [List.length_cons, HL.out]; omega) (own_cap hown2).1 c1 (Rd.of_own hown2)).mono ?_; rintro e w3 ⟨rfl, hb3⟩; have E3 := E2.trans hb3; have R3 := rowAt_keep R1 E3; clear hown2 hb3))
  refine bodyPost_ret (retName rfl _ _ (by simp [go_sem, R3])) rfl ⟨by simp [go_sem, R3]; rfl, (E.trans E3).setRow (Nat.le_refl _) _⟩
set_option maxHeartbeats 1000000 in
theorem refTagged_calls (tag : UInt8) (A : Option Addr) (L c : Nat) (bs : List UInt8) (w : World) (hL : bs.length = L) (hlen : L ≤ 140737488355000) (hr : Rd w A (bytesV bs)) :
    Calls Tryz.prog 72 #[.int .u8 (tag.toNat : Int), .slice A L c] w fun e w' => e = .returned (.agg (nameC (tagN tag bs))) ∧ Ext w w' := by
  have hmk := run_mk bytesT .i64 .i64 0 160 (by decide) (by decide) (by decide)
  have c1 := len_47 hlen
  have c2 := len_47' hlen
  have HL := Lib.hid hL
  clear hL hlen
  have tok1 : True := trivial
  go_enter Tryz.func72, Tryz.ntmps72
  go_upto_region 1 with (fail)
  have E : Ext w (w.alloc (.cells (nameC 0) 23)) := by (repeat (first | exact Ext.refl _ | assumption | refine Ext.drew ?_ | refine Ext.drewN ?_ _ | refine Ext.alloc ?_ _ | refine Ext.trans ?_ (by assumption)))
  have R1 : rowAt (w.alloc (.cells (nameC 0) 23)) w.heap.size = some (nameC 0) := rowAt_new _ _ _ _ (by simp)
  generalize (w.alloc (.cells (nameC 0) 23)) = W at E R1 ⊢
  have L1 := rowAt_lt R1
  have HR := Lib.hid (hr.keep E)
  clear hr
  go_wp2_with (first
    | (at_builtin; have _t := tok1; refine wpList_app bytesT ((World.ownsRow_made W _ 160 (Nat.le_refl _) (by decide) (by simp [size_madeCells])).alloc _) (Rd.whole (rowAt_new _ _ _ _ (by simp))) rfl (ones_cons rfl ones_nil) (by decide) (by simp <;> omega) rfl _ _ rfl rfl rfl ?_; intro A1 c1' w1 hown1 hb1 _ _; have E1 : Ext W w1 := Ext.then (by (repeat (first | exact Ext.refl _ | assumption | refine Ext.drew ?_ | refine Ext.drewN ?_ _ | refine Ext.alloc ?_ _ | refine Ext.trans ?_ (by assumption)))) hb1; simp only [Nat.zero_add, List.nil_append] at hown1; clear tok1 _t hb1)
    | (at_builtin; refine wpList_app bytesT hown1 (HR.out.keep E1) (by rw [bytesV_length, HL.out]; simp) (ones_bytes bs) c2 E1.size rfl _ _ rfl rfl rfl ?_; intro A2 c2' w2 hown2 hb2 _ _; have E2 : Ext W w2 := E1.then hb2; clear hb2 hown1)
    | (go_at_call 105; refine (refSum_calls A2 (1 + L) c2' (tag :: bs) _ (by rw [List.length_cons, HL.out]; omega) (own_cap hown2).1 c1 (Rd.of_own hown2)).mono ?_; rintro e w3 ⟨rfl, hb3⟩; have E3 := E2.trans hb3; have R3 := rowAt_keep R1 E3; clear hown2 hb3))
  refine bodyPost_ret (retName rfl _ _ (by simp [go_sem, R3])) rfl ⟨by simp [go_sem, R3]; rfl, (E.trans E3).setRow (Nat.le_refl _) _⟩

def z16 : Array Value := Array.replicate 16 (.int .u8 0)
theorem z16_size : z16.size = 16 := by simp [z16]
theorem alloc16 (dst : Option Tmp) (ty : TypeId) (pos : String) (after : Array Edge) (gd : Option (Nat × Bool)) (ρ : Operand → Value) (w : World) :
    (execOp ρ ⟨dst, .alloc 166, ty, pos, after, gd⟩).run Tryz.prog w = .ok (.value (.pointer (some ⟨w.heap.size, 0, none⟩))) (w.alloc (.cells z16 166)) := by kernel_rfl
attribute [local go_sem ↓] alloc16
def pair1 (x : UInt64) : Array Value := (bytesV (nameB x) ++ List.replicate 8 (Value.int .u8 0)).toArray
def pair2 (x y : UInt64) : Array Value := (bytesV (nameB x ++ nameB y)).toArray
theorem pair1_size (x : UInt64) : (pair1 x).size = 16 := by simp [pair1, bytesV, nameB]
theorem splice1 (x : UInt64) : spliceA z16 0 ((nameC x).toList.take 16).toArray = pair1 x := by
  simp [spliceA, z16, pair1, nameC_toList, bytesV, nameB]
theorem splice2 (x y : UInt64) : spliceA (pair1 x) 8 ((nameC y).toList.take 8).toArray = pair2 x y := by
  simp [spliceA, pair1, pair2, nameC_toList, bytesV, nameB]
theorem pair2_toList (x y : UInt64) : (pair2 x y).toList = bytesV (nameB x ++ nameB y) := by simp [pair2]
set_option maxHeartbeats 1000000 in
theorem pair_calls (tag : UInt8) (x y : UInt64) (w : World) :
    Calls Tryz.prog 97 #[.int .u8 (tag.toNat : Int), .agg (nameC x), .agg (nameC y)] w fun e w' => e = .returned (.agg (nameC (tagN tag (nameB x ++ nameB y)))) ∧ Ext w w' := by
  go_enter Tryz.func97, Tryz.ntmps97
  go_upto_region 2 with (fail)
  have E : Ext w ((((w.alloc (.cells (nameC x) 23)).alloc (.cells (nameC y) 23)).alloc (.cells (nameC 0) 23)).alloc (.cells (z16) 166)) := by (repeat (first | exact Ext.refl _ | assumption | refine Ext.drew ?_ | refine Ext.drewN ?_ _ | refine Ext.alloc ?_ _ | refine Ext.trans ?_ (by assumption)))
  have R1 : rowAt ((((w.alloc (.cells (nameC x) 23)).alloc (.cells (nameC y) 23)).alloc (.cells (nameC 0) 23)).alloc (.cells (z16) 166)) w.heap.size = some (nameC x) := (rowAt_alloc _ _ _ (by simp <;> omega)).trans ((rowAt_alloc _ _ _ (by simp <;> omega)).trans ((rowAt_alloc _ _ _ (by simp <;> omega)).trans (rowAt_new _ _ _ _ (by simp))))
  have R2 : rowAt ((((w.alloc (.cells (nameC x) 23)).alloc (.cells (nameC y) 23)).alloc (.cells (nameC 0) 23)).alloc (.cells (z16) 166)) (w.heap.size + 1) = some (nameC y) := (rowAt_alloc _ _ _ (by simp <;> omega)).trans ((rowAt_alloc _ _ _ (by simp <;> omega)).trans (rowAt_new _ _ _ _ (by simp)))
  have R3 : rowAt ((((w.alloc (.cells (nameC x) 23)).alloc (.cells (nameC y) 23)).alloc (.cells (nameC 0) 23)).alloc (.cells (z16) 166)) (w.heap.size + 1 + 1) = some (nameC 0) := (rowAt_alloc _ _ _ (by simp <;> omega)).trans (rowAt_new _ _ _ _ (by simp))
  have R4 : rowAt ((((w.alloc (.cells (nameC x) 23)).alloc (.cells (nameC y) 23)).alloc (.cells (nameC 0) 23)).alloc (.cells (z16) 166)) (w.heap.size + 1 + 1 + 1) = some (z16) := rowAt_new _ _ _ _ (by simp)
  generalize ((((w.alloc (.cells (nameC x) 23)).alloc (.cells (nameC y) 23)).alloc (.cells (nameC 0) 23)).alloc (.cells (z16) 166)) = W at E R1 R2 R3 R4 ⊢
  have L1 := rowAt_lt R1
  have L2 := rowAt_lt R2
  have L3 := rowAt_lt R3
  have L4 := rowAt_lt R4
  have hc1 := fun ty => run_cp (P := Tryz.prog) (w := W.drew) (sT := 64) (ty := ty) (dl := 16) (dc := 16) (c := 8) (n := 8) Tryz.underlying64 (by kernel_rfl) (g := w.heap.size + 1 + 1 + 1) (o := 0) R4 (Rd.whole (w := W.drew) R1) rfl (ones_nameC x) (by simp [z16_size]) _ (splice1 x)
  go_wp2
  go_region
  have E1 : Ext w (W.drew.setRow (w.heap.size + 1 + 1 + 1) (pair1 x)) := E.drew.setRow (by omega) _
  have Q2 : rowAt (W.drew.setRow (w.heap.size + 1 + 1 + 1) (pair1 x)) (w.heap.size + 1) = some (nameC y) := (rowAt_setRow_far _ _ _ _ (by omega)).trans R2
  have Q3 : rowAt (W.drew.setRow (w.heap.size + 1 + 1 + 1) (pair1 x)) (w.heap.size + 1 + 1) = some (nameC 0) := (rowAt_setRow_far _ _ _ _ (by omega)).trans R3
  have Q4 : rowAt (W.drew.setRow (w.heap.size + 1 + 1 + 1) (pair1 x)) (w.heap.size + 1 + 1 + 1) = some (pair1 x) := rowAt_setRow _ _ _ (show (rowAt W _).isSome = true by rw [R4]; rfl)
  clear hc1 E R1 R2 R3 R4 L1 L2 L3 L4
  generalize W.drew.setRow (w.heap.size + 1 + 1 + 1) (pair1 x) = W1 at *
  have hc2 := fun ty => run_cp (P := Tryz.prog) (w := W1.drew) (sT := 64) (ty := ty) (dl := 8) (dc := 8) (c := 8) (n := 8) Tryz.underlying64 (by kernel_rfl) (g := w.heap.size + 1 + 1 + 1) (o := 8) Q4 (Rd.whole (w := W1.drew) Q2) rfl (ones_nameC y) (by simp [pair1_size]) _ (splice2 x y)
  go_wp2
  go_region
  have E2 : Ext w (W1.drew.setRow (w.heap.size + 1 + 1 + 1) (pair2 x y)) := E1.drew.setRow (by omega) _
  have P3 : rowAt (W1.drew.setRow (w.heap.size + 1 + 1 + 1) (pair2 x y)) (w.heap.size + 1 + 1) = some (nameC 0) := (rowAt_setRow_far _ _ _ _ (by omega)).trans Q3
  have P4 : rowAt (W1.drew.setRow (w.heap.size + 1 + 1 + 1) (pair2 x y)) (w.heap.size + 1 + 1 + 1) = some (pair2 x y) := rowAt_setRow _ _ _ (show (rowAt W1 _).isSome = true by rw [Q4]; rfl)
  clear hc2 E1 Q2 Q3 Q4
  generalize W1.drew.setRow (w.heap.size + 1 + 1 + 1) (pair2 x y) = W2 at *
  have hrd := Rd.whole P4
  rw [pair2_toList] at hrd
  have c1 := tagged_calls tag (some ⟨w.heap.size + 1 + 1 + 1, 0, none⟩) 16 16 (nameB x ++ nameB y) W2 (by simp [nameB_length]) (by decide) hrd
  generalize ht : tagN tag (nameB x ++ nameB y) = t at c1
  have HT := Lib.hid ht
  have C1 := Lib.hid c1
  clear c1 hrd ht
  go_wp2_with (go_at_call 35; refine C1.out.mono ?_; rintro e w3 ⟨rfl, hb3⟩; have E3 := E2.trans hb3; have R3 := rowAt_keep P3 hb3; clear hb3)
  refine bodyPost_ret (retName rfl _ _ (by simp [go_sem, R3])) rfl ⟨by rw [HT.out]; simp [go_sem, R3], E3.setRow (by omega) _⟩

structure HashSpec (S : List UInt8 → UInt64) : Prop where
  sum : ∀ (A : Option Addr) (L c : Nat) (bs : List UInt8) (w : World), bs.length = L → L ≤ c → L ≤ 281474976710656 → Rd w A (bytesV bs) →
    Calls Tryz.prog 71 #[.slice A L c] w fun e w' => e = .returned (.agg (nameC (S bs))) ∧ Ext w w'
  tagged : ∀ (tag : UInt8) (A : Option Addr) (L c : Nat) (bs : List UInt8) (w : World), bs.length = L → L ≤ 140737488355000 → Rd w A (bytesV bs) →
    Calls Tryz.prog 35 #[.int .u8 (tag.toNat : Int), .slice A L c] w fun e w' => e = .returned (.agg (nameC (S (tag :: bs)))) ∧ Ext w w'
  pair : ∀ (tag : UInt8) (x y : UInt64) (w : World),
    Calls Tryz.prog 97 #[.int .u8 (tag.toNat : Int), .agg (nameC x), .agg (nameC y)] w fun e w' => e = .returned (.agg (nameC (S (tag :: (nameB x ++ nameB y))))) ∧ Ext w w'
  refSum : ∀ (A : Option Addr) (L c : Nat) (bs : List UInt8) (w : World), bs.length = L → L ≤ c → L ≤ 281474976710656 → Rd w A (bytesV bs) →
    Calls Tryz.prog 105 #[.slice A L c] w fun e w' => e = .returned (.agg (nameC (S bs))) ∧ Ext w w'
  refTagged : ∀ (tag : UInt8) (A : Option Addr) (L c : Nat) (bs : List UInt8) (w : World), bs.length = L → L ≤ 140737488355000 → Rd w A (bytesV bs) →
    Calls Tryz.prog 72 #[.int .u8 (tag.toNat : Int), .slice A L c] w fun e w' => e = .returned (.agg (nameC (S (tag :: bs)))) ∧ Ext w w'
end Go.Proofs.YtneeclacmhhblaaGreat


namespace Go.Proofs.YtneeclacmhhblaaGreat
open Go.RowKit

structure HashF (S : List UInt8 → UInt64) : Prop where
  sum : ∀ (bs : List UInt8) (n : Nat) (f : Bool), bs.length = n → n ≤ 281474976710656 → Fresh Tryz.prog 71 [.ex n f (byA bs)] (fun _ => .v (.agg (nameC (S bs)))) []
  tagged : ∀ (tag : UInt8) (bs : List UInt8) (n : Nat) (f : Bool), bs.length = n → n ≤ 140737488355000 → Fresh Tryz.prog 35 [.v (.int .u8 (tag.toNat : Int)), .ex n f (byA bs)] (fun _ => .v (.agg (nameC (S (tag :: bs))))) []
  pair : ∀ (tag : UInt8) (x y : UInt64), Fresh Tryz.prog 97 [.v (.int .u8 (tag.toNat : Int)), .v (.agg (nameC x)), .v (.agg (nameC y))] (fun _ => .v (.agg (nameC (S (tag :: (nameB x ++ nameB y)))))) []
  refSum : ∀ (bs : List UInt8) (n : Nat) (f : Bool), bs.length = n → n ≤ 281474976710656 → Fresh Tryz.prog 105 [.ex n f (byA bs)] (fun _ => .v (.agg (nameC (S bs)))) []
  refTagged : ∀ (tag : UInt8) (bs : List UInt8) (n : Nat) (f : Bool), bs.length = n → n ≤ 140737488355000 → Fresh Tryz.prog 72 [.v (.int .u8 (tag.toNat : Int)), .ex n f (byA bs)] (fun _ => .v (.agg (nameC (S (tag :: bs))))) []
theorem sum_f (bs : List UInt8) (n : Nat) (f : Bool) (h : bs.length = n) (hn : n ≤ 281474976710656) : Fresh Tryz.prog 71 [.ex n f (byA bs)] (fun _ => .v (.agg (nameC (sumN bs)))) [] := .of_calls fun w xs E hw hx => by
  obtain ⟨x, rfl, h1⟩ := arg1 hx
  obtain ⟨A, c, rfl, hc, hr⟩ := ex_bytes h1
  subst hw
  exact sum_calls A n c bs E.w h hc hn hr
theorem refSum_f (bs : List UInt8) (n : Nat) (f : Bool) (h : bs.length = n) (hn : n ≤ 281474976710656) : Fresh Tryz.prog 105 [.ex n f (byA bs)] (fun _ => .v (.agg (nameC (sumN bs)))) [] := .of_calls fun w xs E hw hx => by
  obtain ⟨x, rfl, h1⟩ := arg1 hx
  obtain ⟨A, c, rfl, hc, hr⟩ := ex_bytes h1
  subst hw
  exact refSum_calls A n c bs E.w h hc hn hr
theorem tagged_f (tag : UInt8) (bs : List UInt8) (n : Nat) (f : Bool) (h : bs.length = n) (hn : n ≤ 140737488355000) : Fresh Tryz.prog 35 [.v (.int .u8 (tag.toNat : Int)), .ex n f (byA bs)] (fun _ => .v (.agg (nameC (sumN (tag :: bs))))) [] := .of_calls fun w xs E hw hx => by
  obtain ⟨x, y, rfl, h1, h2⟩ := arg2 hx
  obtain ⟨A, c, rfl, hc, hr⟩ := ex_bytes h2
  rw [h1.v_inv]
  subst hw
  exact tagged_calls tag A n c bs E.w h hn hr
theorem refTagged_f (tag : UInt8) (bs : List UInt8) (n : Nat) (f : Bool) (h : bs.length = n) (hn : n ≤ 140737488355000) : Fresh Tryz.prog 72 [.v (.int .u8 (tag.toNat : Int)), .ex n f (byA bs)] (fun _ => .v (.agg (nameC (sumN (tag :: bs))))) [] := .of_calls fun w xs E hw hx => by
  obtain ⟨x, y, rfl, h1, h2⟩ := arg2 hx
  obtain ⟨A, c, rfl, hc, hr⟩ := ex_bytes h2
  rw [h1.v_inv]
  subst hw
  exact refTagged_calls tag A n c bs E.w h hn hr
theorem pair_f (tag : UInt8) (x y : UInt64) : Fresh Tryz.prog 97 [.v (.int .u8 (tag.toNat : Int)), .v (.agg (nameC x)), .v (.agg (nameC y))] (fun _ => .v (.agg (nameC (sumN (tag :: (nameB x ++ nameB y)))))) [] := .of_calls fun w xs E hw hx => by
  obtain ⟨a, b, c, rfl, h1, h2, h3⟩ := arg3 hx
  rw [h1.v_inv, h2.v_inv, h3.v_inv]
  exact pair_calls tag x y w
theorem hashF : HashF sumN := ⟨sum_f, tagged_f, pair_f, refSum_f, refTagged_f⟩
end Go.Proofs.YtneeclacmhhblaaGreat


namespace Go.Proofs.YtneeclacmhhblaaGreat
open Go.RowKit

def cellC (k i : Int) (n : UInt64) : Array Value := #[.int .i64 k, .int .i64 i,
  .int .u8 ((nb n 7).toNat : Int), .int .u8 ((nb n 6).toNat : Int), .int .u8 ((nb n 5).toNat : Int), .int .u8 ((nb n 4).toNat : Int), .int .u8 ((nb n 3).toNat : Int), .int .u8 ((nb n 2).toNat : Int), .int .u8 ((nb n 1).toNat : Int), .int .u8 ((nb n 0).toNat : Int)]
def deltaC (k i : Int) (n : UInt64) (a : Int) : Array Value := #[.int .i64 k, .int .i64 i,
  .int .u8 ((nb n 7).toNat : Int), .int .u8 ((nb n 6).toNat : Int), .int .u8 ((nb n 5).toNat : Int), .int .u8 ((nb n 4).toNat : Int), .int .u8 ((nb n 3).toNat : Int), .int .u8 ((nb n 2).toNat : Int), .int .u8 ((nb n 1).toNat : Int), .int .u8 ((nb n 0).toNat : Int), .int .i64 a]
def lockC (n h : UInt64) (o t u : Int) : Array Value := #[
  .int .u8 ((nb n 7).toNat : Int), .int .u8 ((nb n 6).toNat : Int), .int .u8 ((nb n 5).toNat : Int), .int .u8 ((nb n 4).toNat : Int), .int .u8 ((nb n 3).toNat : Int), .int .u8 ((nb n 2).toNat : Int), .int .u8 ((nb n 1).toNat : Int), .int .u8 ((nb n 0).toNat : Int),
  .int .u8 ((nb h 7).toNat : Int), .int .u8 ((nb h 6).toNat : Int), .int .u8 ((nb h 5).toNat : Int), .int .u8 ((nb h 4).toNat : Int), .int .u8 ((nb h 3).toNat : Int), .int .u8 ((nb h 2).toNat : Int), .int .u8 ((nb h 1).toNat : Int), .int .u8 ((nb h 0).toNat : Int),
  .int .i64 o, .int .i64 t, .int .i64 u]
structure Cl where
  k : Int
  i : Int
  n : UInt64
deriving DecidableEq
structure Dl where
  k : Int
  i : Int
  n : UInt64
  a : Int
deriving DecidableEq
structure Lk where
  n : UInt64
  h : UInt64
  o : Int
  t : Int
  u : Int
deriving DecidableEq
structure Stt where
  cells : List Dl
  seqs : List Int
  locks : List Lk
  applied : List UInt64
  guilty : Int
def dA (d : Dl) : List AV := (deltaC d.k d.i d.n d.a).toList.map .v
def dsA (l : List Dl) : List AV := l.flatMap dA
def lA (d : Lk) : List AV := (lockC d.n d.h d.o d.t d.u).toList.map .v
def lsA (l : List Lk) : List AV := l.flatMap lA
def stA (s : Stt) : AV := .ag [.ex s.cells.length false (dsA s.cells), .ex s.seqs.length false (inA s.seqs), .ex s.locks.length false (lsA s.locks), .ex s.applied.length false (byA (flat s.applied)), .v (.int .i64 s.guilty)]
def stO (s : Stt) : Nat → AV := fun k => .ag [.sl k s.cells.length, .sl (k + 1) s.seqs.length, .sl (k + 2) s.locks.length, .sl (k + 3) s.applied.length, .v (.int .i64 s.guilty)]
def stB (s : Stt) : List ABlk := [⟨dsA s.cells, 138, 11⟩, ⟨inA s.seqs, 3, 1⟩, ⟨lsA s.locks, 141, 19⟩, ⟨byA (flat s.applied), 23, 8⟩]
theorem dsA_vals (l : List Dl) : dsA l = (l.flatMap fun d => (deltaC d.k d.i d.n d.a).toList).map .v := by rw [List.map_flatMap]; rfl
theorem lsA_vals (l : List Lk) : lsA l = (l.flatMap fun d => (lockC d.n d.h d.o d.t d.u).toList).map .v := by rw [List.map_flatMap]; rfl
instance (l : List Dl) : CloL (dsA l) := by rw [dsA_vals]; infer_instance
instance (l : List Dl) : ValL (dsA l) := by rw [dsA_vals]; infer_instance
instance (l : List Lk) : CloL (lsA l) := by rw [lsA_vals]; infer_instance
instance (l : List Lk) : ValL (lsA l) := by rw [lsA_vals]; infer_instance
instance (d : Dl) : CloL (dA d) := CloL.vals _
instance (d : Dl) : ValL (dA d) := ValL.vals _
instance (d : Lk) : CloL (lA d) := CloL.vals _
instance (d : Lk) : ValL (lA d) := ValL.vals _
theorem dA_length (d : Dl) : (dA d).length = 11 := rfl
theorem lA_length (d : Lk) : (lA d).length = 19 := rfl
theorem dsA_length (l : List Dl) : (dsA l).length = l.length * 11 := by
  induction l with
  | nil => rfl
  | cons d l ih => rw [dsA, List.flatMap_cons, List.length_append, dA_length]; rw [dsA] at ih; rw [ih, List.length_cons]; omega
theorem lsA_length (l : List Lk) : (lsA l).length = l.length * 19 := by
  induction l with
  | nil => rfl
  | cons d l ih => rw [lsA, List.flatMap_cons, List.length_append, lA_length]; rw [lsA] at ih; rw [ih, List.length_cons]; omega
theorem dsA_cons (d : Dl) (l : List Dl) : dsA (d :: l) = dA d ++ dsA l := rfl
theorem lsA_cons (d : Lk) (l : List Lk) : lsA (d :: l) = lA d ++ lsA l := rfl
theorem dsA_append (a b : List Dl) : dsA (a ++ b) = dsA a ++ dsA b := by simp [dsA]
theorem dA_ones (d : Dl) : (dA d).all AV.one = true := rfl
theorem lA_ones (d : Lk) : (lA d).all AV.one = true := rfl
theorem dsA_ones (l : List Dl) : (dsA l).all AV.one = true := by
  induction l with
  | nil => rfl
  | cons d l ih => rw [dsA_cons, List.all_append, ih, dA_ones]; rfl
theorem lsA_ones (l : List Lk) : (lsA l).all AV.one = true := by
  induction l with
  | nil => rfl
  | cons d l ih => rw [lsA_cons, List.all_append, ih, lA_ones]; rfl
instance (l : List Dl) : OneL (dsA l) := ⟨dsA_ones l⟩
instance (l : List Lk) : OneL (lsA l) := ⟨lsA_ones l⟩
theorem dsA_take : ∀ (l : List Dl) (i : Nat), (dsA l).take (i * 11) = dsA (l.take i)
  | _, 0 => by simp [dsA]
  | [], i + 1 => by simp [dsA]
  | d :: l, i + 1 => by rw [dsA_cons, List.take_succ_cons, dsA_cons, Nat.succ_mul, Nat.add_comm, ← dA_length d, List.take_length_add_append, dA_length, dsA_take l i]
theorem dsA_drop : ∀ (l : List Dl) (i : Nat), (dsA l).drop (i * 11) = dsA (l.drop i)
  | _, 0 => by simp
  | [], i + 1 => by simp [dsA]
  | d :: l, i + 1 => by rw [dsA_cons, List.drop_succ_cons, Nat.succ_mul, Nat.add_comm, ← dA_length d, List.drop_length_add_append, dA_length, dsA_drop l i]
theorem lsA_drop : ∀ (l : List Lk) (i : Nat), (lsA l).drop (i * 19) = lsA (l.drop i)
  | _, 0 => by simp
  | [], i + 1 => by simp [lsA]
  | d :: l, i + 1 => by rw [lsA_cons, List.drop_succ_cons, Nat.succ_mul, Nat.add_comm, ← lA_length d, List.drop_length_add_append, lA_length, lsA_drop l i]
theorem drop_of {α : Type} {l : List α} {i : Nat} {x : α} (h : l[i]? = some x) : l.drop i = x :: l.drop (i + 1) := by
  obtain ⟨hi, e⟩ := List.getElem?_eq_some_iff.1 h
  rw [List.drop_eq_getElem_cons hi, e]
theorem ds_at {l : List Dl} {i : Nat} {d : Dl} (h : l[i]? = some d) : (dsA l).drop (i * 11) = dA d ++ dsA (l.drop (i + 1)) := by rw [dsA_drop, drop_of h, dsA_cons]
theorem ls_at {l : List Lk} {i : Nat} {d : Lk} (h : l[i]? = some d) : (lsA l).drop (i * 19) = lA d ++ lsA (l.drop (i + 1)) := by rw [lsA_drop, drop_of h, lsA_cons]
theorem ds_ne {l : List Dl} {i : Nat} (h : i < l.length) : dsA l ≠ [] := fun e => by have := dsA_length l; rw [e] at this; simp at this; omega
theorem ls_ne {l : List Lk} {i : Nat} (h : i < l.length) : lsA l ≠ [] := fun e => by have := lsA_length l; rw [e] at this; simp at this; omega
theorem agu_d {l : List Dl} {i : Nat} {d : Dl} (h : l[i]? = some d) : agu (.v (.agg (deltaC d.k d.i d.n d.a))) (((dsA l).drop (i * 11)).take 11) := by
  rw [ds_at h]; exact agu_v (deltaC d.k d.i d.n d.a)
theorem agu_l {l : List Lk} {i : Nat} {d : Lk} (h : l[i]? = some d) : agu (.v (.agg (lockC d.n d.h d.o d.t d.u))) (((lsA l).drop (i * 19)).take 19) := by
  rw [ls_at h]; exact agu_v (lockC d.n d.h d.o d.t d.u)
theorem agu_dc {l : List Dl} {i : Nat} {d : Dl} (h : l[i]? = some d) : agu (.v (.agg (cellC d.k d.i d.n))) ((((dsA l).drop (i * 11)).drop 0).take 10) := by
  rw [ds_at h]; exact agu_v (cellC d.k d.i d.n)
theorem d_amt {l : List Dl} {i : Nat} {d : Dl} (h : l[i]? = some d) : (((dsA l).drop (i * 11)).drop 10)[0]? = some (.v (.int .i64 d.a)) := by
  rw [ds_at h]; rfl
theorem d_amt' {l : List Dl} {i : Nat} {d : Dl} (h : l[i]? = some d) : (dsA l)[i * 11 + 10]? = some (.v (.int .i64 d.a)) := by
  have := d_amt h
  rwa [List.drop_drop, List.getElem?_drop, Nat.add_zero] at this
theorem cell_eq (k i k' i' : Int) (n n' : UInt64) (w : World) : (Op.equal 136 (.agg (cellC k i n)) (.agg (cellC k' i' n'))).run Tryz.prog w = .ok (decide (k = k' ∧ i = i' ∧ n = n')) w := by
  have hI := Tryz.underlying3
  have hN := Tryz.underlying23
  have key : EqFs Tryz.prog w 9999 (cellC k i n) (cellC k' i' n') (Tryz.prog.fieldsOf 136).toList [k == k', i == i', n == n'] := by
    simp only [Program.fieldsOf, Tryz.underlying136]
    refine .cons (by decide) (part_int hI rfl) (part_int hI rfl) (run_equalIn_int w _ _ _ _ _ _ hI) ?_
    refine .cons (by decide) (part_int hI rfl) (part_int hI rfl) (run_equalIn_int w _ _ _ _ _ _ hI) ?_
    refine .cons (by decide) (part_name (v := n) hN (by kernel_rfl) rfl) (part_name (v := n') hN (by kernel_rfl) rfl) (run_eq_name w 9997 hN (by kernel_rfl) Tryz.underlying5 (by kernel_rfl) _ _) ?_
    exact .nil
  have h := run_equalIn_struct (P := Tryz.prog) w 9999 136 (cellC k i n) (cellC k' i' n') (by kernel_rfl) (by kernel_rfl)
  rw [key.run] at h
  refine h.trans (congrArg (fun b => Result.ok b w) ?_)
  rw [Bool.eq_iff_iff]
  simp [Bool.and_eq_true]
instance (k i k' i' : Int) (n n' : UInt64) : EqR Tryz.prog 136 (cellC k i n) (cellC k' i' n') (decide (k = k' ∧ i = i' ∧ n = n')) := ⟨by kernel_rfl, cell_eq k i k' i' n n'⟩
end Go.Proofs.YtneeclacmhhblaaGreat


namespace Go.Proofs.YtneeclacmhhblaaGreat
open Go.RowKit
open Nat (reduceAdd reduceMul reduceSub)

def cmpI (x y : Int) : Int := if x < y then -1 else if y < x then 1 else 0
def cmpN (a b : UInt64) : Int := cmpI (a.toNat : Int) (b.toNat : Int)
def cmpC (k i : Int) (n : UInt64) (k' i' : Int) (n' : UInt64) : Int := if cmpI k k' ≠ 0 then cmpI k k' else if cmpI i i' ≠ 0 then cmpI i i' else cmpN n n'
theorem isNaNU_ok (x : UInt64) : Fresh Tryz.prog 152 [.v (.int .u64 (x.toNat : Int))] (fun _ => .v (.bool false)) [] := by
  apply Fresh.bool
  · refine Fresh.of (fn := Tryz.f152) Tryz.func152 rfl (lb rfl) fun w => ?_
    (
 apply Gol.sr; apply t0; exact sA rfl; dsimp only [reduceAdd, reduceMul]; exact dn; exact rfl; apply Gol.sr; apply t0; exact sM rfl; apply t0
 exact sM rfl; apply t0; exact s_nen rfl rfl; apply t0; exact sA rfl; dsimp only [reduceAdd, reduceMul]; exact dn; exact rfl; refine Gol.ret ?_)
    (apply RetQ.mk (by first | exact .inr rfl | exact .inl rfl); apply res_1 rfl; exact res_tmp rfl; exact out_val)
  · simp
theorem compareU_ok (x y : UInt64) : Fresh Tryz.prog 139 [.v (.int .u64 (x.toNat : Int)), .v (.int .u64 (y.toNat : Int))] (fun _ => .v (.int .i64 (cmpN x y))) [] := by
  refine Fresh.of (fn := Tryz.f139) Tryz.func139 rfl (lb rfl) fun w => ?_
  (
 apply Gol.sr; apply t0; exact sA rfl; dsimp only [reduceAdd, reduceMul]; exact dn; exact rfl; apply Gol.sr; apply t0; exact sM rfl; apply tq
 exact s_call (f := 152) rfl (eC rfl eN) (aC aL aN) (isNaNU_ok x) (lb rfl); dsimp only [reduceAdd, reduceMul, reduceSub, na, ca, nbk, mc, ml]
 apply t0; exact sA rfl; dsimp only [reduceAdd, reduceMul]; exact dn; exact rfl; apply Gol.sr; apply t0; exact sM rfl; apply tq; exact s_call (f := 152) rfl (eC rfl eN) (aC aL aN) (isNaNU_ok y) (lb rfl)
 dsimp only [reduceAdd, reduceMul, reduceSub, na, ca, nbk, mc, ml]; apply t0; exact sA rfl
 dsimp only [reduceAdd, reduceMul]; exact dn; exact rfl; refine Gol.seq ?_; apply Gol.sr; apply t0; exact sM rfl; dsimp only [reduceAdd, reduceMul]
 exact dn; exact rfl)
  refine Gol.cond_f rfl rfl ?_
  (
 refine Gol.skip ?_; refine thn_n ?_; refine Gol.seq ?_; apply Gol.sr; apply t0; exact sM rfl; dsimp only [reduceAdd, reduceMul]
 exact dn; exact rfl)
  refine Gol.cond_f rfl rfl ?_
  (
 refine Gol.skip ?_; refine thn_n ?_; refine Gol.seq ?_; apply Gol.sr; apply t0; exact sM rfl; apply t0
 exact sM rfl; apply t0; exact s_ltn rfl rfl; dsimp only [reduceAdd, reduceMul]; exact dn; exact rfl)
  refine Gol.cond rfl (fun h => ?_) (fun h => ?_)
  · have h1 : (x.toNat : Int) < (y.toNat : Int) := by have := of_decide_eq_true h; omega
    rw [cmpN, cmpI, if_pos h1]
    (apply Gol.sr; apply t0; exact sA rfl; dsimp only [reduceAdd, reduceMul]; exact dn; exact rfl; refine Gol.ret ?_; refine thn_r ?_)
    (apply RetQ.mk (by first | exact .inr rfl | exact .inl rfl); apply res_1 rfl; exact res_tmp rfl; exact out_val)
  · have h1 : ¬ (x.toNat : Int) < (y.toNat : Int) := by have := of_decide_eq_false h; omega
    (
 refine Gol.skip ?_; refine thn_n ?_; refine Gol.seq ?_; apply Gol.sr; apply t0; exact sM rfl; apply t0
 exact sM rfl; apply t0; exact s_gtn rfl rfl; dsimp only [reduceAdd, reduceMul]; exact dn; exact rfl)
    refine Gol.cond rfl (fun h => ?_) (fun h => ?_)
    · have h2 : (y.toNat : Int) < (x.toNat : Int) := by have := of_decide_eq_true h; omega
      rw [cmpN, cmpI, if_neg h1, if_pos h2]
      (apply Gol.sr; apply t0; exact sA rfl; dsimp only [reduceAdd, reduceMul]; exact dn; exact rfl; refine Gol.ret ?_; refine thn_r ?_)
      (apply RetQ.mk (by first | exact .inr rfl | exact .inl rfl); apply res_1 rfl; exact res_tmp rfl; exact out_val)
    · have h2 : ¬ (y.toNat : Int) < (x.toNat : Int) := by have := of_decide_eq_false h; omega
      rw [cmpN, cmpI, if_neg h1, if_neg h2]
      (
 refine Gol.skip ?_; refine thn_n ?_; apply Gol.sr; apply t0; exact sA rfl; dsimp only [reduceAdd, reduceMul]
 exact dn; exact rfl; refine Gol.ret ?_)
      (apply RetQ.mk (by first | exact .inr rfl | exact .inl rfl); apply res_1 rfl; exact res_tmp rfl; exact out_val)
theorem number_f (n : UInt64) : Fresh Tryz.prog 132 [.v (.agg (nameC n))] (fun _ => .v (.int .u64 (n.toNat : Int))) [] := .of_calls fun w xs E hw hx => by
  obtain ⟨x, rfl, h1⟩ := arg1 hx
  rw [h1.v_inv]
  exact number_calls n w
theorem refCompareI_ok (x y : Int) : Fresh Tryz.prog 153 [.v (.int .i64 x), .v (.int .i64 y)] (fun _ => .v (.int .i64 (cmpI x y))) [] := by
  refine Fresh.of (fn := Tryz.f153) Tryz.func153 rfl (lb rfl) fun w => ?_
  (
 apply Gol.sr; apply t0; exact sA rfl; dsimp only [reduceAdd, reduceMul]; exact dn; exact rfl; refine Gol.seq ?_; apply Gol.sr
 apply t0; exact sM rfl; apply t0; exact sM rfl; apply t0; exact s_lt rfl rfl; dsimp only [reduceAdd, reduceMul]; exact dn; exact rfl)
  refine Gol.cond rfl (fun h => ?_) (fun h => ?_)
  · have h1 : x < y := of_decide_eq_true h
    rw [cmpI, if_pos h1]
    (apply Gol.sr; apply t0; exact sA rfl; dsimp only [reduceAdd, reduceMul]; exact dn; exact rfl; refine Gol.ret ?_; refine thn_r ?_)
    (apply RetQ.mk (by first | exact .inr rfl | exact .inl rfl); apply res_1 rfl; exact res_tmp rfl; exact out_val)
  · have h1 : ¬ x < y := of_decide_eq_false h
    (
 refine Gol.skip ?_; refine thn_n ?_; refine Gol.seq ?_; apply Gol.sr; apply t0; exact sM rfl; apply t0
 exact sM rfl; apply t0; exact s_gt rfl rfl; dsimp only [reduceAdd, reduceMul]; exact dn; exact rfl)
    refine Gol.cond rfl (fun h => ?_) (fun h => ?_)
    · have h2 : y < x := of_decide_eq_true h
      rw [cmpI, if_neg h1, if_pos h2]
      (apply Gol.sr; apply t0; exact sA rfl; dsimp only [reduceAdd, reduceMul]; exact dn; exact rfl; refine Gol.ret ?_; refine thn_r ?_)
      (apply RetQ.mk (by first | exact .inr rfl | exact .inl rfl); apply res_1 rfl; exact res_tmp rfl; exact out_val)
    · have h2 : ¬ y < x := of_decide_eq_false h
      rw [cmpI, if_neg h1, if_neg h2]
      (
 refine Gol.skip ?_; refine thn_n ?_; apply Gol.sr; apply t0; exact sA rfl; dsimp only [reduceAdd, reduceMul]
 exact dn; exact rfl; refine Gol.ret ?_)
      (apply RetQ.mk (by first | exact .inr rfl | exact .inl rfl); apply res_1 rfl; exact res_tmp rfl; exact out_val)
theorem refLess_f (a b : UInt64) : Fresh Tryz.prog 48 [.v (.agg (nameC a)), .v (.agg (nameC b))] (fun _ => .v (.bool (decide (a.toNat < b.toNat)))) [] := .of_calls fun w xs E hw hx => by
  obtain ⟨x, y, rfl, h1, h2⟩ := arg2 hx
  rw [h1.v_inv, h2.v_inv]
  exact refLess_calls a b w
theorem refCompareNames_ok (a b : UInt64) : Fresh Tryz.prog 154 [.v (.agg (nameC a)), .v (.agg (nameC b))] (fun _ => .v (.int .i64 (cmpN a b))) [] := by
  refine Fresh.of (fn := Tryz.f154) Tryz.func154 rfl (lb rfl) fun w => ?_
  (
 apply Gol.sr; apply t1; exact s_box rfl rfl; apply t1; exact s_box rfl rfl; apply t0; exact sA rfl; dsimp only [reduceAdd, reduceMul]; exact dn
 exact rfl; refine Gol.seq ?_; apply Gol.sr; apply t0; exact s_loadW rfl rfl rfl (agu_cuv _); apply t0; exact s_loadW rfl rfl rfl (agu_cuv _)
 apply tq; exact s_call (f := 48) rfl (eC rfl (eC rfl eN)) (aC aL (aC aL aN)) (refLess_f a b) (lb rfl)
 dsimp only [reduceAdd, reduceMul, reduceSub, na, ca, nbk, mc, ml]; exact dn; exact rfl)
  refine Gol.cond rfl (fun h => ?_) (fun h => ?_)
  · have h1 : (a.toNat : Int) < (b.toNat : Int) := by have := of_decide_eq_true h; omega
    rw [cmpN, cmpI, if_pos h1]
    (apply Gol.sr; apply t0; exact sA rfl; dsimp only [reduceAdd, reduceMul]; exact dn; exact rfl; refine Gol.ret ?_; refine thn_r ?_)
    (apply RetQ.mk (by first | exact .inr rfl | exact .inl rfl); apply res_1 rfl; exact res_tmp rfl; exact out_val)
  · have h1 : ¬ (a.toNat : Int) < (b.toNat : Int) := by have := of_decide_eq_false h; omega
    (
 refine Gol.skip ?_; refine thn_n ?_; refine Gol.seq ?_; apply Gol.sr; apply t0; exact s_loadW rfl rfl rfl (agu_cuv _)
 apply t0; exact s_loadW rfl rfl rfl (agu_cuv _); apply tq; exact s_call (f := 48) rfl (eC rfl (eC rfl eN)) (aC aL (aC aL aN)) (refLess_f b a) (lb rfl)
 dsimp only [reduceAdd, reduceMul, reduceSub, na, ca, nbk, mc, ml]; exact dn; exact rfl)
    refine Gol.cond rfl (fun h => ?_) (fun h => ?_)
    · have h2 : (b.toNat : Int) < (a.toNat : Int) := by have := of_decide_eq_true h; omega
      rw [cmpN, cmpI, if_neg h1, if_pos h2]
      (apply Gol.sr; apply t0; exact sA rfl; dsimp only [reduceAdd, reduceMul]; exact dn; exact rfl; refine Gol.ret ?_; refine thn_r ?_)
      (apply RetQ.mk (by first | exact .inr rfl | exact .inl rfl); apply res_1 rfl; exact res_tmp rfl; exact out_val)
    · have h2 : ¬ (b.toNat : Int) < (a.toNat : Int) := by have := of_decide_eq_false h; omega
      rw [cmpN, cmpI, if_neg h1, if_neg h2]
      (
 refine Gol.skip ?_; refine thn_n ?_; apply Gol.sr; apply t0; exact sA rfl; dsimp only [reduceAdd, reduceMul]
 exact dn; exact rfl; refine Gol.ret ?_)
      (apply RetQ.mk (by first | exact .inr rfl | exact .inl rfl); apply res_1 rfl; exact res_tmp rfl; exact out_val)
theorem refCompare_ok (k i k' i' : Int) (n n' : UInt64) : Fresh Tryz.prog 144 [.v (.agg (cellC k i n)), .v (.agg (cellC k' i' n'))] (fun _ => .v (.int .i64 (cmpC k i n k' i' n'))) [] := by
  refine Fresh.of (fn := Tryz.f144) Tryz.func144 rfl (lb rfl) fun w => ?_
  (
 apply Gol.sr; apply t1; exact s_box rfl rfl; apply t1; exact s_box rfl rfl; apply t0; exact sA rfl; dsimp only [reduceAdd, reduceMul]; exact dn
 exact rfl; refine Gol.seq ?_; apply Gol.sr; apply t0; exact sF rfl; apply t0; exact s_load rfl rfl rfl; apply t0; exact sF rfl
 apply t0; exact s_load rfl rfl rfl; apply tq; exact s_call (f := 153) rfl (eC rfl (eC rfl eN)) (aC aL (aC aL aN)) (refCompareI_ok k k') (lb rfl)
 dsimp only [reduceAdd, reduceMul, reduceSub, na, ca, nbk, mc, ml]; apply t0; exact sA rfl
 dsimp only [reduceAdd, reduceMul]; exact dn; exact rfl; apply Gol.sr; apply t0; exact sM rfl; apply t0; exact s_ne rfl rfl; dsimp only [reduceAdd, reduceMul]
 exact dn; exact rfl)
  refine Gol.cond rfl (fun h => ?_) (fun h => ?_)
  · have h1 : cmpI k k' ≠ 0 := by simpa using h
    rw [cmpC, if_pos h1]
    (
 apply Gol.sr; apply t0; exact sM rfl; apply t0; exact sA rfl; dsimp only [reduceAdd, reduceMul]; exact dn; exact rfl; refine Gol.ret ?_
 refine thn_r ?_)
    (apply RetQ.mk (by first | exact .inr rfl | exact .inl rfl); apply res_1 rfl; exact res_tmp rfl; exact out_val)
  · have h1 : ¬ cmpI k k' ≠ 0 := by simpa using h
    (
 refine Gol.skip ?_; refine thn_n ?_; refine Gol.seq ?_; apply Gol.sr; apply t0; exact sF rfl
 apply t0; exact s_load rfl rfl rfl; apply t0; exact sF rfl; apply t0; exact s_load rfl rfl rfl; apply tq; exact s_call (f := 153) rfl (eC rfl (eC rfl eN)) (aC aL (aC aL aN)) (refCompareI_ok i i') (lb rfl)
 dsimp only [reduceAdd, reduceMul, reduceSub, na, ca, nbk, mc, ml]; apply t0; exact sA rfl
 dsimp only [reduceAdd, reduceMul]; exact dn; exact rfl; apply Gol.sr; apply t0; exact sM rfl; apply t0; exact s_ne rfl rfl; dsimp only [reduceAdd, reduceMul]
 exact dn; exact rfl)
    refine Gol.cond rfl (fun h => ?_) (fun h => ?_)
    · have h2 : cmpI i i' ≠ 0 := by simpa using h
      rw [cmpC, if_neg h1, if_pos h2]
      (
 apply Gol.sr; apply t0; exact sM rfl; apply t0; exact sA rfl; dsimp only [reduceAdd, reduceMul]; exact dn; exact rfl; refine Gol.ret ?_
 refine thn_r ?_)
      (apply RetQ.mk (by first | exact .inr rfl | exact .inl rfl); apply res_1 rfl; exact res_tmp rfl; exact out_val)
    · have h2 : ¬ cmpI i i' ≠ 0 := by simpa using h
      rw [cmpC, if_neg h1, if_neg h2]
      (
 refine Gol.skip ?_; refine thn_n ?_; apply Gol.sr; apply t0; exact sF rfl; apply t0; exact s_loadN rfl rfl (lb rfl) (agu_nm8 rfl)
 apply t0; exact sF rfl; apply t0; exact s_loadN rfl rfl (lb rfl) (agu_nm8 rfl); apply tq; exact s_call (f := 154) rfl (eC rfl (eC rfl eN)) (aC aL (aC aL aN)) (refCompareNames_ok n n') (lb rfl)
 dsimp only [reduceAdd, reduceMul, reduceSub, na, ca, nbk, mc, ml]; apply t0; exact sA rfl
 dsimp only [reduceAdd, reduceMul]; exact dn; exact rfl; refine Gol.ret ?_)
      (apply RetQ.mk (by first | exact .inr rfl | exact .inl rfl); apply res_1 rfl; exact res_tmp rfl; exact out_val)
end Go.Proofs.YtneeclacmhhblaaGreat


namespace Go.Proofs.YtneeclacmhhblaaGreat
open Go.RowKit

def fIx {α : Type} (p : α → Bool) : List α → Nat → Int
  | [], _ => -1
  | a :: l, i => if p a then (i : Int) else fIx p l (i + 1)
theorem fIx_hit {α : Type} {p : α → Bool} {l : List α} {i : Nat} {a : α} (h : l[i]? = some a) (hp : p a = true) : fIx p (l.drop i) i = (i : Int) := by rw [drop_of h, fIx, if_pos hp]
theorem fIx_miss {α : Type} {p : α → Bool} {l : List α} {i : Nat} {a : α} (h : l[i]? = some a) (hp : p a = false) : fIx p (l.drop i) i = fIx p (l.drop (i + 1)) (i + 1) := by rw [drop_of h, fIx, if_neg (by simp [hp])]
def eqC (k i : Int) (n : UInt64) (d : Dl) : Bool := decide (d.k = k ∧ d.i = i ∧ d.n = n)
end Go.Proofs.YtneeclacmhhblaaGreat


namespace Go.Proofs.YtneeclacmhhblaaGreat
open Go.RowKit

theorem Sta.drop {w0 : World} {M : Mod} {H : AH} {E : Env} (h : Sta w0 M H E) {b : Nat} {blk : ABlk} {g : Nat} (hb : hk H b = some blk) (hg : (E.L b).g = some g) (w' : World) (hsz : w'.heap.size = E.w.heap.size) (hkeep : ∀ g', g' ≠ g → w'.heap[g']? = E.w.heap[g']?)
    (ho : w'.os = E.w.os) (ht : w'.tape = E.w.tape) (hp : w'.output = E.w.output) :
    Sta w0 M ((b, none) :: H) { E with w := w', S := fun g' => E.S g' ∧ g' ≠ g } ∧ E.le { E with w := w', S := fun g' => E.S g' ∧ g' ≠ g } := by
  have hSg : E.S g := h.S_of hb hg
  have hle : E.le { E with w := w', S := fun g' => E.S g' ∧ g' ≠ g } := ⟨by simp [hsz], fun g' _ hS => hkeep g' (fun e => hS (e ▸ hSg)), fun _ _ h => h.1, fun _ h => ⟨h, rfl⟩⟩
  obtain ⟨o1, o2, o3⟩ := h.own b blk hb
  have hno : ∀ b' blk', hk ((b, none) :: H) b' = some blk' → b' ≠ b ∧ hk H b' = some blk' := by
    intro b' blk' hb'
    rw [hk_cons] at hb'
    split at hb'
    · cases hb'
    · rename_i e; exact ⟨fun e' => e e'.symm, hb'⟩
  refine ⟨⟨ho.trans h.os, ht.trans h.tape, hp.trans h.output, by simp only [hsz]; exact h.size, fun g' hg' hM => ?_, fun g' => ⟨?_, ?_⟩, ?_, ?_, h.hid, h.pin_le hle⟩, hle⟩
  · refine (hkeep g' (fun e => ?_)).trans (h.frame g' hg' hM)
    subst e
    rcases o2 g' hg with h' | h'
    · omega
    · exact hM h'
  · rintro ⟨hS, hne⟩
    rcases (h.seq g').1 hS with ⟨b', blk', hb', e⟩ | hh
    · refine .inl ⟨b', blk', ?_, e⟩
      rw [hk_cons, if_neg (fun q => hne ?_)]
      · exact hb'
      · subst q; rw [hg] at e; injection e with e; exact e.symm
    · exact .inr hh
  · rintro (⟨b', blk', hb', e⟩ | hh)
    case' inr => exact ⟨(h.seq g').2 (.inr hh), fun q => h.nhid hb hg (q ▸ hh)⟩
    obtain ⟨hne, hb''⟩ := hno b' blk' hb'
    exact ⟨h.S_of hb'' e, fun q => hne (h.inj b' b blk' blk g' hb'' hb e (by rw [hg, q]))⟩
  · intro b' blk' hb'
    obtain ⟨hne, hb''⟩ := hno b' blk' hb'
    obtain ⟨p1, p2, p3⟩ := h.own b' blk' hb''
    exact ⟨p1, p2, p3.mono hle (fun g' e => hkeep g' (fun q => hne (h.inj b' b blk' blk g' hb'' hb e (by rw [hg, q]))))⟩
  · intro b1 b2 k1 k2 g' h1 h2 e1 e2
    exact h.inj b1 b2 k1 k2 g' (hno b1 k1 h1).2 (hno b2 k2 h2).2 e1 e2
section
variable {P : Program} {k : Nat} {H : AH} {T : AT} {d : Option Tmp} {ty t t' : TypeId} {ps : String} {af : Array Edge} {gd : Option (Nat × Bool)} {x y : Operand}
theorem s_rem {k1 : IntKind} {a b : Int} (hx : ev T x = some (.v (.int k1 a))) (hy : ev T y = some (.v (.int k1 b))) (h : b ≠ 0) : StepU P ⟨d, .binOp .rem t x y t', ty, ps, af, gd⟩ k [] H T (.v (.int k1 (a.tmod b))) [] :=
  s_bin hx hy fun w => by
    simp only [guard_int, binOp, Op.intDiv, Sem.run_bind, Result.andThen_ok, ne_eq, not_true_eq_false, if_false, h, Sem.run_pure]
theorem s_quon {i j : Nat} (hx : ev T x = some (.v (.int .i64 (i : Int)))) (hy : ev T y = some (.v (.int .i64 (j : Int)))) (h : 0 < j) (hi : i ≤ 9223372036854775807) : StepU P ⟨d, .binOp .quo t x y t', ty, ps, af, gd⟩ k [] H T (.v (.int .i64 ((i / j : Nat) : Int))) [] :=
  s_bin hx hy fun w => by
    have hn : ¬ ((j : Int) = 0) := by omega
    have e : Int.tdiv (i : Int) (j : Int) = ((i / j : Nat) : Int) := rfl
    have hd : i / j ≤ i := Nat.div_le_self _ _
    simp only [guard_int, binOp, Op.intDiv, Sem.run_bind, Result.andThen_ok, ne_eq, not_true_eq_false, if_false, hn, Sem.run_pure, e]
    generalize i / j = q at hd
    rw [i64w (by omega)]
end
theorem Fresh.sub {P : Program} {f : FuncId} {cs ds : List AV} {v : Nat → AV} {bs : List ABlk} (h : Fresh P f cs v bs) (hs : ∀ E xs, RVs E ds xs → RVs E cs xs) : Fresh P f ds v bs := fun E0 xs hS hD hx => h E0 xs hS hD (hs E0 xs hx)
theorem rv_nil {E : Env} {f : Bool} {x : Value} (h : RV E (.v (.slice none 0 0)) x) : RV E (.ex 0 f []) x := by
  rw [h.v_inv]; exact .ex0 0 f none 0 (Nat.le_refl _) (fun _ => rfl)
theorem sub_nil {f : Bool} {us : List AV} (E : Env) (xs : List Value) (h : RVs E (.v (.slice none 0 0) :: us) xs) : RVs E (.ex 0 f [] :: us) xs := by
  obtain ⟨x, ys, rfl, h1, h2⟩ := h.cons_inv
  exact RVs.cons (rv_nil h1) h2
theorem sub_nil2 {f : Bool} {u : AV} {us : List AV} (E : Env) (xs : List Value) (h : RVs E (u :: .v (.slice none 0 0) :: us) xs) : RVs E (u :: .ex 0 f [] :: us) xs := by
  obtain ⟨x, ys, rfl, h1, h2⟩ := h.cons_inv
  exact RVs.cons h1 (sub_nil E ys h2)
end Go.Proofs.YtneeclacmhhblaaGreat


namespace Go.Proofs.YtneeclacmhhblaaGreat
open Go.RowKit
section
variable {P : Program} {t e : TypeId} {size bytes : Nat} {z : Value}
end
section
variable {P : Program} {t e : TypeId} {size bytes : Nat} {z : Value} {k : Nat} {H : AH} {T : AT} {d : Option Tmp} {ty : TypeId} {ps : String} {af : Array Edge} {gd : Option (Nat × Bool)}
end
end Go.Proofs.YtneeclacmhhblaaGreat


namespace Go.Proofs.YtneeclacmhhblaaGreat
open Go.RowKit
open Nat (reduceAdd reduceMul reduceSub)

def spl2 (n k : Nat) : Nat := if k < n - k ∧ 0 < k then spl2 n (2 * k) else k
termination_by n - k
decreasing_by omega
def splitN (n : Nat) : Nat := spl2 n 1
theorem spl2_step {n k : Nat} (h : k < n - k) (h0 : 0 < k) : spl2 n k = spl2 n (2 * k) := by rw [spl2, if_pos ⟨h, h0⟩]
theorem spl2_end {n k : Nat} (h : ¬ k < n - k) : spl2 n k = k := by rw [spl2, if_neg (fun q => h q.1)]
theorem spl2_bd (n : Nat) : ∀ (m k : Nat), n - k ≤ m → 0 < k → k < n → 0 < spl2 n k ∧ spl2 n k < n ∧ n ≤ 2 * spl2 n k := by
  intro m
  induction m with
  | zero => intro k h h0 hk; omega
  | succ m ih =>
    intro k h h0 hk
    by_cases hc : k < n - k
    · rw [spl2_step hc h0]; exact ih (2 * k) (by omega) (by omega) (by omega)
    · rw [spl2_end hc]; exact ⟨h0, hk, by omega⟩
theorem split_bd (n : Nat) (h : 2 ≤ n) : 0 < splitN n ∧ splitN n < n ∧ n ≤ 2 * splitN n := spl2_bd n n 1 (by omega) (by decide) (by omega)
theorem split_ok (n : Nat) (h : 1 ≤ n) (hb : n ≤ 9223372036854775807) : Fresh Tryz.prog 96 [.v (.int .i64 (n : Int))] (fun _ => .v (.int .i64 (splitN n : Int))) [] := by
  refine Fresh.of (fn := Tryz.f96) Tryz.func96 rfl (lb rfl) fun w => ?_
  (
 apply Gol.sr; apply t0; exact sA rfl; dsimp only [reduceAdd, reduceMul]; exact dn; exact rfl; apply Gol.sr; apply t0; exact sA rfl
 dsimp only [reduceAdd, reduceMul]; exact dn; exact rfl; refine Gol.seq ?_; refine Gol.block ?_)
  refine Gol.loop (ι := Nat) (fun k => 0 < k ∧ k ≤ n ∧ spl2 n k = splitN n) (fun k => n - k) 8 (fun k => []) (fun k => [(3, .v (.int .i64 (k : Int))), (0, .v (.int .i64 (n : Int)))]) 1 ⟨by decide, h, rfl⟩ ?_ ?_
  · (apply Le.mk' []; apply RnT.c; exact rfl; exact Rn.v rfl; apply RnT.c; exact rfl; exact Rn.v rfl; exact RnT.n; exact RnH.n; exact rfl; exact rfl)
  rintro k ⟨h0, h1, h2⟩
  (
 refine Gol.seq ?_; apply Gol.sr; apply t0; exact sM rfl; apply t0; exact sM rfl; apply t0; exact sM rfl; apply t0; exact s_subn rfl rfl (by omega) (by omega)
 apply t0; exact s_ltn rfl rfl; dsimp only [reduceAdd, reduceMul]; exact dn; exact rfl)
  refine Gol.cond rfl (fun h => ?_) (fun h => ?_)
  · have hlt : k < n - k := of_decide_eq_true h
    (
 refine Gol.skip ?_; refine thn_n ?_; refine Gol.block ?_; apply Gol.region; apply t0
 exact sM rfl; apply t0; exact s_muln rfl rfl (by simp <;> omega); apply t0; exact sA rfl; dsimp only [reduceAdd, reduceMul]; exact dn
 exact rfl; refine inBlk_n ?_)
    refine rnd_n (2 * k) ⟨by omega, by omega, by rw [← h2, spl2_step hlt h0]⟩ (by omega) ?_
    (apply Le.mk' []; apply RnT.c; exact rfl; apply Rn.v; congr 1; omega; apply RnT.c; exact rfl; exact Rn.v rfl; exact RnT.n; exact RnH.n; exact rfl; exact rfl)
  · have hge : ¬ k < n - k := of_decide_eq_false h
    rw [← h2, spl2_end hge]
    (
 refine Gol.exit ?_; refine thn_x ?_; refine rnd_x ?_; refine inBlk_hit ?_; refine thn_n ?_
 apply Gol.sr; apply t0; exact sM rfl; apply t0; exact sA rfl; dsimp only [reduceAdd, reduceMul]; exact dn; exact rfl; refine Gol.ret ?_)
    (apply RetQ.mk (by first | exact .inr rfl | exact .inl rfl); apply res_1 rfl; exact res_tmp rfl; exact out_val)
theorem refSplit_ok (n : Nat) (h : 1 ≤ n) (hb : n ≤ 9223372036854775807) : Fresh Tryz.prog 106 [.v (.int .i64 (n : Int))] (fun _ => .v (.int .i64 (splitN n : Int))) [] := by
  refine Fresh.of (fn := Tryz.f106) Tryz.func106 rfl (lb rfl) fun w => ?_
  (
 apply Gol.sr; apply t0; exact sA rfl; dsimp only [reduceAdd, reduceMul]; exact dn; exact rfl; apply Gol.sr; apply t0; exact sA rfl
 dsimp only [reduceAdd, reduceMul]; exact dn; exact rfl; refine Gol.seq ?_; refine Gol.block ?_)
  refine Gol.loop (ι := Nat) (fun k => 0 < k ∧ k ≤ n ∧ spl2 n k = splitN n) (fun k => n - k) 8 (fun k => []) (fun k => [(3, .v (.int .i64 (k : Int))), (0, .v (.int .i64 (n : Int)))]) 1 ⟨by decide, h, rfl⟩ ?_ ?_
  · (apply Le.mk' []; apply RnT.c; exact rfl; exact Rn.v rfl; apply RnT.c; exact rfl; exact Rn.v rfl; exact RnT.n; exact RnH.n; exact rfl; exact rfl)
  rintro k ⟨h0, h1, h2⟩
  (
 refine Gol.seq ?_; apply Gol.sr; apply t0; exact sM rfl; apply t0; exact sM rfl; apply t0; exact sM rfl; apply t0; exact s_subn rfl rfl (by omega) (by omega)
 apply t0; exact s_ltn rfl rfl; dsimp only [reduceAdd, reduceMul]; exact dn; exact rfl)
  refine Gol.cond rfl (fun h => ?_) (fun h => ?_)
  · have hlt : k < n - k := of_decide_eq_true h
    (
 refine Gol.skip ?_; refine thn_n ?_; refine Gol.block ?_; apply Gol.region; apply t0
 exact sM rfl; apply t0; exact s_muln rfl rfl (by simp <;> omega); apply t0; exact sA rfl; dsimp only [reduceAdd, reduceMul]; exact dn
 exact rfl; refine inBlk_n ?_)
    refine rnd_n (2 * k) ⟨by omega, by omega, by rw [← h2, spl2_step hlt h0]⟩ (by omega) ?_
    (apply Le.mk' []; apply RnT.c; exact rfl; exact Rn.v rfl; apply RnT.c; exact rfl; exact Rn.v rfl; exact RnT.n; exact RnH.n; exact rfl; exact rfl)
  · have hge : ¬ k < n - k := of_decide_eq_false h
    rw [← h2, spl2_end hge]
    (
 refine Gol.exit ?_; refine thn_x ?_; refine rnd_x ?_; refine inBlk_hit ?_; refine thn_n ?_
 apply Gol.sr; apply t0; exact sM rfl; apply t0; exact sA rfl; dsimp only [reduceAdd, reduceMul]; exact dn; exact rfl; refine Gol.ret ?_)
    (apply RetQ.mk (by first | exact .inr rfl | exact .inl rfl); apply res_1 rfl; exact res_tmp rfl; exact out_val)
theorem flat_cons (a : UInt64) (l : List UInt64) : flat (a :: l) = nameB a ++ flat l := rfl
theorem flat_take8 : ∀ (l : List UInt64) (k : Nat), (flat l).take (k * 8) = flat (l.take k)
  | _, 0 => by simp [flat]
  | [], k + 1 => by simp [flat]
  | a :: l, k + 1 => by rw [flat_cons, List.take_succ_cons, flat_cons, Nat.succ_mul, Nat.add_comm, ← nameB_length a, List.take_length_add_append, nameB_length, flat_take8 l k]
theorem flat_drop8 : ∀ (l : List UInt64) (k : Nat), (flat l).drop (k * 8) = flat (l.drop k)
  | _, 0 => by simp
  | [], k + 1 => by simp [flat]
  | a :: l, k + 1 => by rw [flat_cons, List.drop_succ_cons, Nat.succ_mul, Nat.add_comm, ← nameB_length a, List.drop_length_add_append, nameB_length, flat_drop8 l k]
theorem seg_lo (l : List UInt64) (k : Nat) : List.take ((k - 0) * 8) (List.drop 0 (byA (flat l))) = byA (flat (l.take k)) := by rw [Nat.sub_zero, List.drop_zero, byA_take, flat_take8]
theorem seg_hi (l : List UInt64) (k n : Nat) (h : l.length = n) : List.take ((n - k) * 8) (List.drop (k * 8) (byA (flat l))) = byA (flat (l.drop k)) := by
  rw [byA_drop, flat_drop8, List.take_of_length_le (by rw [byA_length, flat_length, List.length_drop, h]; exact Nat.le_refl _)]
section
variable (S : List UInt8 → UInt64)
theorem take_lt {l : List UInt64} (h : 2 ≤ l.length) : (l.take (splitN l.length)).length < l.length := by have := split_bd _ h; simp; omega
theorem drop_lt {l : List UInt64} (h : 2 ≤ l.length) : (l.drop (splitN l.length)).length < l.length := by have := split_bd _ h; simp; omega
def rootN (l : List UInt64) : UInt64 := if h : 2 ≤ l.length then S (0x12 :: (nameB (rootN (l.take (splitN l.length))) ++ nameB (rootN (l.drop (splitN l.length))))) else if l.length = 1 then S (0x11 :: nameB (l.getD 0 0)) else S [0x10]
termination_by l.length
decreasing_by
  · exact take_lt h
  · exact drop_lt h
variable (hS : HashF S)
include hS
theorem single_ok (a : UInt64) : Fresh Tryz.prog 95 [.v (.agg (nameC a))] (fun _ => .v (.agg (nameC (S (0x11 :: nameB a))))) [] := by
  refine Fresh.of (fn := Tryz.f95) Tryz.func95 rfl (lb rfl) fun w => ?_
  (
 apply Gol.sr; apply t1; exact s_box rfl rfl; apply t1; exact s_alloc; dsimp only [reduceAdd, reduceMul]; exact dn; exact rfl; apply Gol.sr; apply t0
 exact s_slA rfl rfl rfl rfl (by simp) (by omega) (by omega) (by omega); apply tq; exact s_call (f := 35) rfl (eC rfl (eC rfl eN)) (aC aL (aC (arg_name rfl rfl) aN)) (hS.tagged 0x11 (nameB a) _ _ rfl (by decide)) (lb rfl)
 dsimp only [reduceAdd, reduceMul, reduceSub, na, ca, nbk, mc, ml]; apply n1; exact s_storeW rfl rfl rfl rfl rfl rfl
 dsimp only [reduceAdd, reduceMul]; exact dn; exact rfl; refine Gol.ret ?_)
  (apply RetQ.mk (by first | exact .inr rfl | exact .inl rfl); apply res_1 rfl; exact res_cell rfl rfl rfl (agu_cuv _); exact out_val)
theorem refPair_ok (tag : UInt8) (x y : UInt64) : Fresh Tryz.prog 107 [.v (.int .u8 (tag.toNat : Int)), .v (.agg (nameC x)), .v (.agg (nameC y))] (fun _ => .v (.agg (nameC (S (tag :: (nameB x ++ nameB y)))))) [] := by
  refine Fresh.of (fn := Tryz.f107) Tryz.func107 rfl (lb rfl) fun w => ?_
  (
 apply Gol.sr; apply t1; exact s_box rfl rfl; apply t1; exact s_box rfl rfl; apply t1; exact s_alloc; dsimp only [reduceAdd, reduceMul]; exact dn
 exact rfl; refine Gol.seq ?_; apply Gol.any; kernel_rfl; apply t0; exact sM rfl; apply tq; exact s_bytesP PV.nil rfl (by omega)
 dsimp only [reduceAdd, reduceMul, reduceSub, na, ca, nbk, mc, ml]; apply t0; exact s_slA rfl rfl rfl rfl (by simp) (by omega) (by omega) (by omega)
 apply tq; exact s_app rfl rfl rfl (rd_name rfl rfl) rfl rfl rfl OneL.one (by omega); dsimp only [reduceAdd, reduceMul, reduceSub, na, ca, nbk, mc, ml]
 apply t0; exact s_slA rfl rfl rfl rfl (by simp) (by omega) (by omega) (by omega); apply tq; exact s_app rfl rfl rfl (rd_name rfl rfl) rfl rfl rfl OneL.one (by omega)
 dsimp only [reduceAdd, reduceMul, reduceSub, na, ca, nbk, mc, ml]; apply tq; exact s_call (f := 72) rfl (eC rfl (eC rfl eN)) (aC aL (aC (arg_sl rfl) aN)) (hS.refTagged tag (nameB x ++ nameB y) _ _ rfl (by decide)) (lb rfl)
 dsimp only [reduceAdd, reduceMul, reduceSub, na, ca, nbk, mc, ml]; apply n1; exact s_storeW rfl rfl rfl rfl rfl rfl
 dsimp only [reduceAdd, reduceMul]; exact dn; kernel_rfl; exact rfl; refine thn_n ?_; refine Gol.ret ?_)
  (apply RetQ.mk (by first | exact .inr rfl | exact .inl rfl); apply res_1 rfl; exact res_cell rfl rfl rfl (agu_cuv _); exact out_val)
theorem root_ok (n : Nat) : ∀ (l : List UInt64) (f : Bool), l.length = n → n ≤ 100000000 → Fresh Tryz.prog 69 [.ex n f (byA (flat l))] (fun _ => .v (.agg (nameC (rootN S l)))) [] := by
  induction n using Nat.strongRecOn with
  | _ n ih =>
    intro l f hl hb
    by_cases h0 : n = 0
    · subst h0
      rw [rootN, dif_neg (by omega), if_neg (by omega)]
      refine Fresh.of (fn := Tryz.f69) Tryz.func69 rfl (lb rfl) fun w => ?_
      (
 apply Gol.sr; apply t1; exact s_alloc; dsimp only [reduceAdd, reduceMul]; exact dn; exact rfl; refine Gol.seq ?_; apply Gol.sr
 apply t0; exact sM rfl; apply t0; exact s_len rfl ln_ex; dsimp only [reduceAdd, reduceMul]; exact dn; exact rfl; refine Gol.block ?_
 apply Gol.sr; apply t0; exact s_eqn rfl rfl; apply t0; exact sA rfl; dsimp only [reduceAdd, reduceMul]; exact dn; exact rfl)
      refine Gol.cond_t rfl (by decide) ?_
      (
 apply Gol.sr; apply tq; exact s_call (f := 35) rfl (eC rfl (eC rfl eN)) (aC aL (aC aL aN)) ((hS.tagged 0x10 [] 0 false rfl (by decide)).sub sub_nil2) (lb rfl)
 dsimp only [reduceAdd, reduceMul, reduceSub, na, ca, nbk, mc, ml]; apply n1; exact s_storeW rfl rfl rfl rfl rfl rfl
 dsimp only [reduceAdd, reduceMul]; exact dn; exact rfl; refine Gol.ret ?_; refine inBlk_r ?_; refine thn_r ?_)
      (apply RetQ.mk (by first | exact .inr rfl | exact .inl rfl); apply res_1 rfl; exact res_cell rfl rfl rfl (agu_cuv _); exact out_val)
    by_cases h1 : n = 1
    · subst h1
      rw [rootN, dif_neg (by omega), if_pos hl]
      refine Fresh.of (fn := Tryz.f69) Tryz.func69 rfl (lb rfl) fun w => ?_
      (
 apply Gol.sr; apply t1; exact s_alloc; dsimp only [reduceAdd, reduceMul]; exact dn; exact rfl; refine Gol.seq ?_; apply Gol.sr
 apply t0; exact sM rfl; apply t0; exact s_len rfl ln_ex; dsimp only [reduceAdd, reduceMul]; exact dn; exact rfl; refine Gol.block ?_
 apply Gol.sr; apply t0; exact s_eqn rfl rfl; apply t0; exact sA rfl; dsimp only [reduceAdd, reduceMul]; exact dn; exact rfl)
      refine Gol.cond_f rfl (by decide) ?_
      (apply Gol.sr; apply t0; exact s_eqn rfl rfl; apply t0; exact sA rfl; dsimp only [reduceAdd, reduceMul]; exact dn; exact rfl)
      refine Gol.cond_t rfl (by decide) ?_
      (
 apply Gol.sr; apply t0; exact sM rfl; apply t0; exact s_ixe rfl rfl (by decide) (flat_ne (by omega)); apply t0; exact s_loadEN rfl (by simp only [byA_length, List.length_append, List.length_cons, List.length_nil, List.length_take, List.length_drop, List.length_replicate, List.length_map, Nat.mul_one, nameB_length, flat_length, List.length_set, inA_length] <;> omega) (agu_nm0 (by omega))
 apply tq; exact s_call (f := 95) rfl (eC rfl eN) (aC aL aN) (single_ok S hS _) (lb rfl)
 dsimp only [reduceAdd, reduceMul, reduceSub, na, ca, nbk, mc, ml]; apply n1; exact s_storeW rfl rfl rfl rfl rfl rfl
 dsimp only [reduceAdd, reduceMul]; exact dn; exact rfl; refine Gol.ret ?_; refine inBlk_r ?_; refine thn_r ?_)
      (apply RetQ.mk (by first | exact .inr rfl | exact .inl rfl); apply res_1 rfl; exact res_cell rfl rfl rfl (agu_cuv _); exact out_val)
    have h2 : 2 ≤ n := by omega
    have hsp := split_bd n h2
    rw [rootN, dif_pos (by omega)]
    refine Fresh.of (fn := Tryz.f69) Tryz.func69 rfl (lb rfl) fun w => ?_
    (
 apply Gol.sr; apply t1; exact s_alloc; dsimp only [reduceAdd, reduceMul]; exact dn; exact rfl; refine Gol.seq ?_; apply Gol.sr
 apply t0; exact sM rfl; apply t0; exact s_len rfl ln_ex; dsimp only [reduceAdd, reduceMul]; exact dn; exact rfl; refine Gol.block ?_
 apply Gol.sr; apply t0; exact s_eqn rfl rfl; apply t0; exact sA rfl; dsimp only [reduceAdd, reduceMul]; exact dn; exact rfl)
    refine Gol.cond_f rfl (decide_eq_false h0) ?_
    (apply Gol.sr; apply t0; exact s_eqn rfl rfl; apply t0; exact sA rfl; dsimp only [reduceAdd, reduceMul]; exact dn; exact rfl)
    refine Gol.cond_f rfl (decide_eq_false h1) ?_
    rw [hl]
    have hlo : ∀ ff, Fresh Tryz.prog 69 [.ex (splitN n - 0) ff (List.take ((splitN n - 0) * 8) (List.drop 0 (byA (flat l))))] (fun _ => .v (.agg (nameC (rootN S (l.take (splitN n)))))) [] := fun ff => by
      rw [seg_lo]; exact ih _ (by omega) _ ff (by simp; omega) (by omega)
    have hhi : ∀ ff, Fresh Tryz.prog 69 [.ex (n - splitN n) ff (List.take ((n - splitN n) * 8) (List.drop (splitN n * 8) (byA (flat l))))] (fun _ => .v (.agg (nameC (rootN S (l.drop (splitN n)))))) [] := fun ff => by
      rw [seg_hi l _ n hl]; exact ih _ (by omega) _ ff (by simp; omega) (by omega)
    (
 refine Gol.skip ?_; refine inBlk_n ?_; refine thn_n ?_; apply Gol.sr; apply t0; exact sM rfl; apply t0
 exact s_len rfl ln_ex; apply tq; exact s_call (f := 96) rfl (eC rfl eN) (aC aL aN) (split_ok n (by omega) (by omega)) (lb rfl)
 dsimp only [reduceAdd, reduceMul, reduceSub, na, ca, nbk, mc, ml]; apply t0; exact sA rfl
 dsimp only [reduceAdd, reduceMul]; exact dn; exact rfl; refine Gol.seq ?_; apply Gol.any; kernel_rfl; apply t0
 exact sM rfl; apply t0; exact sM rfl; apply t0; exact s_slE rfl rfl ⟨_, rfl⟩ (by omega) (by omega) (by simp only [byA_length, List.length_append, List.length_cons, List.length_nil, List.length_take, List.length_drop, List.length_replicate, List.length_map, Nat.mul_one, nameB_length, flat_length, List.length_set, inA_length] <;> omega)
 apply tq; exact s_call (f := 69) rfl (eC rfl eN) (aC aL aN) (hlo _) (lb rfl)
 dsimp only [reduceAdd, reduceMul, reduceSub, na, ca, nbk, mc, ml]; apply t0; exact sM rfl
 apply t0; exact sM rfl; apply t0; exact s_slE rfl ⟨_, rfl⟩ rfl (by omega) (by omega) (by simp only [byA_length, List.length_append, List.length_cons, List.length_nil, List.length_take, List.length_drop, List.length_replicate, List.length_map, Nat.mul_one, nameB_length, flat_length, List.length_set, inA_length] <;> omega)
 apply tq; exact s_call (f := 69) rfl (eC rfl eN) (aC aL aN) (hhi _) (lb rfl)
 dsimp only [reduceAdd, reduceMul, reduceSub, na, ca, nbk, mc, ml]; apply tq; exact s_call (f := 97) rfl (eC rfl (eC rfl (eC rfl eN))) (aC aL (aC aL (aC aL aN))) (hS.pair 0x12 _ _) (lb rfl)
 dsimp only [reduceAdd, reduceMul, reduceSub, na, ca, nbk, mc, ml]; apply n1; exact s_storeW rfl rfl rfl rfl rfl rfl
 dsimp only [reduceAdd, reduceMul]; exact dn; kernel_rfl; exact rfl; refine thn_n ?_; refine Gol.ret ?_)
    (apply RetQ.mk (by first | exact .inr rfl | exact .inl rfl); apply res_1 rfl; exact res_cell rfl rfl rfl (agu_cuv _); exact out_val)
theorem refRoot_ok (n : Nat) : ∀ (l : List UInt64) (f : Bool), l.length = n → n ≤ 100000000 → Fresh Tryz.prog 73 [.ex n f (byA (flat l))] (fun _ => .v (.agg (nameC (rootN S l)))) [] := by
  induction n using Nat.strongRecOn with
  | _ n ih =>
    intro l f hl hb
    by_cases h0 : n = 0
    · subst h0
      rw [rootN, dif_neg (by omega), if_neg (by omega)]
      refine Fresh.of (fn := Tryz.f73) Tryz.func73 rfl (lb rfl) fun w => ?_
      (
 apply Gol.sr; apply t1; exact s_alloc; dsimp only [reduceAdd, reduceMul]; exact dn; exact rfl; refine Gol.seq ?_; apply Gol.sr
 apply t0; exact sM rfl; apply t0; exact s_len rfl ln_ex; dsimp only [reduceAdd, reduceMul]; exact dn; exact rfl; refine Gol.block ?_
 apply Gol.sr; apply t0; exact s_eqn rfl rfl; apply t0; exact sA rfl; dsimp only [reduceAdd, reduceMul]; exact dn; exact rfl)
      refine Gol.cond_t rfl (by decide) ?_
      (
 apply Gol.sr; apply tq; exact s_call (f := 72) rfl (eC rfl (eC rfl eN)) (aC aL (aC aL aN)) ((hS.refTagged 0x10 [] 0 false rfl (by decide)).sub sub_nil2) (lb rfl)
 dsimp only [reduceAdd, reduceMul, reduceSub, na, ca, nbk, mc, ml]; apply n1; exact s_storeW rfl rfl rfl rfl rfl rfl
 dsimp only [reduceAdd, reduceMul]; exact dn; exact rfl; refine Gol.ret ?_; refine inBlk_r ?_; refine thn_r ?_)
      (apply RetQ.mk (by first | exact .inr rfl | exact .inl rfl); apply res_1 rfl; exact res_cell rfl rfl rfl (agu_cuv _); exact out_val)
    by_cases h1 : n = 1
    · subst h1
      rw [rootN, dif_neg (by omega), if_pos hl]
      refine Fresh.of (fn := Tryz.f73) Tryz.func73 rfl (lb rfl) fun w => ?_
      (
 apply Gol.sr; apply t1; exact s_alloc; dsimp only [reduceAdd, reduceMul]; exact dn; exact rfl; refine Gol.seq ?_; apply Gol.sr
 apply t0; exact sM rfl; apply t0; exact s_len rfl ln_ex; dsimp only [reduceAdd, reduceMul]; exact dn; exact rfl; refine Gol.block ?_
 apply Gol.sr; apply t0; exact s_eqn rfl rfl; apply t0; exact sA rfl; dsimp only [reduceAdd, reduceMul]; exact dn; exact rfl)
      refine Gol.cond_f rfl (by decide) ?_
      (apply Gol.sr; apply t0; exact s_eqn rfl rfl; apply t0; exact sA rfl; dsimp only [reduceAdd, reduceMul]; exact dn; exact rfl)
      refine Gol.cond_t rfl (by decide) ?_
      obtain ⟨a, rfl⟩ : ∃ a, l = [a] := List.length_eq_one_iff.1 hl
      (
 apply Gol.sr; apply t0; exact sM rfl; apply t0; exact s_ixe rfl rfl (by decide) (flat_ne (by omega)); apply t0; exact s_slAE rfl rfl rfl rfl (by simp) (by omega) (by omega) (by omega)
 apply tq; exact s_call (f := 72) rfl (eC rfl (eC rfl eN)) (aC aL (aC aL aN)) (hS.refTagged 0x11 (nameB a) _ _ rfl (by decide)) (lb rfl)
 dsimp only [reduceAdd, reduceMul, reduceSub, na, ca, nbk, mc, ml]; apply n1; exact s_storeW rfl rfl rfl rfl rfl rfl
 dsimp only [reduceAdd, reduceMul]; exact dn; exact rfl; refine Gol.ret ?_; refine inBlk_r ?_; refine thn_r ?_)
      (apply RetQ.mk (by first | exact .inr rfl | exact .inl rfl); apply res_1 rfl; exact res_cell rfl rfl rfl (agu_cuv _); exact out_val)
    have h2 : 2 ≤ n := by omega
    have hsp := split_bd n h2
    rw [rootN, dif_pos (by omega)]
    refine Fresh.of (fn := Tryz.f73) Tryz.func73 rfl (lb rfl) fun w => ?_
    (
 apply Gol.sr; apply t1; exact s_alloc; dsimp only [reduceAdd, reduceMul]; exact dn; exact rfl; refine Gol.seq ?_; apply Gol.sr
 apply t0; exact sM rfl; apply t0; exact s_len rfl ln_ex; dsimp only [reduceAdd, reduceMul]; exact dn; exact rfl; refine Gol.block ?_
 apply Gol.sr; apply t0; exact s_eqn rfl rfl; apply t0; exact sA rfl; dsimp only [reduceAdd, reduceMul]; exact dn; exact rfl)
    refine Gol.cond_f rfl (decide_eq_false h0) ?_
    (apply Gol.sr; apply t0; exact s_eqn rfl rfl; apply t0; exact sA rfl; dsimp only [reduceAdd, reduceMul]; exact dn; exact rfl)
    refine Gol.cond_f rfl (decide_eq_false h1) ?_
    rw [hl]
    have hlo : ∀ ff, Fresh Tryz.prog 73 [.ex (splitN n - 0) ff (List.take ((splitN n - 0) * 8) (List.drop 0 (byA (flat l))))] (fun _ => .v (.agg (nameC (rootN S (l.take (splitN n)))))) [] := fun ff => by
      rw [seg_lo]; exact ih _ (by omega) _ ff (by simp; omega) (by omega)
    have hhi : ∀ ff, Fresh Tryz.prog 73 [.ex (n - splitN n) ff (List.take ((n - splitN n) * 8) (List.drop (splitN n * 8) (byA (flat l))))] (fun _ => .v (.agg (nameC (rootN S (l.drop (splitN n)))))) [] := fun ff => by
      rw [seg_hi l _ n hl]; exact ih _ (by omega) _ ff (by simp; omega) (by omega)
    (
 refine Gol.skip ?_; refine inBlk_n ?_; refine thn_n ?_; apply Gol.sr; apply t0; exact sM rfl; apply t0
 exact s_len rfl ln_ex; apply tq; exact s_call (f := 106) rfl (eC rfl eN) (aC aL aN) (refSplit_ok n (by omega) (by omega)) (lb rfl)
 dsimp only [reduceAdd, reduceMul, reduceSub, na, ca, nbk, mc, ml]; apply t0; exact sA rfl
 dsimp only [reduceAdd, reduceMul]; exact dn; exact rfl; refine Gol.seq ?_; apply Gol.any; kernel_rfl; apply t0
 exact sM rfl; apply t0; exact sM rfl; apply t0; exact s_slE rfl rfl ⟨_, rfl⟩ (by omega) (by omega) (by simp only [byA_length, List.length_append, List.length_cons, List.length_nil, List.length_take, List.length_drop, List.length_replicate, List.length_map, Nat.mul_one, nameB_length, flat_length, List.length_set, inA_length] <;> omega)
 apply tq; exact s_call (f := 73) rfl (eC rfl eN) (aC aL aN) (hlo _) (lb rfl)
 dsimp only [reduceAdd, reduceMul, reduceSub, na, ca, nbk, mc, ml]; apply t0; exact sM rfl
 apply t0; exact sM rfl; apply t0; exact s_slE rfl ⟨_, rfl⟩ rfl (by omega) (by omega) (by simp only [byA_length, List.length_append, List.length_cons, List.length_nil, List.length_take, List.length_drop, List.length_replicate, List.length_map, Nat.mul_one, nameB_length, flat_length, List.length_set, inA_length] <;> omega)
 apply tq; exact s_call (f := 73) rfl (eC rfl eN) (aC aL aN) (hhi _) (lb rfl)
 dsimp only [reduceAdd, reduceMul, reduceSub, na, ca, nbk, mc, ml]; apply tq; exact s_call (f := 107) rfl (eC rfl (eC rfl (eC rfl eN))) (aC aL (aC aL (aC aL aN))) (refPair_ok S hS 0x12 _ _) (lb rfl)
 dsimp only [reduceAdd, reduceMul, reduceSub, na, ca, nbk, mc, ml]; apply n1; exact s_storeW rfl rfl rfl rfl rfl rfl
 dsimp only [reduceAdd, reduceMul]; exact dn; kernel_rfl; exact rfl; refine thn_n ?_; refine Gol.ret ?_)
    (apply RetQ.mk (by first | exact .inr rfl | exact .inl rfl); apply res_1 rfl; exact res_cell rfl rfl rfl (agu_cuv _); exact out_val)
end
end Go.Proofs.YtneeclacmhhblaaGreat


namespace Go.Proofs.YtneeclacmhhblaaGreat
open Go.RowKit

theorem grow_eq2 {p : List UInt64} {r : UInt64} : byA (flat p) ++ (cu (.v (.agg (nameC r))) ++ []) = byA (flat (p ++ [r])) := by
  rw [List.append_nil, cu_name, ← byA_append, flat_append, flat_one]
section
variable (S : List UInt8 → UInt64)
variable (hS : HashF S)
include hS
omit hS
include hS
end
end Go.Proofs.YtneeclacmhhblaaGreat


namespace Go.Proofs.YtneeclacmhhblaaGreat
open Go.RowKit
section
variable {P : Program} {k : Nat} {H : AH} {T : AT} {d : Option Tmp} {ty : TypeId} {ps : String} {af : Array Edge} {gd : Option (Nat × Bool)}
end
end Go.Proofs.YtneeclacmhhblaaGreat


namespace Go.Proofs.YtneeclacmhhblaaGreat
open Go.RowKit
section
variable (S : List UInt8 → UInt64) (hS : HashF S)
include hS
omit hS
include hS
omit hS
include hS
end
end Go.Proofs.YtneeclacmhhblaaGreat


namespace Go.Proofs.YtneeclacmhhblaaGreat
open Go.RowKit
open Nat (reduceAdd reduceMul reduceSub)

section
variable {P : Program} {t e : TypeId} {size bytes : Nat} {z : Value} {k : Nat} {H : AH} {T : AT} {d : Option Tmp} {ty t' : TypeId} {ps : String} {af : Array Edge} {gd : Option (Nat × Bool)}
end
end Go.Proofs.YtneeclacmhhblaaGreat


namespace Go.Proofs.YtneeclacmhhblaaGreat
open Go.RowKit

end Go.Proofs.YtneeclacmhhblaaGreat


namespace Go.Proofs.YtneeclacmhhblaaGreat
open Go.RowKit

end Go.Proofs.YtneeclacmhhblaaGreat


namespace Go.Proofs.YtneeclacmhhblaaGreat
open Go.RowKit

section
variable {P : Program} {t t' ty : TypeId} {k : Nat} {H : AH} {T : AT} {d : Option Tmp} {ps : String} {af : Array Edge} {gd : Option (Nat × Bool)} {x y : Operand}
def addI (a b : Int) : Int := IntKind.i64.wrap (a + b)
theorem s_addW {a b : Int} (hx : ev T x = some (.v (.int .i64 a))) (hy : ev T y = some (.v (.int .i64 b))) : StepU P ⟨d, .binOp .add t x y t', ty, ps, af, gd⟩ k [] H T (.v (.int .i64 (addI a b))) [] :=
  s_bin hx hy fun w => by simp [guard_int, binOp, Op.intArith, Sem.run_bind, addI]
end
def bef {α : Type} (p : α → Bool) : List α → Nat
  | [] => 0
  | a :: l => if p a then 0 else bef p l + 1
theorem bef_le {α : Type} (p : α → Bool) : ∀ l : List α, bef p l ≤ l.length
  | [] => Nat.le_refl _
  | a :: l => by have := bef_le p l; simp only [bef, List.length_cons]; split <;> omega
theorem fIx_cases' {α : Type} (p : α → Bool) : ∀ (l : List α) (i : Nat), (fIx p l i = -1 ∧ l.find? p = none ∧ bef p l = l.length ∧ ∀ a ∈ l, p a = false) ∨ ∃ (j : Nat) (a : α), l[j]? = some a ∧ p a = true ∧ l.find? p = some a ∧ fIx p l i = ((i + j : Nat) : Int) ∧ bef p l = j ∧ j < l.length
  | [], i => .inl ⟨rfl, rfl, rfl, by simp⟩
  | a :: l, i => by
    by_cases h : p a = true
    · exact .inr ⟨0, a, rfl, h, by simp [h], by rw [fIx, if_pos h]; rfl, by rw [bef, if_pos h], by simp⟩
    · have h' : p a = false := by simpa using h
      rcases fIx_cases' p l (i + 1) with ⟨h1, h2, h3, h4⟩ | ⟨j, b, h1, h2, h3, h4, h5, h6⟩
      · exact .inl ⟨by rw [fIx, if_neg h]; exact h1, by simp [h', h2], by rw [bef, if_neg h, h3]; rfl, fun b hb => by rcases List.mem_cons.1 hb with rfl | hb; exact h'; exact h4 b hb⟩
      · exact .inr ⟨j + 1, b, by simpa using h1, h2, by simp [h', h3], by rw [fIx, if_neg h, h4]; congr 1; omega, by rw [bef, if_neg h, h5], by simp; omega⟩
theorem fIx_cases {α : Type} (p : α → Bool) (l : List α) : (fIx p l 0 = -1 ∧ l.find? p = none ∧ bef p l = l.length ∧ ∀ a ∈ l, p a = false) ∨ ∃ (j : Nat) (a : α), l[j]? = some a ∧ p a = true ∧ l.find? p = some a ∧ fIx p l 0 = (j : Int) ∧ bef p l = j ∧ j < l.length := by
  rcases fIx_cases' p l 0 with h | ⟨j, a, h1, h2, h3, h4, h5⟩
  · exact .inl h
  · exact .inr ⟨j, a, h1, h2, h3, by rw [h4, Nat.zero_add], h5⟩
structure Sm (S : Stt) : Prop where
  c : S.cells.length ≤ 100000
  q : S.seqs.length ≤ 100000
  l : S.locks.length ≤ 100000
  a : S.applied.length ≤ 100000
instance (c : FuncId) : CloL (cu (.fn c [])) := inferInstanceAs (CloL [.fn c []])
end Go.Proofs.YtneeclacmhhblaaGreat


namespace Go.Proofs.YtneeclacmhhblaaGreat
open Go.RowKit

def okZ (a : Int) : Prop := -9223372036854775808 ≤ a ∧ a ≤ 9223372036854775807
def gtL (x y : Dl) : Bool := decide (0 < cmpC y.k y.i y.n x.k x.i x.n)
def insL (l : List Dl) (x : Dl) : List Dl := l.take (bef (gtL x) l) ++ x :: l.drop (bef (gtL x) l)
def delL (l : List Dl) (x : Dl) : List Dl := l.take (bef (eqC x.k x.i x.n) l) ++ l.drop (bef (eqC x.k x.i x.n) l + 1)
def putL (l : List Dl) (x : Dl) : List Dl := match l.find? (eqC x.k x.i x.n) with
  | some d => if addI d.a x.a = 0 then delL l x else l.set (bef (eqC x.k x.i x.n) l) ⟨d.k, d.i, d.n, addI d.a x.a⟩
  | none => if x.a = 0 then l else insL l x
theorem insL_len (l : List Dl) (x : Dl) : (insL l x).length = l.length + 1 := by
  have := bef_le (gtL x) l
  simp [insL]; omega
theorem putL_len (l : List Dl) (x : Dl) : (putL l x).length ≤ l.length + 1 := by
  unfold putL
  split
  · split
    · simp [delL]; omega
    · simp
  · split
    · omega
    · rw [insL_len]; exact Nat.le_refl _
theorem set_amt {l : List Dl} {i : Nat} {d : Dl} (h : l[i]? = some d) (a : Int) : spl (dsA l) (i * 11 + 10) (cu (.v (.int .i64 a))) = dsA (l.set i ⟨d.k, d.i, d.n, a⟩) := by
  have hi := (List.getElem?_eq_some_iff.1 h).1
  have e1 : l = l.take i ++ d :: l.drop (i + 1) := by rw [← drop_of h, List.take_append_drop]
  have hl : (dsA (l.take i)).length = i * 11 := by rw [dsA_length, List.length_take]; congr 1; omega
  have e2 : l.set i ⟨d.k, d.i, d.n, a⟩ = l.take i ++ ⟨d.k, d.i, d.n, a⟩ :: l.drop (i + 1) := by
    rw [List.set_eq_take_append_cons_drop, if_pos hi]
  rw [e2, dsA_append, dsA_cons]
  conv => lhs; rw [e1, dsA_append, dsA_cons]
  unfold spl
  have hd : dA d = (dA d).take 10 ++ [.v (.int .i64 d.a)] := rfl
  have h10 : (dsA (l.take i) ++ (dA d).take 10).length = i * 11 + 10 := by rw [List.length_append, hl]; rfl
  rw [hd, ← List.append_assoc, ← List.append_assoc, List.append_assoc _ [_] _, List.take_left' h10]
  have hc : (cu (.v (.int .i64 a))).length = 1 := rfl
  rw [hc, ← h10, List.drop_length_add_append]
  simp only [List.append_assoc]
  rfl
def stW (s : Stt) (l : List Dl) : Stt := ⟨l, s.seqs, s.locks, s.applied, s.guilty⟩
end Go.Proofs.YtneeclacmhhblaaGreat


namespace Go.Proofs.YtneeclacmhhblaaGreat
open Go.RowKit
open Nat (reduceAdd reduceMul reduceSub)

theorem refCopy_ok (s : Stt) (hs : s.cells.length ≤ 10000000 ∧ s.seqs.length ≤ 10000000 ∧ s.locks.length ≤ 10000000 ∧ s.applied.length ≤ 10000000) : Fresh Tryz.prog 142 [stA s] (stO s) (stB s) := by
  obtain ⟨h1, h2, h3, h4⟩ := hs
  unfold stA stO stB
  refine Fresh.of (fn := Tryz.f142) Tryz.func142 rfl (lb rfl) fun w => ?_
  (
 apply Gol.sr; apply t1; exact s_box rfl rfl; apply t1; exact s_alloc; dsimp only [reduceAdd, reduceMul]; exact dn; exact rfl; refine Gol.seq ?_
 apply Gol.any; kernel_rfl; apply t1; exact s_lit PA.nil rfl (by omega); apply t0; exact sF rfl; apply t0; exact s_load rfl rfl rfl
 apply tq; exact s_app rfl rfl rfl (rd_ex (by simp only [byA_length, List.length_append, List.length_cons, List.length_nil, List.length_take, List.length_drop, List.length_replicate, List.length_map, Nat.mul_one, nameB_length, flat_length, List.length_set, inA_length, dsA_length, lsA_length, dA_length, lA_length] <;> omega)) rfl rfl rfl OneL.one (by omega)
 dsimp only [reduceAdd, reduceMul, reduceSub, na, ca, nbk, mc, ml]; apply tq; exact s_bytesP PV.nil rfl (by omega)
 dsimp only [reduceAdd, reduceMul, reduceSub, na, ca, nbk, mc, ml]; apply t0; exact sF rfl
 apply t0; exact s_load rfl rfl rfl; apply tq; exact s_app rfl rfl rfl (rd_ex (by simp only [byA_length, List.length_append, List.length_cons, List.length_nil, List.length_take, List.length_drop, List.length_replicate, List.length_map, Nat.mul_one, nameB_length, flat_length, List.length_set, inA_length, dsA_length, lsA_length, dA_length, lA_length] <;> omega)) rfl rfl rfl OneL.one (by omega)
 dsimp only [reduceAdd, reduceMul, reduceSub, na, ca, nbk, mc, ml]; apply t1; exact s_lit PA.nil rfl (by omega)
 apply t0; exact sF rfl; apply t0; exact s_load rfl rfl rfl; apply tq; exact s_app rfl rfl rfl (rd_ex (by simp only [byA_length, List.length_append, List.length_cons, List.length_nil, List.length_take, List.length_drop, List.length_replicate, List.length_map, Nat.mul_one, nameB_length, flat_length, List.length_set, inA_length, dsA_length, lsA_length, dA_length, lA_length] <;> omega)) rfl rfl rfl OneL.one (by omega)
 dsimp only [reduceAdd, reduceMul, reduceSub, na, ca, nbk, mc, ml]; apply t1; exact s_lit PA.nil rfl (by omega)
 apply t0; exact sF rfl; apply t0; exact s_load rfl rfl rfl; apply tq; exact s_app rfl rfl rfl (rd_ex (by simp only [byA_length, List.length_append, List.length_cons, List.length_nil, List.length_take, List.length_drop, List.length_replicate, List.length_map, Nat.mul_one, nameB_length, flat_length, List.length_set, inA_length, dsA_length, lsA_length, dA_length, lA_length] <;> omega)) rfl rfl rfl OneL.one (by omega)
 dsimp only [reduceAdd, reduceMul, reduceSub, na, ca, nbk, mc, ml]; apply t0; exact sF rfl
 apply t0; exact s_load rfl rfl rfl; dsimp only [reduceAdd, reduceMul, reduceSub, na, ca, nbk, mc, ml]
 apply tq; apply s_bld; exact rfl; (focus (dsimp only [splB, cuB, spl, cu, Value.cells, nameC, List.map, List.take, List.drop, List.append, List.length, List.cons_append, List.nil_append, Nat.reduceAdd, List.take_succ_cons, List.take_zero, List.drop_succ_cons, List.drop_zero, List.take_nil, List.drop_nil, List.append_nil, List.length_cons, List.length_nil]; done))
 dsimp only [reduceAdd, reduceMul, reduceSub, na, ca, nbk, mc, ml]; apply n1; exact s_storeW rfl rfl rfl rfl rfl rfl
 dsimp only [reduceAdd, reduceMul]; exact dn; kernel_rfl; exact rfl; refine thn_n ?_; refine Gol.ret ?_)
  simp only [Nat.zero_add, List.nil_append]
  (
 apply RetQ.mkM (by first | exact .inr rfl | exact .inl rfl); apply res_1 rfl; exact res_cell rfl rfl rfl (agu_cua _); apply out_ids [40, 72, 104, 136] rfl
 apply OBs.cons; exact rfl; exact inferInstance; apply OBs.cons; exact rfl; exact inferInstance; apply OBs.cons; exact rfl; exact inferInstance; apply OBs.cons
 exact rfl; exact inferInstance; exact OBs.nil; intro k; apply Ot.agL; apply OtL.cons; exact Ot.sl (j := 0) rfl; apply OtL.cons; exact Ot.sl (j := 1) rfl
 apply OtL.cons; exact Ot.sl (j := 2) rfl; apply OtL.cons; exact Ot.sl (j := 3) rfl; apply OtL.cons; exact Ot.v inferInstance; exact OtL.nil)
theorem at_ok (s : Stt) (k i : Int) (n : UInt64) (hl : s.cells.length ≤ 10000000) : Fresh Tryz.prog 143 [stA s, .v (.agg (cellC k i n))] (fun _ => .v (.int .i64 (fIx (eqC k i n) s.cells 0))) [] := by
  unfold stA
  refine Fresh.of (fn := Tryz.f143) Tryz.func143 rfl (lb rfl) fun w => ?_
  (
 apply Gol.sr; apply t1; exact s_box rfl rfl; apply t1; exact s_box rfl rfl; apply t0; exact sA rfl; dsimp only [reduceAdd, reduceMul]; exact dn
 exact rfl; refine Gol.seq ?_; apply Gol.sr; apply t0; exact sA rfl; dsimp only [reduceAdd, reduceMul]; exact dn; exact rfl
 refine Gol.block ?_)
  refine Gol.loop (ι := Nat) (fun j => j ≤ s.cells.length ∧ fIx (eqC k i n) (s.cells.drop j) j = fIx (eqC k i n) s.cells 0) (fun j => s.cells.length - j) 32 (fun _ => [(0, some ⟨[.ex s.cells.length false (dsA s.cells), .ex s.seqs.length false (inA s.seqs), .ex s.locks.length false (lsA s.locks), .ex s.applied.length false (byA (flat s.applied)), .v (.int .i64 s.guilty)], 31, 5⟩), (8, some ⟨cu (.v (.agg (cellC k i n))), 136, 10⟩)]) (fun j => [(5, .v (.int .i64 (j : Int))), (2, .pt 0 0), (3, .pt 8 0)]) 0 ⟨Nat.zero_le _, rfl⟩ ?_ ?_
  · (
 apply Le.mk3' []; apply RnT3.c; exact rfl; apply Rn3.r; exact Rn.v rfl; apply RnT3.c; exact rfl; apply Rn3.r; exact Rn.pt rfl rfl; apply RnT3.c; exact rfl
 apply Rn3.r; exact Rn.pt rfl rfl; exact RnT3.n; apply RnH3.c; exact rfl; exact rfl; apply RnC.cl; rfl; exact inferInstance; exact rfl; exact rfl; apply RnH3.c
 exact rfl; exact rfl; apply RnC.cl; rfl; exact inferInstance; exact rfl; exact rfl; exact RnH3.n; exact rfl; exact rfl)
  rintro j ⟨g1, g2⟩
  (
 refine Gol.seq ?_; apply Gol.sr; apply t0; exact sM rfl; apply t0; exact sF rfl; apply t0; exact s_load rfl rfl rfl; apply t0
 exact s_len rfl ln_ex; apply t0; exact s_ltn rfl rfl; dsimp only [reduceAdd, reduceMul]; exact dn; exact rfl)
  refine Gol.cond rfl (fun h => ?_) (fun h => ?_)
  · have hlt : j < s.cells.length := of_decide_eq_true h
    obtain ⟨d, hd⟩ : ∃ d, s.cells[j]? = some d := ⟨s.cells[j], List.getElem?_eq_getElem hlt⟩
    (
 refine Gol.skip ?_; refine thn_n ?_; refine Gol.seq ?_; refine Gol.block ?_; refine Gol.seq ?_
 apply Gol.any; kernel_rfl; apply t0; exact sF rfl; apply t0; exact s_load rfl rfl rfl; apply t0; exact sM rfl; apply t0
 exact s_ixe rfl rfl (by omega) (ds_ne (by omega)); apply t0; exact s_fieldAddrE rfl; apply t0; exact s_loadEN rfl (by simp only [byA_length, List.length_append, List.length_cons, List.length_nil, List.length_take, List.length_drop, List.length_replicate, List.length_map, Nat.mul_one, nameB_length, flat_length, List.length_set, inA_length, dsA_length, lsA_length, dA_length, lA_length] <;> omega) (agu_dc (by assumption))
 apply t0; exact s_loadW rfl rfl rfl (agu_cuv _); apply t0; exact s_eqR rfl rfl inferInstance; dsimp only [reduceAdd, reduceMul]; exact dn; kernel_rfl
 exact rfl; refine thn_n ?_)
    refine Gol.cond rfl (fun h => ?_) (fun h => ?_)
    · have hp : eqC k i n d = true := h
      rw [← g2, fIx_hit hd hp]
      (
 apply Gol.sr; apply t0; exact sM rfl; apply t0; exact sA rfl; dsimp only [reduceAdd, reduceMul]; exact dn; exact rfl; refine Gol.ret ?_
 refine inBlk_r ?_; refine thn_r ?_; refine rnd_r ?_; refine inBlk_r ?_; refine thn_r ?_)
      (apply RetQ.mk (by first | exact .inr rfl | exact .inl rfl); apply res_1 rfl; exact res_tmp rfl; exact out_val)
    · have hp : eqC k i n d = false := h
      (
 refine Gol.skip ?_; refine inBlk_n ?_; refine thn_n ?_; apply Gol.region; apply t0
 exact sM rfl; apply t0; exact s_addn rfl rfl (by simp <;> omega); apply t0; exact sA rfl; dsimp only [reduceAdd, reduceMul]; exact dn
 exact rfl)
      refine rnd_n (j + 1) ⟨by omega, by rw [← g2, fIx_miss hd hp]⟩ (by omega) ?_
      (
 apply Le.mk3' []; apply RnT3.c; exact rfl; apply Rn3.r; exact Rn.v rfl; apply RnT3.c; exact rfl; apply Rn3.r; exact Rn.pt rfl rfl; apply RnT3.c; exact rfl
 apply Rn3.r; exact Rn.pt rfl rfl; exact RnT3.n; apply RnH3.c; exact rfl; exact rfl; apply RnC.cl; rfl; exact inferInstance; exact rfl; exact rfl; apply RnH3.c
 exact rfl; exact rfl; apply RnC.cl; rfl; exact inferInstance; exact rfl; exact rfl; exact RnH3.n; exact rfl; exact rfl)
  · have hge : ¬ j < s.cells.length := of_decide_eq_false h
    rw [List.drop_of_length_le (by omega)] at g2
    rw [← g2]
    (
 refine Gol.exit ?_; refine thn_x ?_; refine rnd_x ?_; refine inBlk_hit ?_; refine thn_n ?_
 apply Gol.sr; apply t0; exact sA rfl; dsimp only [reduceAdd, reduceMul]; exact dn; exact rfl; refine Gol.ret ?_)
    (apply RetQ.mk (by first | exact .inr rfl | exact .inl rfl); apply res_1 rfl; exact res_tmp rfl; exact out_val)
end Go.Proofs.YtneeclacmhhblaaGreat


namespace Go.Proofs.YtneeclacmhhblaaGreat
open Go.RowKit
open Nat (reduceAdd reduceMul reduceSub)

theorem bef_hit {α : Type} {p : α → Bool} {l : List α} {i : Nat} {a : α} (h : l[i]? = some a) (hp : p a = true) : bef p (l.drop i) = 0 := by rw [drop_of h, bef, if_pos hp]
theorem bef_miss {α : Type} {p : α → Bool} {l : List α} {i : Nat} {a : α} (h : l[i]? = some a) (hp : p a = false) : bef p (l.drop i) = bef p (l.drop (i + 1)) + 1 := by rw [drop_of h, bef, if_neg (by simp [hp])]
theorem del_cells2 {cs D : List AV} {a m : Nat} (ha : a ≤ cs.length) (hm : m = a + D.length) : (spl cs a D).take m = cs.take a ++ D := by
  subst hm
  show (cs.take a ++ D ++ _).take _ = _
  rw [List.take_left' (by rw [List.length_append, List.length_take]; omega)]
theorem ins_cells {L : List Dl} {x : Dl} {q : Nat} (hq : q ≤ L.length) : List.take (q * 11) (List.drop 0 (dsA L)) ++ (dA x ++ []) ++ List.take ((L.length - q) * 11) (List.drop (q * 11) (dsA L)) = dsA (L.take q ++ x :: L.drop q) := by
  have e : List.take ((L.length - q) * 11) (dsA (L.drop q)) = dsA (L.drop q) := List.take_of_length_le (by rw [dsA_length, List.length_drop]; exact Nat.le_refl _)
  rw [List.drop_zero, dsA_take, dsA_drop, e, List.append_nil, dsA_append, dsA_cons, List.append_assoc]
theorem refPut_ok (s : Stt) (k i : Int) (n : UInt64) (a : Int) (hs : s.cells.length ≤ 1000000 ∧ s.seqs.length ≤ 10000000 ∧ s.locks.length ≤ 10000000 ∧ s.applied.length ≤ 10000000) (ha : okZ a) :
    Fresh Tryz.prog 124 [stA s, .v (.agg (cellC k i n)), .v (.int .i64 a)] (stO (stW s (putL s.cells ⟨k, i, n, a⟩))) (stB (stW s (putL s.cells ⟨k, i, n, a⟩))) := by
  obtain ⟨h1, h2, h3, h4⟩ := hs
  have hcp := refCopy_ok s ⟨by omega, h2, h3, h4⟩
  have hat := at_ok s k i n (by omega)
  unfold stA stO stB at hcp
  unfold stA at hat
  unfold stA stO stB stW
  dsimp only
  generalize s.cells = L at h1 hcp hat
  rcases fIx_cases (eqC k i n) L with ⟨f1, f2, f3, f4⟩ | ⟨j, d, f1, f2, f3, f4, f5, f6⟩
  · rw [f1] at hat
    have hP : putL L ⟨k, i, n, a⟩ = if a = 0 then L else insL L ⟨k, i, n, a⟩ := by unfold putL; dsimp only; rw [f2]
    by_cases h0 : a = 0
    · rw [hP, if_pos h0]
      refine Fresh.of (fn := Tryz.f124) Tryz.func124 rfl (lb rfl) fun w => ?_
      (
 apply Gol.sr; apply t1; exact s_box rfl rfl; apply t1; exact s_box rfl rfl; apply t1; exact s_alloc; dsimp only [reduceAdd, reduceMul]; exact dn
 exact rfl; apply Gol.sr; apply t0; exact s_loadW rfl rfl rfl (agu_cua _); apply tq; exact s_call (f := 142) rfl (eC rfl eN) (aC aL aN) hcp (lb rfl)
 dsimp only [reduceAdd, reduceMul, reduceSub, na, ca, nbk, mc, ml]; apply n1; exact s_storeW rfl rfl rfl rfl rfl rfl
 dsimp only [reduceAdd, reduceMul]; exact dn; exact rfl; apply Gol.sr; apply t0; exact s_loadW rfl rfl rfl (agu_cua _); apply t0; exact s_loadW rfl rfl rfl (agu_cuv _)
 apply tq; exact s_call (f := 143) rfl (eC rfl (eC rfl eN)) (aC (arg_ag (aC (arg_sl rfl) (aC (arg_sl rfl) (aC (arg_sl rfl) (aC (arg_sl rfl) (aC aL aN)))))) (aC aL aN)) hat (lb rfl)
 dsimp only [reduceAdd, reduceMul, reduceSub, na, ca, nbk, mc, ml]; apply t0; exact sA rfl
 dsimp only [reduceAdd, reduceMul]; exact dn; exact rfl; refine Gol.seq ?_; apply Gol.sr; apply t0; exact sM rfl; apply t0
 exact s_ge rfl rfl; dsimp only [reduceAdd, reduceMul]; exact dn; exact rfl)
      refine Gol.cond_f rfl (by decide) ?_
      (
 refine Gol.skip ?_; refine thn_n ?_; refine Gol.seq ?_; apply Gol.sr; apply t0; exact sM rfl; apply t0
 exact s_eq rfl rfl; dsimp only [reduceAdd, reduceMul]; exact dn; exact rfl)
      refine Gol.cond_t rfl (by simp [h0]) ?_
      (
 apply Gol.sr; apply t0; exact s_loadW rfl rfl rfl (agu_cua _); apply n1; exact s_storeW rfl rfl rfl rfl rfl rfl; dsimp only [reduceAdd, reduceMul]
 exact dn; exact rfl; refine Gol.ret ?_; refine thn_r ?_)
      (
 apply RetQ.mkM (by first | exact .inr rfl | exact .inl rfl); apply res_1 rfl; exact res_cell rfl rfl rfl (agu_cua _); apply out_ids [32, 33, 34, 35] rfl
 apply OBs.cons; exact rfl; exact inferInstance; apply OBs.cons; exact rfl; exact inferInstance; apply OBs.cons; exact rfl; exact inferInstance; apply OBs.cons
 exact rfl; exact inferInstance; exact OBs.nil; intro k; apply Ot.agL; apply OtL.cons; exact Ot.sl (j := 0) rfl; apply OtL.cons; exact Ot.sl (j := 1) rfl
 apply OtL.cons; exact Ot.sl (j := 2) rfl; apply OtL.cons; exact Ot.sl (j := 3) rfl; apply OtL.cons; exact Ot.v inferInstance; exact OtL.nil)
    · rw [hP, if_neg h0]
      refine Fresh.of (fn := Tryz.f124) Tryz.func124 rfl (lb rfl) fun w => ?_
      (
 apply Gol.sr; apply t1; exact s_box rfl rfl; apply t1; exact s_box rfl rfl; apply t1; exact s_alloc; dsimp only [reduceAdd, reduceMul]; exact dn
 exact rfl; apply Gol.sr; apply t0; exact s_loadW rfl rfl rfl (agu_cua _); apply tq; exact s_call (f := 142) rfl (eC rfl eN) (aC aL aN) hcp (lb rfl)
 dsimp only [reduceAdd, reduceMul, reduceSub, na, ca, nbk, mc, ml]; apply n1; exact s_storeW rfl rfl rfl rfl rfl rfl
 dsimp only [reduceAdd, reduceMul]; exact dn; exact rfl; apply Gol.sr; apply t0; exact s_loadW rfl rfl rfl (agu_cua _); apply t0; exact s_loadW rfl rfl rfl (agu_cuv _)
 apply tq; exact s_call (f := 143) rfl (eC rfl (eC rfl eN)) (aC (arg_ag (aC (arg_sl rfl) (aC (arg_sl rfl) (aC (arg_sl rfl) (aC (arg_sl rfl) (aC aL aN)))))) (aC aL aN)) hat (lb rfl)
 dsimp only [reduceAdd, reduceMul, reduceSub, na, ca, nbk, mc, ml]; apply t0; exact sA rfl
 dsimp only [reduceAdd, reduceMul]; exact dn; exact rfl; refine Gol.seq ?_; apply Gol.sr; apply t0; exact sM rfl; apply t0
 exact s_ge rfl rfl; dsimp only [reduceAdd, reduceMul]; exact dn; exact rfl)
      refine Gol.cond_f rfl (by decide) ?_
      (
 refine Gol.skip ?_; refine thn_n ?_; refine Gol.seq ?_; apply Gol.sr; apply t0; exact sM rfl; apply t0
 exact s_eq rfl rfl; dsimp only [reduceAdd, reduceMul]; exact dn; exact rfl)
      refine Gol.cond_f rfl (by simp [h0]) ?_
      (
 refine Gol.skip ?_; refine thn_n ?_; apply Gol.sr; apply t0; exact sA rfl; dsimp only [reduceAdd, reduceMul]
 exact dn; exact rfl; refine Gol.seq ?_; refine Gol.block ?_)
      refine Gol.loop (ι := Nat) (fun q => q ≤ L.length ∧ q + bef (gtL ⟨k, i, n, a⟩) (L.drop q) = bef (gtL ⟨k, i, n, a⟩) L) (fun q => L.length - q) 128
        (fun _ => [(0, some ⟨[.sl 32 L.length, .sl 33 s.seqs.length, .sl 34 s.locks.length, .sl 35 s.applied.length, .v (.int .i64 s.guilty)], 31, 5⟩), (32, some ⟨dsA L, 138, 11⟩), (33, some ⟨inA s.seqs, 3, 1⟩), (34, some ⟨lsA s.locks, 141, 19⟩), (35, some ⟨byA (flat s.applied), 23, 8⟩), (16, some ⟨[.v (.slice none 0 0), .v (.slice none 0 0), .v (.slice none 0 0), .v (.slice none 0 0), .v (.int .i64 0)], 31, 5⟩), (8, some ⟨cu (.v (.agg (cellC k i n))), 136, 10⟩)])
        (fun q => [(8, .v (.int .i64 (q : Int))), (3, .pt 0 0), (4, .pt 8 0), (6, .pt 16 0), (2, .v (.int .i64 a))]) 0 ⟨Nat.zero_le _, by simp⟩ ?_ ?_
      · (
 apply Le.mk3' []; apply RnT3.c; exact rfl; apply Rn3.r; exact Rn.v rfl; apply RnT3.c; exact rfl; apply Rn3.r; exact Rn.pt rfl rfl; apply RnT3.c; exact rfl
 apply Rn3.r; exact Rn.pt rfl rfl; apply RnT3.c; exact rfl; apply Rn3.r; exact Rn.pt rfl rfl; apply RnT3.c; exact rfl; apply Rn3.r; exact Rn.v rfl; exact RnT3.n
 apply RnH3.c; exact rfl; exact rfl; apply RnC.l; apply Rn3L.cons; apply Rn3.r; exact Rn.sl rfl rfl; apply Rn3L.cons; apply Rn3.r; exact Rn.sl rfl rfl
 apply Rn3L.cons; apply Rn3.r; exact Rn.sl rfl rfl; apply Rn3L.cons; apply Rn3.r; exact Rn.sl rfl rfl; apply Rn3L.cons; apply Rn3.r; exact Rn.v rfl; exact Rn3L.nil
 exact rfl; exact rfl; apply RnH3.c; exact rfl; exact rfl; apply RnC.cl; rfl; exact inferInstance; exact rfl; exact rfl; apply RnH3.c; exact rfl; exact rfl
 apply RnC.cl; rfl; exact inferInstance; exact rfl; exact rfl; apply RnH3.c; exact rfl; exact rfl; apply RnC.cl; rfl; exact inferInstance; exact rfl; exact rfl
 apply RnH3.c; exact rfl; exact rfl; apply RnC.cl; rfl; exact inferInstance; exact rfl; exact rfl; apply RnH3.c; exact rfl; exact rfl; apply RnC.cl; rfl
 exact inferInstance; exact rfl; exact rfl; apply RnH3.c; exact rfl; exact rfl; apply RnC.cl; rfl; exact inferInstance; exact rfl; exact rfl; exact RnH3.n
 exact rfl; exact rfl)
      rintro q ⟨g1, g2⟩
      by_cases hlt : q < L.length
      · obtain ⟨d, hd⟩ : ∃ d, L[q]? = some d := ⟨L[q], List.getElem?_eq_getElem hlt⟩
        (
 refine Gol.seq ?_; refine Gol.seq ?_; apply Gol.any; kernel_rfl; apply t0; exact sM rfl; apply t0
 exact sF rfl; apply t0; exact s_load rfl rfl rfl; apply t0; exact s_len rfl ln_sl; apply t0; exact s_ltn rfl rfl; apply t0; exact sM rfl
 apply g0; exact wnt_g rfl rfl rfl (by simp only [*]; rfl); exact sF rfl; apply g0; exact wnt_g rfl rfl rfl (by simp only [*]; rfl)
 exact s_load rfl rfl rfl; apply g0; exact wnt_g rfl rfl rfl (by simp only [*]; rfl); exact sM rfl; apply g0; exact wnt_g rfl rfl rfl (by simp only [*]; rfl)
 exact s_ixl rfl rfl rfl (by omega); apply g0; exact wnt_g rfl rfl rfl (by simp only [*]; rfl); exact sF rfl; apply g0; exact wnt_g rfl rfl rfl (by simp only [*]; rfl)
 exact s_loadN rfl rfl (by simp only [byA_length, List.length_append, List.length_cons, List.length_nil, List.length_take, List.length_drop, List.length_replicate, List.length_map, Nat.mul_one, nameB_length, flat_length, List.length_set, inA_length, dsA_length, lsA_length, dA_length, lA_length] <;> omega) (agu_dc (by assumption))
 apply g0; exact wnt_g rfl rfl rfl (by simp only [*]; rfl); exact s_loadW rfl rfl rfl (agu_cuv _); apply gq; exact wnt_g rfl rfl rfl (by simp only [*]; rfl)
 exact s_call (f := 144) rfl (eC rfl (eC rfl eN)) (aC aL (aC aL aN)) (refCompare_ok _ _ _ _ _ _) (lb rfl)
 dsimp only [reduceAdd, reduceMul, reduceSub, na, ca, nbk, mc, ml]; apply g0; exact wnt_g rfl rfl rfl (by simp only [*]; rfl)
 exact s_le rfl rfl; apply t0; exact s_pick_t rfl (by simp only [*]; rfl) rfl; dsimp only [reduceAdd, reduceMul]; exact dn; kernel_rfl
 exact rfl; refine thn_n ?_)
        refine Gol.cond rfl (fun h => ?_) (fun h => ?_)
        · have hp : gtL ⟨k, i, n, a⟩ d = false := by have := of_decide_eq_true h; simp only [gtL]; rw [decide_eq_false_iff_not]; omega
          (
 refine Gol.skip ?_; refine thn_n ?_; refine Gol.block ?_; apply Gol.region; apply t0
 exact sM rfl; apply t0; exact s_addn rfl rfl (by simp <;> omega); apply t0; exact sA rfl; dsimp only [reduceAdd, reduceMul]; exact dn
 exact rfl; refine inBlk_n ?_)
          refine rnd_n (q + 1) ⟨by omega, by rw [← g2, bef_miss hd hp]; omega⟩ (by omega) ?_
          (
 apply Le.mk3' []; apply RnT3.c; exact rfl; apply Rn3.r; exact Rn.v rfl; apply RnT3.c; exact rfl; apply Rn3.r; exact Rn.pt rfl rfl; apply RnT3.c; exact rfl
 apply Rn3.r; exact Rn.pt rfl rfl; apply RnT3.c; exact rfl; apply Rn3.r; exact Rn.pt rfl rfl; apply RnT3.c; exact rfl; apply Rn3.r; exact Rn.v rfl; exact RnT3.n
 apply RnH3.c; exact rfl; exact rfl; apply RnC.l; apply Rn3L.cons; apply Rn3.r; exact Rn.sl rfl rfl; apply Rn3L.cons; apply Rn3.r; exact Rn.sl rfl rfl
 apply Rn3L.cons; apply Rn3.r; exact Rn.sl rfl rfl; apply Rn3L.cons; apply Rn3.r; exact Rn.sl rfl rfl; apply Rn3L.cons; apply Rn3.r; exact Rn.v rfl; exact Rn3L.nil
 exact rfl; exact rfl; apply RnH3.c; exact rfl; exact rfl; apply RnC.cl; rfl; exact inferInstance; exact rfl; exact rfl; apply RnH3.c; exact rfl; exact rfl
 apply RnC.cl; rfl; exact inferInstance; exact rfl; exact rfl; apply RnH3.c; exact rfl; exact rfl; apply RnC.cl; rfl; exact inferInstance; exact rfl; exact rfl
 apply RnH3.c; exact rfl; exact rfl; apply RnC.cl; rfl; exact inferInstance; exact rfl; exact rfl; apply RnH3.c; exact rfl; exact rfl; apply RnC.cl; rfl
 exact inferInstance; exact rfl; exact rfl; apply RnH3.c; exact rfl; exact rfl; apply RnC.cl; rfl; exact inferInstance; exact rfl; exact rfl; exact RnH3.n
 exact rfl; exact rfl)
        · have hp : gtL ⟨k, i, n, a⟩ d = true := by have := of_decide_eq_false h; simp only [gtL]; rw [decide_eq_true_iff]; omega
          have hB : bef (gtL ⟨k, i, n, a⟩) L = q := by rw [← g2, bef_hit hd hp, Nat.add_zero]
          (
 refine Gol.exit ?_; refine thn_x ?_; refine rnd_x ?_; refine inBlk_hit ?_; refine thn_n ?_
 apply Gol.sr; apply t1; exact s_lit PA.nil rfl (by omega); apply t0; exact sF rfl; apply t0; exact s_load rfl rfl rfl; apply t0; exact sM rfl
 apply t0; exact s_slL rfl rfl ⟨_, rfl⟩ (by omega) (by omega) rfl; apply tq; exact s_app rfl rfl rfl (rd_sb rfl (by simp only [byA_length, List.length_append, List.length_cons, List.length_nil, List.length_take, List.length_drop, List.length_replicate, List.length_map, Nat.mul_one, nameB_length, flat_length, List.length_set, inA_length, dsA_length, lsA_length, dA_length, lA_length] <;> omega)) rfl rfl rfl OneL.one (by omega)
 dsimp only [reduceAdd, reduceMul, reduceSub, na, ca, nbk, mc, ml]; apply t0; exact sA rfl
 dsimp only [reduceAdd, reduceMul]; exact dn; exact rfl; apply Gol.sr; apply t0; exact sM rfl; apply t0; exact s_loadW rfl rfl rfl (agu_cuv _)
 apply t0; exact sM rfl; dsimp only [reduceAdd, reduceMul, reduceSub, na, ca, nbk, mc, ml]
 apply tq; (with_reducible apply s_bld (ds := dA ⟨k, i, n, a⟩)); exact rfl; exact rfl; dsimp only [reduceAdd, reduceMul, reduceSub, na, ca, nbk, mc, ml]
 apply t1; exact s_lit (PA.cons rfl rfl rfl PA.nil) rfl (by first | omega | exact lb rfl | decide | (simp <;> omega) | (dsimp <;> omega)); apply tq; exact s_app rfl rfl rfl (rd_sl rfl rfl) (by simp only [byA_length, List.length_append, List.length_cons, List.length_nil, List.length_take, List.length_drop, List.length_replicate, List.length_map, Nat.mul_one, nameB_length, flat_length, List.length_set, inA_length, dsA_length, lsA_length, dA_length, lA_length] <;> omega) rfl rfl rfl (by omega)
 dsimp only [reduceAdd, reduceMul, reduceSub, na, ca, nbk, mc, ml]; apply t0; exact sA rfl
 dsimp only [reduceAdd, reduceMul]; exact dn; exact rfl; refine Gol.seq ?_)
          simp only [Nat.zero_add, Nat.sub_zero, List.drop_zero, List.append_nil, List.nil_append, show cu (.ag (dA ⟨k, i, n, a⟩)) = dA ⟨k, i, n, a⟩ from rfl, dsA_take]
          (
 apply Gol.region; apply t0; exact sM rfl; apply t0; exact sF rfl; apply t0; exact s_load rfl rfl rfl; apply t0; exact sM rfl
 apply t0; exact s_slL rfl ⟨_, rfl⟩ rfl (by omega) (by omega) rfl; apply tq; exact s_app rfl rfl rfl (rd_sb rfl (by simp only [byA_length, List.length_append, List.length_cons, List.length_nil, List.length_take, List.length_drop, List.length_replicate, List.length_map, Nat.mul_one, nameB_length, flat_length, List.length_set, inA_length, dsA_length, lsA_length, dA_length, lA_length] <;> omega)) (by simp only [byA_length, List.length_append, List.length_cons, List.length_nil, List.length_take, List.length_drop, List.length_replicate, List.length_map, Nat.mul_one, nameB_length, flat_length, List.length_set, inA_length, dsA_length, lsA_length, dA_length, lA_length] <;> omega) rfl rfl OneL.one (by omega)
 dsimp only [reduceAdd, reduceMul, reduceSub, na, ca, nbk, mc, ml]; apply t0; exact sF rfl
 apply n1; exact s_store rfl rfl rfl rfl rfl (lb rfl); dsimp only [reduceAdd, reduceMul]; exact dn; exact rfl; refine thn_n ?_
 apply Gol.sr; apply t0; exact s_loadW rfl rfl rfl (agu_cua _); apply n1; exact s_storeW rfl rfl rfl rfl rfl rfl; dsimp only [reduceAdd, reduceMul]
 exact dn; exact rfl; refine Gol.ret ?_)
          have hn : q + 1 + (L.length - q) = (insL L ⟨k, i, n, a⟩).length := by rw [insL_len]; omega
          simp only [hn, dsA_drop]
          have hcc : dsA (L.take q) ++ dA ⟨k, i, n, a⟩ ++ List.take ((L.length - q) * 11) (dsA (L.drop q)) = dsA (insL L ⟨k, i, n, a⟩) := by
            have := ins_cells (L := L) (x := ⟨k, i, n, a⟩) g1
            rw [List.drop_zero, dsA_take, dsA_drop, List.append_nil] at this
            rw [this, insL, hB]
          rw [hcc]
          (
 apply RetQ.mkM (by first | exact .inr rfl | exact .inl rfl); apply res_1 rfl; exact res_cell rfl rfl rfl (agu_cua _); apply out_ids [408, 33, 34, 35] rfl
 apply OBs.cons; exact rfl; exact inferInstance; apply OBs.cons; exact rfl; exact inferInstance; apply OBs.cons; exact rfl; exact inferInstance; apply OBs.cons
 exact rfl; exact inferInstance; exact OBs.nil; intro k; apply Ot.agL; apply OtL.cons; exact Ot.sl (j := 0) rfl; apply OtL.cons; exact Ot.sl (j := 1) rfl
 apply OtL.cons; exact Ot.sl (j := 2) rfl; apply OtL.cons; exact Ot.sl (j := 3) rfl; apply OtL.cons; exact Ot.v inferInstance; exact OtL.nil)
      · have hq : q = L.length := by omega
        rw [List.drop_of_length_le (by omega)] at g2
        have hB : bef (gtL ⟨k, i, n, a⟩) L = q := by rw [← g2]; rfl
        (
 refine Gol.seq ?_; refine Gol.seq ?_; apply Gol.any; kernel_rfl; apply t0; exact sM rfl; apply t0
 exact sF rfl; apply t0; exact s_load rfl rfl rfl; apply t0; exact s_len rfl ln_sl; apply t0; exact s_ltn rfl rfl; apply t0; exact sM rfl
 apply sk; exact wnt_g rfl rfl rfl (by focus (simp [*]; done)); apply sk; exact wnt_g rfl rfl rfl (by focus (simp [*]; done)); apply sk; exact wnt_g rfl rfl rfl (by focus (simp [*]; done))
 apply sk; exact wnt_g rfl rfl rfl (by focus (simp [*]; done)); apply sk; exact wnt_g rfl rfl rfl (by focus (simp [*]; done)); apply sk; exact wnt_g rfl rfl rfl (by focus (simp [*]; done))
 apply sk; exact wnt_g rfl rfl rfl (by focus (simp [*]; done)); apply sk; exact wnt_g rfl rfl rfl (by focus (simp [*]; done)); apply sk; exact wnt_g rfl rfl rfl (by focus (simp [*]; done))
 apply t0; exact s_pick_f rfl (by focus (simp [*]; done)) rfl; dsimp only [reduceAdd, reduceMul]; exact dn; kernel_rfl; exact rfl; refine thn_n ?_)
        refine Gol.cond_f rfl rfl ?_
        (
 refine Gol.exit ?_; refine thn_x ?_; refine rnd_x ?_; refine inBlk_hit ?_; refine thn_n ?_
 apply Gol.sr; apply t1; exact s_lit PA.nil rfl (by omega); apply t0; exact sF rfl; apply t0; exact s_load rfl rfl rfl; apply t0; exact sM rfl
 apply t0; exact s_slL rfl rfl ⟨_, rfl⟩ (by omega) (by omega) rfl; apply tq; exact s_app rfl rfl rfl (rd_sb rfl (by simp only [byA_length, List.length_append, List.length_cons, List.length_nil, List.length_take, List.length_drop, List.length_replicate, List.length_map, Nat.mul_one, nameB_length, flat_length, List.length_set, inA_length, dsA_length, lsA_length, dA_length, lA_length] <;> omega)) rfl rfl rfl OneL.one (by omega)
 dsimp only [reduceAdd, reduceMul, reduceSub, na, ca, nbk, mc, ml]; apply t0; exact sA rfl
 dsimp only [reduceAdd, reduceMul]; exact dn; exact rfl; apply Gol.sr; apply t0; exact sM rfl; apply t0; exact s_loadW rfl rfl rfl (agu_cuv _)
 apply t0; exact sM rfl; dsimp only [reduceAdd, reduceMul, reduceSub, na, ca, nbk, mc, ml]
 apply tq; (with_reducible apply s_bld (ds := dA ⟨k, i, n, a⟩)); exact rfl; exact rfl; dsimp only [reduceAdd, reduceMul, reduceSub, na, ca, nbk, mc, ml]
 apply t1; exact s_lit (PA.cons rfl rfl rfl PA.nil) rfl (by first | omega | exact lb rfl | decide | (simp <;> omega) | (dsimp <;> omega)); apply tq; exact s_app rfl rfl rfl (rd_sl rfl rfl) (by simp only [byA_length, List.length_append, List.length_cons, List.length_nil, List.length_take, List.length_drop, List.length_replicate, List.length_map, Nat.mul_one, nameB_length, flat_length, List.length_set, inA_length, dsA_length, lsA_length, dA_length, lA_length] <;> omega) rfl rfl rfl (by omega)
 dsimp only [reduceAdd, reduceMul, reduceSub, na, ca, nbk, mc, ml]; apply t0; exact sA rfl
 dsimp only [reduceAdd, reduceMul]; exact dn; exact rfl; refine Gol.seq ?_)
        simp only [Nat.zero_add, Nat.sub_zero, List.drop_zero, List.append_nil, List.nil_append, show cu (.ag (dA ⟨k, i, n, a⟩)) = dA ⟨k, i, n, a⟩ from rfl, dsA_take]
        (
 apply Gol.region; apply t0; exact sM rfl; apply t0; exact sF rfl; apply t0; exact s_load rfl rfl rfl; apply t0; exact sM rfl
 apply t0; exact s_slL rfl ⟨_, rfl⟩ rfl (by omega) (by omega) rfl; apply tq; exact s_app rfl rfl rfl (rd_sb rfl (by simp only [byA_length, List.length_append, List.length_cons, List.length_nil, List.length_take, List.length_drop, List.length_replicate, List.length_map, Nat.mul_one, nameB_length, flat_length, List.length_set, inA_length, dsA_length, lsA_length, dA_length, lA_length] <;> omega)) (by simp only [byA_length, List.length_append, List.length_cons, List.length_nil, List.length_take, List.length_drop, List.length_replicate, List.length_map, Nat.mul_one, nameB_length, flat_length, List.length_set, inA_length, dsA_length, lsA_length, dA_length, lA_length] <;> omega) rfl rfl OneL.one (by omega)
 dsimp only [reduceAdd, reduceMul, reduceSub, na, ca, nbk, mc, ml]; apply t0; exact sF rfl
 apply n1; exact s_store rfl rfl rfl rfl rfl (lb rfl); dsimp only [reduceAdd, reduceMul]; exact dn; exact rfl; refine thn_n ?_
 apply Gol.sr; apply t0; exact s_loadW rfl rfl rfl (agu_cua _); apply n1; exact s_storeW rfl rfl rfl rfl rfl rfl; dsimp only [reduceAdd, reduceMul]
 exact dn; exact rfl; refine Gol.ret ?_)
        have hn : q + 1 + (L.length - q) = (insL L ⟨k, i, n, a⟩).length := by rw [insL_len]; omega
        simp only [hn, dsA_drop]
        have hcc : dsA (L.take q) ++ dA ⟨k, i, n, a⟩ ++ List.take ((L.length - q) * 11) (dsA (L.drop q)) = dsA (insL L ⟨k, i, n, a⟩) := by
          have := ins_cells (L := L) (x := ⟨k, i, n, a⟩) g1
          rw [List.drop_zero, dsA_take, dsA_drop, List.append_nil] at this
          rw [this, insL, hB]
        rw [hcc]
        (
 apply RetQ.mkM (by first | exact .inr rfl | exact .inl rfl); apply res_1 rfl; exact res_cell rfl rfl rfl (agu_cua _); apply out_ids [408, 33, 34, 35] rfl
 apply OBs.cons; exact rfl; exact inferInstance; apply OBs.cons; exact rfl; exact inferInstance; apply OBs.cons; exact rfl; exact inferInstance; apply OBs.cons
 exact rfl; exact inferInstance; exact OBs.nil; intro k; apply Ot.agL; apply OtL.cons; exact Ot.sl (j := 0) rfl; apply OtL.cons; exact Ot.sl (j := 1) rfl
 apply OtL.cons; exact Ot.sl (j := 2) rfl; apply OtL.cons; exact Ot.sl (j := 3) rfl; apply OtL.cons; exact Ot.v inferInstance; exact OtL.nil)
  · rw [f4] at hat
    refine Fresh.of (fn := Tryz.f124) Tryz.func124 rfl (lb rfl) fun w => ?_
    (
 apply Gol.sr; apply t1; exact s_box rfl rfl; apply t1; exact s_box rfl rfl; apply t1; exact s_alloc; dsimp only [reduceAdd, reduceMul]; exact dn
 exact rfl; apply Gol.sr; apply t0; exact s_loadW rfl rfl rfl (agu_cua _); apply tq; exact s_call (f := 142) rfl (eC rfl eN) (aC aL aN) hcp (lb rfl)
 dsimp only [reduceAdd, reduceMul, reduceSub, na, ca, nbk, mc, ml]; apply n1; exact s_storeW rfl rfl rfl rfl rfl rfl
 dsimp only [reduceAdd, reduceMul]; exact dn; exact rfl; apply Gol.sr; apply t0; exact s_loadW rfl rfl rfl (agu_cua _); apply t0; exact s_loadW rfl rfl rfl (agu_cuv _)
 apply tq; exact s_call (f := 143) rfl (eC rfl (eC rfl eN)) (aC (arg_ag (aC (arg_sl rfl) (aC (arg_sl rfl) (aC (arg_sl rfl) (aC (arg_sl rfl) (aC aL aN)))))) (aC aL aN)) hat (lb rfl)
 dsimp only [reduceAdd, reduceMul, reduceSub, na, ca, nbk, mc, ml]; apply t0; exact sA rfl
 dsimp only [reduceAdd, reduceMul]; exact dn; exact rfl; refine Gol.seq ?_; apply Gol.sr; apply t0; exact sM rfl; apply t0
 exact s_gen rfl rfl; dsimp only [reduceAdd, reduceMul]; exact dn; exact rfl)
    refine Gol.cond_t rfl (by simp) ?_
    (
 refine Gol.seq ?_; apply Gol.any; kernel_rfl; apply t0; exact sF rfl; apply t0; exact s_load rfl rfl rfl; apply t0
 exact sM rfl; apply t0; exact sF rfl; apply t0; exact s_load rfl rfl rfl; apply t0; exact sM rfl; apply t0; exact s_ixl rfl rfl rfl (by omega)
 apply t0; exact sF rfl; apply t0; exact s_load rfl rfl (d_amt' (by assumption)); apply t0; exact sM rfl; apply t0; exact s_addW (a := d.a) rfl rfl
 apply t0; exact s_ixl rfl rfl rfl (by omega); apply t0; exact sF rfl; apply n1; exact s_store rfl rfl rfl rfl rfl (by simp only [byA_length, List.length_append, List.length_cons, List.length_nil, List.length_take, List.length_drop, List.length_replicate, List.length_map, Nat.mul_one, nameB_length, flat_length, List.length_set, inA_length, dsA_length, lsA_length, dA_length, lA_length] <;> (first | omega | (dsimp [cu, Value.cells] <;> omega) | (simp [cu, Value.cells] <;> omega)))
 dsimp only [reduceAdd, reduceMul]; exact dn; kernel_rfl; exact rfl; refine thn_n ?_; refine Gol.seq ?_; refine Gol.seq ?_)
    rw [set_amt f1]
    have hs' : (L.set j ⟨d.k, d.i, d.n, addI d.a a⟩)[j]? = some ⟨d.k, d.i, d.n, addI d.a a⟩ := by simp [f6]
    have hl' : (L.set j ⟨d.k, d.i, d.n, addI d.a a⟩).length = L.length := List.length_set
    (
 apply Gol.region; apply t0; exact sF rfl; apply t0; exact s_load rfl rfl rfl; apply t0; exact sM rfl; apply t0; exact s_ixl rfl rfl rfl (by omega)
 apply t0; exact sF rfl; apply t0; exact s_load rfl rfl (d_amt' (by assumption)); apply t0; exact s_eq rfl rfl; dsimp only [reduceAdd, reduceMul]
 exact dn; exact rfl; refine thn_n ?_)
    by_cases h0 : addI d.a a = 0
    · have hP : putL L ⟨k, i, n, a⟩ = L.take j ++ L.drop (j + 1) := by unfold putL; dsimp only; rw [f3]; dsimp only; rw [if_pos h0, delL]; dsimp only; rw [f5]
      have e1 : (L.set j ⟨d.k, d.i, d.n, addI d.a a⟩).take j ++ (L.set j ⟨d.k, d.i, d.n, addI d.a a⟩).drop (j + 1) = L.take j ++ L.drop (j + 1) := by
        rw [List.take_set_of_le (Nat.le_refl _), List.drop_set_of_lt (by omega)]
      rw [hP, ← e1]
      generalize L.set j ⟨d.k, d.i, d.n, addI d.a a⟩ = R at hs' hl'
      have hlen := dsA_length R
      have hdl : ((dsA R).drop ((j + 1) * 11)).length = (L.length - (j + 1)) * 11 := by rw [List.length_drop, hlen, hl', ← Nat.sub_mul]
      have hde : List.take ((L.length - (j + 1)) * 11) ((dsA R).drop ((j + 1) * 11)) = (dsA R).drop ((j + 1) * 11) := List.take_of_length_le (by omega)
      have hd1 : ((dsA R).drop ((j + 1) * 11)).all AV.one = true := by rw [dsA_drop]; exact dsA_ones _
      refine Gol.cond_t rfl (by simp [h0]) ?_
      refine Gol.capCell (B := 0) (j := 0) rfl rfl rfl fun cc hcc => ?_
      dsimp only [cu, List.set]
      (
 apply Gol.any; kernel_rfl; apply t0; exact sF rfl; apply t0; exact s_load rfl rfl rfl; apply t0; exact sM rfl; apply t0
 exact s_slC rfl ⟨_, rfl⟩ (by omega) rfl; apply t0; exact sF rfl; apply t0; exact s_load rfl rfl rfl; apply t0; exact sM rfl; apply t0; exact s_addn rfl rfl (by simp <;> omega)
 apply t0; exact s_slS rfl ⟨_, rfl⟩ rfl (by first | omega | exact lb rfl | decide | (simp <;> omega) | (dsimp <;> omega)) (by omega) rfl; dsimp only [reduceAdd, reduceMul, reduceSub, na, ca, nbk, mc, ml]
 apply tq; apply s_appIn; exact rfl; exact rfl; exact rfl; apply rd_sb rfl; dsimp only; omega; dsimp only; rw [hde, hdl]
 dsimp only; omega; dsimp only; rw [hde]; exact hd1; omega; omega; dsimp only [reduceAdd, reduceMul, reduceSub, na, ca, nbk, mc, ml]
 apply t0; exact sF rfl; apply n1; exact s_store rfl rfl rfl rfl rfl (lb rfl); dsimp only [reduceAdd, reduceMul]; exact dn
 kernel_rfl; exact rfl; refine thn_n ?_; apply Gol.sr; apply t0; exact s_loadW rfl rfl rfl (agu_cua _); apply n1; exact s_storeW rfl rfl rfl rfl rfl rfl
 dsimp only [reduceAdd, reduceMul]; exact dn; exact rfl; refine Gol.ret ?_; refine thn_r ?_)
      have hn : j + (L.length - (j + 1)) = (R.take j ++ R.drop (j + 1)).length := by simp [hl']; omega
      rw [hde, hn]
      refine RetQ.mkM (.inr rfl) (res_1 rfl (res_cell rfl rfl rfl (agu_cua _))) (out_ids [32, 33, 34, 35] rfl (.cut rfl rfl rfl rfl ?_ inferInstance (.cons rfl inferInstance (.cons rfl inferInstance (.cons rfl inferInstance .nil)))) fun k => ?_)
      · dsimp only
        rw [dsA_append, ← dsA_take, ← dsA_drop]
        exact del_cells2 (by omega) (by rw [List.length_append, List.length_take]; omega)
      · exact Ot.agL (OtL.cons (Ot.sc (j := 0) rfl) (OtL.cons (Ot.sl (j := 1) rfl) (OtL.cons (Ot.sl (j := 2) rfl) (OtL.cons (Ot.sl (j := 3) rfl) (OtL.cons (Ot.v inferInstance) OtL.nil)))))
    · have hP : putL L ⟨k, i, n, a⟩ = L.set j ⟨d.k, d.i, d.n, addI d.a a⟩ := by unfold putL; dsimp only; rw [f3]; dsimp only; rw [if_neg h0, f5]
      rw [hP, hl']
      refine Gol.cond_f rfl (by simp [h0]) ?_
      (
 refine Gol.skip ?_; refine thn_n ?_; apply Gol.sr; apply t0; exact s_loadW rfl rfl rfl (agu_cua _); apply n1; exact s_storeW rfl rfl rfl rfl rfl rfl
 dsimp only [reduceAdd, reduceMul]; exact dn; exact rfl; refine Gol.ret ?_; refine thn_r ?_)
      (
 apply RetQ.mkM (by first | exact .inr rfl | exact .inl rfl); apply res_1 rfl; exact res_cell rfl rfl rfl (agu_cua _); apply out_ids [32, 33, 34, 35] rfl
 apply OBs.cons; exact rfl; exact inferInstance; apply OBs.cons; exact rfl; exact inferInstance; apply OBs.cons; exact rfl; exact inferInstance; apply OBs.cons
 exact rfl; exact inferInstance; exact OBs.nil; intro k; apply Ot.agL; apply OtL.cons; exact Ot.sl (j := 0) rfl; apply OtL.cons; exact Ot.sl (j := 1) rfl
 apply OtL.cons; exact Ot.sl (j := 2) rfl; apply OtL.cons; exact Ot.sl (j := 3) rfl; apply OtL.cons; exact Ot.v inferInstance; exact OtL.nil)
end Go.Proofs.YtneeclacmhhblaaGreat


namespace Go.Proofs.YtneeclacmhhblaaGreat
open Go.RowKit

theorem delta_eq (k i k' i' a a' : Int) (n n' : UInt64) (w : World) : (Op.equal 138 (.agg (deltaC k i n a)) (.agg (deltaC k' i' n' a'))).run Tryz.prog w = .ok (decide (k = k' ∧ i = i' ∧ n = n' ∧ a = a')) w := by
  have hI := Tryz.underlying3
  have hN := Tryz.underlying23
  have hC := Tryz.underlying136
  have key0 : EqFs Tryz.prog w 9998 (cellC k i n) (cellC k' i' n') (Tryz.prog.fieldsOf 136).toList [k == k', i == i', n == n'] := by
    simp only [Program.fieldsOf, Tryz.underlying136]
    refine .cons (by decide) (part_int hI rfl) (part_int hI rfl) (run_equalIn_int w _ _ _ _ _ _ hI) ?_
    refine .cons (by decide) (part_int hI rfl) (part_int hI rfl) (run_equalIn_int w _ _ _ _ _ _ hI) ?_
    refine .cons (by decide) (part_name (v := n) hN (by kernel_rfl) rfl) (part_name (v := n') hN (by kernel_rfl) rfl) (run_eq_name w 9996 hN (by kernel_rfl) Tryz.underlying5 (by kernel_rfl) _ _) ?_
    exact .nil
  have h0 := run_equalIn_struct (P := Tryz.prog) w 9998 136 (cellC k i n) (cellC k' i' n') (by kernel_rfl) (by kernel_rfl)
  rw [key0.run] at h0
  have hp : ∀ (k i : Int) (n : UInt64) (a : Int), (part 136 (deltaC k i n a) 0).run Tryz.prog w = .ok (.agg (cellC k i n)) w := fun k i n a => by
    have hag : (isAgg 136).run Tryz.prog w = .ok true w := by unfold isAgg; rw [Sem.run_bind, run_underlying hC w]; simp
    have hsz : (sizeOf 136).run Tryz.prog w = .ok 10 w := run_sizeOf' (by kernel_rfl) w
    unfold part
    rw [Sem.run_bind, hag]
    simp only [Result.andThen_ok, if_true, Sem.run_bind, hsz, Sem.run_pure]
    rfl
  have key : EqFs Tryz.prog w 9999 (deltaC k i n a) (deltaC k' i' n' a') (Tryz.prog.fieldsOf 138).toList [[k == k', i == i', n == n'].all id, a == a'] := by
    simp only [Program.fieldsOf, Tryz.underlying138]
    refine .cons (by decide) (hp k i n a) (hp k' i' n' a') h0 ?_
    refine .cons (by decide) (part_int hI rfl) (part_int hI rfl) (run_equalIn_int w _ _ _ _ _ _ hI) ?_
    exact .nil
  have h := run_equalIn_struct (P := Tryz.prog) w 9999 138 (deltaC k i n a) (deltaC k' i' n' a') (by kernel_rfl) (by kernel_rfl)
  rw [key.run] at h
  refine h.trans (congrArg (fun b => Result.ok b w) ?_)
  rw [Bool.eq_iff_iff]
  simp [Bool.and_eq_true, and_assoc]
instance (k i k' i' a a' : Int) (n n' : UInt64) : EqR Tryz.prog 138 (deltaC k i n a) (deltaC k' i' n' a') (decide (k = k' ∧ i = i' ∧ n = n' ∧ a = a')) := ⟨by kernel_rfl, delta_eq k i k' i' a a' n n'⟩
theorem lock_eq (n h n' h' : UInt64) (o t u o' t' u' : Int) (w : World) : (Op.equal 141 (.agg (lockC n h o t u)) (.agg (lockC n' h' o' t' u'))).run Tryz.prog w = .ok (decide (n = n' ∧ h = h' ∧ o = o' ∧ t = t' ∧ u = u')) w := by
  have hI := Tryz.underlying3
  have hN := Tryz.underlying23
  have key : EqFs Tryz.prog w 9999 (lockC n h o t u) (lockC n' h' o' t' u') (Tryz.prog.fieldsOf 141).toList [n == n', h == h', o == o', t == t', u == u'] := by
    simp only [Program.fieldsOf, Tryz.underlying141]
    refine .cons (by decide) (part_name (v := n) hN (by kernel_rfl) rfl) (part_name (v := n') hN (by kernel_rfl) rfl) (run_eq_name w 9997 hN (by kernel_rfl) Tryz.underlying5 (by kernel_rfl) _ _) ?_
    refine .cons (by decide) (part_name (v := h) hN (by kernel_rfl) rfl) (part_name (v := h') hN (by kernel_rfl) rfl) (run_eq_name w 9997 hN (by kernel_rfl) Tryz.underlying5 (by kernel_rfl) _ _) ?_
    refine .cons (by decide) (part_int hI rfl) (part_int hI rfl) (run_equalIn_int w _ _ _ _ _ _ hI) ?_
    refine .cons (by decide) (part_int hI rfl) (part_int hI rfl) (run_equalIn_int w _ _ _ _ _ _ hI) ?_
    refine .cons (by decide) (part_int hI rfl) (part_int hI rfl) (run_equalIn_int w _ _ _ _ _ _ hI) ?_
    exact .nil
  have hh := run_equalIn_struct (P := Tryz.prog) w 9999 141 (lockC n h o t u) (lockC n' h' o' t' u') (by kernel_rfl) (by kernel_rfl)
  rw [key.run] at hh
  refine hh.trans (congrArg (fun b => Result.ok b w) ?_)
  rw [Bool.eq_iff_iff]
  simp [Bool.and_eq_true]
instance (n h n' h' : UInt64) (o t u o' t' u' : Int) : EqR Tryz.prog 141 (lockC n h o t u) (lockC n' h' o' t' u') (decide (n = n' ∧ h = h' ∧ o = o' ∧ t = t' ∧ u = u')) := ⟨by kernel_rfl, lock_eq n h n' h' o t u o' t' u'⟩
end Go.Proofs.YtneeclacmhhblaaGreat

