/-
  A region that draws its order ends as its text's order does. No condition.
-/
import Derived.Test.YtnghcfjejgdnlaaAny
set_option linter.unusedSimpArgs false
set_option linter.unusedVariables false
set_option linter.unusedSectionVars false
namespace Go.Proofs.Ytnghcfjejgdnlaa
open Go.RowKit

section
variable {P : Program} {n : Nat} {w0 : World} {M : Nat → Prop} {Q : AQ}
def lst (listed : Array Bool) (i : Nat) : Bool := listed.getD i false
theorem lst_set {listed : Array Bool} {i : Nat} (hi : i < listed.size) (j : Nat) : lst (listed.setIfInBounds i true) j = if j = i then true else lst listed j := by
  unfold lst
  by_cases h : j = i
  · subst h; simp [hi]
  · rw [if_neg h, getD_set_ne false (Ne.symm h)]

/-- the state where the listed operations have been carried out -/
def StL (n : Nat) (w0 : World) (M : Nat → Prop) (k0 : Nat) (ops : List Oper) (tr : List Stp) (H0 : AH) (T0 : AT) (listed : Array Bool) (a : Act) (w : World) : Prop :=
  ∃ E : Env, E.w = w ∧ Sta w0 M (gsum (lst listed) (tr.map (·.Hn)) H0) E ∧ (∀ b, E.D b → b < k0 ∨ ∃ i, lst listed i = true ∧ i < ops.length ∧ k0 + 8 * i ≤ b ∧ b < k0 + 8 * i + 8) ∧
    TR E (gsum (lst listed) (ut ops tr) T0) a ∧ a.tmps.size = n ∧ a.defers = []

theorem ord_lst {ops : List Oper} {tr : List Stp} {listed : Array Bool} (hback : ∀ (i : Nat) o e, ops[i]? = some o → e ∈ o.after → Region.binds .any e = true → e.on < i) (hdn : Down ops (fun i => lst listed i = true)) {i : Nat} {o : Oper} (ho : ops[i]? = some o) (hi : lst listed i = false)
    (hrdy : ∀ e ∈ o.after, Region.binds .any e = true → lst listed e.on = true) {j : Nat} (hne : j ≠ i) (h : ordB (befs ops #[]) i j = true) : lst listed j = decide (j < i) := by
  have base : ∀ (S : Nat → Prop), Down ops S → ∀ i j, ((befs ops #[]).getD i 0).testBit j = true → S i → S j := fun S hS => befs_down hS ops #[] rfl (fun i j h => by simp at h)
  simp only [ordB, Bool.or_eq_true] at h
  rcases h with h | h
  · have h1 : j ≤ i := base (fun x => x ≤ i) (fun x p e hp he hb hx => by have := hback x p e hp he hb; omega) i j h (Nat.le_refl _)
    have h2 : lst listed j = true ∨ j = i := base (fun x => lst listed x = true ∨ x = i) (fun x p e hp he hb hx => by
      rcases hx with hx | hx
      · exact .inl (hdn x p e hp he hb hx)
      · subst hx; rw [ho] at hp; injection hp with hp; subst hp; exact .inl (hrdy e he hb)) i j h (.inr rfl)
    rw [h2.resolve_right hne]
    simp; omega
  · have h1 : i ≤ j := base (fun x => x ≤ j) (fun x p e hp he hb hx => by have := hback x p e hp he hb; omega) j i h (Nat.le_refl _)
    cases hj : lst listed j with
    | true => rw [base _ hdn j i h hj] at hi; cases hi
    | false => simp; omega

theorem any_go {k0 kE : Nat} {ops : List Oper} {tr : List Stp} {H0 H' : AH} {T0 T' : AT} (hlen : tr.length = ops.length) (hkE : kE = k0 + 8 * ops.length) (hH' : H' = gsum (fun _ => true) (tr.map (·.Hn)) H0) (hT' : T' = gsum (fun _ => true) (ut ops tr) T0)
    (hinf : ∀ (i : Nat) o s, ops[i]? = some o → tr[i]? = some s → Inf P ops k0 i o s (gsum (fun j => decide (j < i)) (tr.map (·.Hn)) H0) (gsum (fun j => decide (j < i)) (ut ops tr) T0))
    (hok : okReg k0 ops tr = true) (hback : ∀ (i : Nat) o e, ops[i]? = some o → e ∈ o.after → Region.binds .any e = true → e.on < i) (hd : dstsOk n ops = true) (hq : Q .normal kE H' T') :
    ∀ (fuel : Nat) (listed : Array Bool) (a : Act) (w : World), listed.size = ops.length → Down ops (fun i => lst listed i = true) → (List.range ops.length).countP (fun i => !lst listed i) ≤ fuel → StL n w0 M k0 ops tr H0 T0 listed a w →
      wpAny P .any ops.toArray (lif n w0 M Q) fuel listed a w := by
  have fin : ∀ (listed : Array Bool) (a : Act) (w : World), listed.size = ops.length → Region.ready .any ops.toArray listed = [] → StL n w0 M k0 ops tr H0 T0 listed a w → lif n w0 M Q .normal a w := by
    intro listed a w hsz hr ⟨E, e1, e2, e3, e4, e5, e6⟩
    have hall : ∀ i, i < ops.length → lst listed i = true := by
      intro i
      induction i using Nat.strongRecOn with
      | _ i ih =>
        intro hi
        cases hl : lst listed i with
        | true => rfl
        | false =>
          have : i ∈ Region.ready .any ops.toArray listed := by
            rw [mem_ready]
            refine ⟨?_, ops[i], by simp [List.getElem?_eq_getElem hi], fun e he hb => ?_⟩
            · have : i < listed.size := by omega
              simp [lst, this] at hl ⊢
              exact hl
            · have hlt := hback i _ e (List.getElem?_eq_getElem hi) he hb
              exact ih e.on hlt (by omega)
          rw [hr] at this
          cases this
    have s1 : gsum (lst listed) (tr.map (·.Hn)) H0 = H' := by rw [hH']; exact gsum_same (fun j hj => hall j (by simpa [hlen] using hj))
    have s2 : gsum (lst listed) (ut ops tr) T0 = T' := by rw [hT']; exact gsum_same (fun j hj => hall j (by rw [ut_length hlen] at hj; exact hj))
    rw [s1] at e2
    rw [s2] at e4
    exact ⟨kE, H', T', ⟨E, e1, e2, fun b hb => by rcases e3 b hb with h | ⟨i, _, hi, _, h⟩ <;> omega, e4, e5, e6⟩, hq⟩
  intro fuel
  induction fuel with
  | zero =>
    intro listed a w hsz hdn hcnt hst
    have hr : Region.ready .any ops.toArray listed = [] := by
      cases hr : Region.ready .any ops.toArray listed with
      | nil => rfl
      | cons i l =>
        have hi : i ∈ Region.ready .any ops.toArray listed := by rw [hr]; simp
        rw [mem_ready] at hi
        obtain ⟨hl, o, ho, _⟩ := hi
        have hlt : i < ops.length := by have := (Array.getElem?_eq_some_iff.1 ho).1; simpa using this
        have hz : (List.range ops.length).countP (fun i => !lst listed i) = 0 := by omega
        have := List.countP_eq_zero.1 hz i (by simpa using hlt)
        have hs : i < listed.size := by omega
        simp [lst, hs] at this hl
        rw [hl] at this; simp at this
    exact ⟨hr, fin listed a w hsz hr hst⟩
  | succ fuel ih =>
    intro listed a w hsz hdn hcnt hst
    refine ⟨fun hr => fin listed a w hsz hr hst, fun i hi => ?_⟩
    rw [mem_ready] at hi
    obtain ⟨hl, o, ho', hrdy⟩ := hi
    have ho : ops[i]? = some o := by simpa using ho'
    have hlt : i < ops.length := (List.getElem?_eq_some_iff.1 ho).1
    have hil : lst listed i = false := by
      have hs : i < listed.size := by omega
      simp [lst, hs] at hl ⊢
      exact hl
    have hts : tr[i]? = some tr[i] := List.getElem?_eq_getElem (by omega)
    generalize tr[i] = s at hts
    have hord : ∀ (j : Nat) p r, j ≠ i → ops[j]? = some p → tr[j]? = some r → lst listed j = decide (j < i) ∨ pairOk ops #[] i j o p s r = true := by
      intro j p r hne hp hr
      have h := (okReg_pair hok ho hts hp hr (Ne.symm hne)).1
      unfold pairOk at h
      rw [Bool.or_eq_true] at h
      rcases h with h | h
      · exact .inl (ord_lst (tr := tr) hback hdn ho hil hrdy hne h)
      · exact .inr (by unfold pairOk; rw [Bool.or_eq_true]; exact .inr h)
    have hij : lst listed i = decide (i < i) := by simp [hil]
    obtain ⟨E, e1, e2, e3, e4, e5, e6⟩ := hst
    subst e1
    have getTr : ∀ (j : Nat) u, (tr.map (·.Hn))[j]? = some u → ∃ p r, ops[j]? = some p ∧ tr[j]? = some r ∧ u = r.Hn := fun j u hu => by
      rw [List.getElem?_map] at hu
      cases hr : tr[j]? with
      | none => rw [hr] at hu; cases hu
      | some r =>
        rw [hr] at hu; simp at hu
        have hj : j < ops.length := by have := (List.getElem?_eq_some_iff.1 hr).1; omega
        exact ⟨ops[j], r, List.getElem?_eq_getElem hj, rfl, hu.symm⟩
    have getUt : ∀ (j : Nat) u, (ut ops tr)[j]? = some u → ∃ p r, ops[j]? = some p ∧ tr[j]? = some r ∧ u = tl p.dst r.v := fun j u hu => by
      have hj : j < ops.length := by have := (List.getElem?_eq_some_iff.1 hu).1; rw [ut_length hlen] at this; exact this
      have hj2 : tr[j]? = some tr[j] := List.getElem?_eq_getElem (by omega)
      have := ut_get (List.getElem?_eq_getElem hj) hj2
      rw [this] at hu
      injection hu with hu
      exact ⟨ops[j], tr[j], List.getElem?_eq_getElem hj, hj2, hu.symm⟩
    -- what the step needs is as in the text's order
    have hT : ∀ t, t ∈ o.looksAt ops.toArray → lk (gsum (fun j => decide (j < i)) (ut ops tr) T0) t = lk (gsum (lst listed) (ut ops tr) T0) t := by
      intro t ht
      rw [lk_gk, lk_gk]
      refine gsum_congr (fun j u hu hn => ?_) rfl
      obtain ⟨p, r, hp, hr, rfl⟩ := getUt j u hu
      by_cases hji : j = i
      · subst hji; exact hij.symm
      · rcases hord j p r hji hp hr with h | h
        · exact h.symm
        · simp only [pairOk, ordB, Bool.or_eq_true, Bool.and_eq_true] at h
          cases hd : p.dst with
          | none => rw [hd] at hn; exact absurd rfl hn
          | some d =>
            rw [hd] at h hn
            simp only [tl, gk, ne_eq, ite_eq_right_iff, reduceCtorEq, imp_false, Classical.not_not] at hn
            subst hn
            rcases h with h | h
            · simp at h
            · have := h.1.1.1
              simp [ht] at this
    have hU : ∀ b ∈ s.U, hk (gsum (lst listed) (tr.map (·.Hn)) H0) b = hk (gsum (fun j => decide (j < i)) (tr.map (·.Hn)) H0) b := by
      intro b hb
      rw [hk_gk, hk_gk]
      congr 1
      refine gsum_congr (fun j u hu hn => ?_) rfl
      obtain ⟨p, r, hp, hr, rfl⟩ := getTr j u hu
      by_cases hji : j = i
      · subst hji; exact hij
      · rcases hord j p r hji hp hr with h | h
        · exact h
        · simp only [pairOk, ordB, Bool.or_eq_true, Bool.and_eq_true] at h
          rcases h with h | h
          · simp at h
          · have := List.all_eq_true.1 h.1.2 b (by simp [hb])
            rw [ne_eq, gk_none, Classical.not_not] at hn
            simp only [Bool.not_eq_true', List.contains_eq_mem, decide_eq_false_iff_not] at this
            exact absurd hn this
    -- what is so behind the step
    have next : ∀ (x : Value) (E' : Env), Sta w0 M (s.Hn ++ gsum (lst listed) (tr.map (·.Hn)) H0) E' → E.le E' → (∀ b, E'.D b → E.D b ∨ (k0 + 8 * i ≤ b ∧ b < k0 + 8 * i + 8)) → RV E' s.v x →
        wpAny P .any ops.toArray (lif n w0 M Q) fuel (listed.setIfInBounds i true) (a.put o.dst x) E'.w := by
      intro x E' hs' hle hD' hx
      have hset := lst_set (listed := listed) (i := i) (by omega)
      have hlater : ∀ (j : Nat) p r, i < j → ops[j]? = some p → tr[j]? = some r → lst (listed.setIfInBounds i true) j = true → pairOk ops #[] i j o p s r = true := by
        intro j p r hj hp hr hlj
        rw [hset, if_neg (by omega)] at hlj
        rcases hord j p r (by omega) hp hr with h | h
        · rw [hlj] at h; simp at h; omega
        · exact h
      refine ih _ _ _ (by simpa using hsz) ?_ ?_ ⟨E', rfl, hs'.congr fun b => ?_, ?_, ?_, ?_, ?_⟩
      · intro j p e hp he hb hj
        show lst _ e.on = true
        have hj' : lst (listed.setIfInBounds i true) j = true := hj
        rw [hset] at hj' ⊢
        split
        · rfl
        · split at hj'
          · rename_i h; subst h; rw [ho] at hp; injection hp with hp; subst hp; exact hrdy e he hb
          · exact hdn j p e hp he hb hj'
      · have hlt2 : (List.range ops.length).countP (fun j => !lst (listed.setIfInBounds i true) j) < (List.range ops.length).countP (fun j => !lst listed j) := by
          have hmem : i ∈ List.range ops.length := by simpa using hlt
          obtain ⟨l1, l2, he⟩ := List.append_of_mem hmem
          have nd : (List.range ops.length).Nodup := List.nodup_range
          rw [he] at nd ⊢
          have hni : ∀ j ∈ l1 ++ l2, j ≠ i := by
            intro j hj e
            subst e
            rw [List.nodup_append] at nd
            simp only [List.nodup_cons, List.mem_cons] at nd
            rcases List.mem_append.1 hj with h | h
            · exact nd.2.2 j h j (.inl rfl) rfl
            · exact nd.2.1.1 h
          have ceq : ∀ l : List Nat, (∀ j ∈ l, j ≠ i) → l.countP (fun j => !lst (listed.setIfInBounds i true) j) = l.countP (fun j => !lst listed j) := fun l hl => List.countP_congr fun j hj => by rw [hset, if_neg (hl j hj)]
          simp only [List.countP_append, List.countP_cons]
          rw [ceq l1 (fun j hj => hni j (by simp [hj])), ceq l2 (fun j hj => hni j (by simp [hj])), hset, if_pos rfl, hil]
          simp
        omega
      · rw [hk_gk, hk_gk]
        congr 1
        rw [gk_app]
        cases hg : gk s.Hn b with
        | some y =>
          refine gsum_last (i := i) (u := s.Hn) (by rw [List.getElem?_map, hts]; rfl) (by rw [hset, if_pos rfl]) hg fun j r hj hr hlj => ?_
          obtain ⟨p, r', hp, hr', rfl⟩ := getTr j r hr
          have h := hlater j p r' hj hp hr' hlj
          simp only [pairOk, ordB, Bool.or_eq_true, Bool.and_eq_true] at h
          rcases h with h | h
          · simp at h
          · have hbm : b ∈ s.Hn.map (·.1) := by
              cases hm : decide (b ∈ s.Hn.map (·.1)) with
              | true => exact of_decide_eq_true hm
              | false => rw [gk_none.2 (of_decide_eq_false hm)] at hg; cases hg
            have := List.all_eq_true.1 h.1.2 b (List.mem_append_right _ hbm)
            rw [gk_none]
            simpa using this
        | none =>
          refine gsum_congr (fun j u hu hn => ?_) rfl
          rw [hset]
          split
          · rename_i h; subst h
            rw [List.getElem?_map, hts] at hu; simp at hu; subst hu
            exact absurd hg hn
          · rfl
      · intro b hb
        rcases hD' b hb with h | h
        · rcases e3 b h with h | ⟨j, h1, h2⟩
          · exact .inl h
          · refine .inr ⟨j, ?_, h2⟩
            rw [hset]; split
            · rfl
            · exact h1
        · exact .inr ⟨i, by rw [hset, if_pos rfl], hlt, h⟩
      · have hdd : ∀ t, o.dst = some t → t < n := fun t ht => by
          have := List.all_eq_true.1 hd o (List.mem_of_getElem? ho)
          rw [ht] at this
          simpa [Nat.blt_eq] using this
        have hput : TR E' (tl o.dst s.v ++ gsum (lst listed) (ut ops tr) T0) (a.put o.dst x) := by
          have h4 := e4.mono hle
          cases hdst : o.dst with
          | none => exact h4
          | some t => exact h4.put (by rw [e5]; exact hdd t hdst) hx
        intro t u hu
        refine hput t u ?_
        rw [← hu, lk_gk, lk_gk, gk_app]
        cases hg : gk (tl o.dst s.v) t with
        | some y =>
          refine (gsum_last (i := i) (u := tl o.dst s.v) (ut_get ho hts) (by rw [hset, if_pos rfl]) hg fun j r hj hr hlj => ?_).symm
          obtain ⟨p, r', hp, hr', rfl⟩ := getUt j r hr
          have h := hlater j p r' hj hp hr' hlj
          simp only [pairOk, ordB, Bool.or_eq_true, Bool.and_eq_true] at h
          rcases h with h | h
          · simp at h
          · cases hp2 : p.dst with
            | none => rfl
            | some d =>
              cases ho2 : o.dst with
              | none => rw [ho2] at hg; cases hg
              | some d' =>
                rw [hp2, ho2] at h
                rw [ho2] at hg
                simp only [tl, gk] at hg ⊢
                split at hg
                · rename_i e; subst e
                  have h3 := h.1.1.1
                  rw [if_neg]
                  intro e; subst e; simp at h3
                · cases hg
        | none =>
          refine (gsum_congr (fun j u' hu' hn => ?_) rfl).symm
          rw [hset]
          split
          · rename_i h; subst h
            rw [ut_get ho hts] at hu'; injection hu' with hu'; subst hu'
            exact absurd hg hn
          · rfl
      · cases o.dst <;> simp [Act.put, e5]
      · cases o.dst <;> exact e6
    unfold wpOp
    rw [ho']
    simp only []
    rcases hinf i o s ho hts with ⟨hg, hs⟩ | ⟨hg, rfl⟩
    · have hw := wanted_of (E := E) (a := a) hg (fun t ht u hu => e4 t u (by rw [← hT t ht]; exact hu))
      rw [if_pos hw]
      refine .inl (hs.run w0 M _ E a e2 hU (fun b h1 h2 hD => ?_) (fun x hx u hu => ?_) _ _ fun x E' h1 h2 h3 h4 => next x E' h1 h2 h3 h4)
      · rcases e3 b hD with h | ⟨j, hj, _, h3, h4⟩
        · omega
        · have : j = i := by omega
          subst this; rw [hil] at hj; cases hj
      · cases x with
        | tmp t =>
          refine e4.ev (x := .tmp t) ?_
          show lk _ t = some u
          rw [← hT t (List.mem_append_left _ (List.mem_filterMap.2 ⟨.tmp t, by simpa using hx, rfl⟩))]
          exact hu
        | const c => exact e4.ev (x := .const c) hu
        | global g => exact e4.ev (x := .global g) hu
        | func f => exact e4.ev (x := .func f) hu
    · have hw := wanted_of (E := E) (a := a) hg (fun t ht u hu => e4 t u (by rw [← hT t ht]; exact hu))
      rw [if_neg (by rw [hw]; simp)]
      exact next undef E e2 (.refl E) (fun b hb => .inl hb) (.v _)

theorem Gol.any {k0 kE : Nat} {id : Nat} {ops : List Oper} {tr : List Stp} {H H' : AH} {T T' : AT} (hm : P.follows .mixedOrders = true) (h : Trc P ops k0 ops H T tr H' T' kE) (hok : okReg k0 ops tr = true) (hd : dstsOk n ops = true) (hq : Q .normal kE H' T') :
    Gol P n w0 M (.region id ops.toArray true) k0 H T Q := fun a w ⟨E, e1, e2, e3, e4, e5, e6⟩ => by
  obtain ⟨h1, h2, h3, h4, h5⟩ := h.b.info
  subst e1
  have hback : ∀ (i : Nat) o e, ops[i]? = some o → e ∈ o.after → Region.binds .any e = true → e.on < i := by
    intro i o e ho he hb
    have hi : i < ops.length := (List.getElem?_eq_some_iff.1 ho).1
    have hs : tr[i]? = some tr[i] := List.getElem?_eq_getElem (by omega)
    simp only [okReg, Bool.and_eq_true] at hok
    have mem : ((o, tr[i]), i) ∈ (ops.zip tr).zipIdx := by
      rw [List.mem_zipIdx_iff_getElem?]
      simp [List.getElem?_zip_eq_some, ho]
    have a2 := List.all_eq_true.1 hok.1 _ mem
    have := Array.all_eq_true_iff_forall_mem.1 a2 e he
    simp only [hb, Bool.not_true, Bool.false_or] at this
    simpa [Nat.blt_eq] using this
  refine wp_region_any hm ?_
  obtain ⟨t1, t2⟩ := e2.tick { E.w with drawn := E.w.drawn + 1 } rfl rfl rfl rfl
  have hl0 : ∀ i, lst (Array.replicate ops.length false) i = false := fun i => by
    unfold lst
    rw [Array.getD_eq_getD_getElem?, Array.getElem?_replicate]
    split <;> rfl
  have hf : lst (Array.replicate ops.length false) = fun _ => false := funext hl0
  have := any_go (w0 := w0) (M := M) (Q := Q) (n := n) h1 h2 h3 h4 h5 hok hback hd hq ops.length (Array.replicate ops.length false) a { E.w with drawn := E.w.drawn + 1 } (by simp)
    (fun i o e _ _ _ (hi : lst (Array.replicate ops.length false) i = true) => by rw [hl0] at hi; cases hi) (Nat.le_trans List.countP_le_length (by simp))
    ⟨{ E with w := { E.w with drawn := E.w.drawn + 1 } }, rfl, by rw [hf, gsum_false]; exact t1, fun b hb => .inl (e3 b hb), by rw [hf, gsum_false]; exact e4.mono t2, e5, e6⟩
  simpa using this
end
end Go.Proofs.Ytnghcfjejgdnlaa
