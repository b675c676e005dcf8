/-
  The program logic: append onto an own slice, the bound on bytes wide. No condition.
-/
import Derived.Deep.DeepAppendWide
import Derived.Test.YtnghcfjejgdnlaaJn
set_option linter.unusedSimpArgs false
set_option linter.unusedVariables false
set_option linter.unusedSectionVars false
namespace Go.Proofs.Ytnghcfjejgdnlaa
open Go.RowKit
section
variable {P : Program} {t e : TypeId} {size bytes : Nat} {z : Value}
theorem run_app_w (hT : SlT P t e size bytes z) (ty : TypeId) {w : World} {base : Nat} {v : Value} {n : Nat} {xs : List Value} (hown : w.ownsRow base e size v n xs)
    {A : Option Addr} {m c : Nat} {news : List Value} (hrd : Rd w A news) (hl : news.length = m * size) (h1 : Ones news) (hbytes : ((n + m) + (n + m) / 4 + 192) * bytes ≤ 281474976710656) (hbase : base ≤ w.heap.size) :
    ∃ A' c' w', (Builtin.append_ #[t, t] ty #[v, .slice A m c]).run P w = .ok (.slice A' (n + m) c') w' ∧ w'.ownsRow base e size (.slice A' (n + m) c') (n + m) (xs ++ news) ∧ Below base w w' ∧ w.grownBy w' v.ownBlock ∧
      (Value.ownBlock (.slice A' (n + m) c') = v.ownBlock ∨ Value.ownBlock (.slice A' (n + m) c') = some w.heap.size) := by
  by_cases hm : news = []
  · have m0 : m = 0 := by
      subst hm
      rcases Nat.eq_zero_or_pos m with h | h
      · exact h
      · have := Nat.mul_pos h hT.pos; simp at hl; omega
    subst hm m0
    obtain ⟨hu, hi, hz, hp, hb0⟩ := hT
    cases hq : P.info? e with
    | none => simp [hq] at hi
    | some i =>
      obtain ⟨A', c', rfl⟩ := own_form hown
      have hr : (Builtin.append_ #[t, t] ty #[.slice A' n c', .slice A 0 c]).run P w = .ok (.slice A' n c') w := by
        have hc := (own_cap hown).1
        cases A <;> cases A' <;> simp [Builtin.append_, run_underlying hu, sizeOf, typeInfo, hq, Builtin.lenOf, Builtin.firstCells, hc, storeCells, loadCells, loadCellsFrom]
      exact ⟨A', c', w, by simpa using hr, by simpa using hown, Below.refl _ _, World.grownBy.refl w _, .inl (by simp [Value.ownBlock])⟩
  obtain ⟨hu, hi, hz, hp, hb0⟩ := hT
  cases hq : P.info? e with
  | none => simp [hq] at hi
  | some i =>
    simp only [hq, Option.map_some, Option.some.injEq, Prod.mk.injEq] at hi
    obtain ⟨i1, i2, i3⟩ := hi
    have hbel : ∀ w', w.grownBy w' v.ownBlock → Below base w w' := fun w' hg => ⟨hg.os, hg.tape, hg.output, hg.size, fun k hk => hg.block k (by omega) (fun e' => by have := own_block hown k e'.symm; omega)⟩
    have hle : n + m ≤ ((n + m) + (n + m) / 4 + 192) * bytes := Nat.le_trans (by omega) (Nat.le_mul_of_pos_right _ hb0)
    have hmax : n + m ≤ maxLen := by simp only [maxLen]; omega
    obtain ⟨g, o, rfl, hc⟩ := hrd.at hm
    have hc' : ∀ j u, news[j]? = some u → w.cell? ((⟨g, o, none⟩ : Addr).add j) = some u := fun j u hu => by
      have hadd : (⟨g, o, none⟩ : Addr).add j = ⟨g, o + j, none⟩ := by unfold Addr.add; split <;> simp_all
      rw [hadd]; exact hc j u hu
    have hm0 : m ≠ 0 := fun h => hm (List.eq_nil_of_length_eq_zero (by rw [hl, h, Nat.zero_mul]))
    obtain ⟨v', w', hr, h2, h3, _⟩ := run_append_own_wide (P := P) w base t ty e i z size bytes hu hq i1 i2 i3 hz hp v n xs hown ⟨g, o, none⟩ m c news hl hc' h1 hmax hbytes hbase
    have h5 : v'.ownBlock = v.ownBlock ∨ v'.ownBlock = some w.heap.size := by
      subst i2 i3
      rcases hown.2 with ⟨rfl, rfl⟩ | ⟨g', cap, cur, rfl, hbg, hg, hnc, hcm, hcs, htake⟩
      · have hr2 := run_append_nil (P := P) w t ty e i z hu hq i1 ⟨g, o, none⟩ m c news hl hc' (by omega) (by omega) (by have hb := hbytes; simp only [Nat.zero_add] at hb; exact Nat.le_trans (Nat.mul_le_mul_right _ (by omega)) hb)
        rw [hr] at hr2
        injection hr2 with e1 e2
        exact .inr (by rw [e1]; rfl)
      · by_cases hroom : n + m ≤ cap
        · have hfit : n * i.size + news.length ≤ cur.size := by rw [hl, hcs, ← Nat.add_mul]; exact Nat.mul_le_mul_right _ hroom
          have hr2 := run_append_room (P := P) w t ty e i hu hq g' n cap cur hg ⟨g, o, none⟩ m c news hl hc' h1 hroom hfit
          rw [hr] at hr2
          injection hr2 with e1 e2
          exact .inl (by rw [e1]; rfl)
        · have holds : ∀ j u, xs[j]? = some u → w.cell? ((⟨g', 0, none⟩ : Addr).add j) = some u := hown.cells (g := g') rfl
          have hr2 := run_append_grow (P := P) w t ty e i z hu hq i1 ⟨g', 0, none⟩ n cap xs hown.1 holds ⟨g, o, none⟩ m c news hl hc' (by omega) (by omega) (growslice_fits_wide (by omega) hbytes)
          rw [hr] at hr2
          injection hr2 with e1 e2
          exact .inr (by rw [e1]; rfl)
    obtain ⟨A', c', rfl⟩ := own_form h2
    exact ⟨A', c', w', hr, h2, hbel w' h3, h3, h5⟩
theorem wp_app_w (hT : SlT P t e size bytes z) {w : World} {base : Nat} {v : Value} {n : Nat} {xs : List Value} (hown : w.ownsRow base e size v n xs)
    {A : Option Addr} {m c : Nat} {news : List Value} (hrd : Rd w A news) (hl : news.length = m * size) (h1 : Ones news) (hbytes : ((n + m) + (n + m) / 4 + 192) * bytes ≤ 281474976710656) (hbase : base ≤ w.heap.size)
    {o : Oper} {a : Act} {K : Act → World → Prop} {Q : Exit → Act → World → Prop} (s x : Operand) (ho : o.op = .call { callee := .builtin .append, args := #[s, x], argTypes := #[t, t] }) (hs : a.eval s = v) (hx : a.eval x = .slice A m c)
    (h : ∀ A' c' w', w'.ownsRow base e size (.slice A' (n + m) c') (n + m) (xs ++ news) → Below base w w' → w.grownBy w' v.ownBlock →
      (Value.ownBlock (.slice A' (n + m) c') = v.ownBlock ∨ Value.ownBlock (.slice A' (n + m) c') = some w.heap.size) → K (a.put o.dst (.slice A' (n + m) c')) w') : o.wp P a w K Q := by
  obtain ⟨A', c', w', hr, h2, h3, h4, h5⟩ := run_app_w hT o.type hown hrd hl h1 hbytes hbase (c := c)
  unfold Oper.wp execOp
  simp only [ho, resolve, invoke, builtin, Sem.run_bind, Sem.run_pure, Result.andThen_ok, List.map_toArray, List.map_cons, List.map_nil, hs, hx, hr]
  exact h A' c' w' h2 h3 h4 h5
end
section
variable {P : Program} {t e : TypeId} {size bytes : Nat} {z : Value} {k : Nat} {H : AH} {T : AT} {d : Option Tmp} {ty : TypeId} {ps : String} {af : Array Edge} {gd : Option (Nat × Bool)}
theorem s_appW {x y : Operand} {b n m : Nat} {blk : ABlk} {u : AV} {cs : List AV} {U : List Nat} [hS : SI P t e size bytes z] (hx : ev T x = some (.sl b n)) (hb : hk H b = some blk) (hy : ev T y = some u) (hr : Rdv H size u m cs U)
    (hl : blk.cells.length = n * size) (he : blk.elem = e) (hz : blk.sz = size) (h1 : cs.all AV.one = true) (hbytes : ((n + m) + (n + m) / 4 + 192) * bytes ≤ 281474976710656) :
    StepU P ⟨d, .call { callee := .builtin .append, args := #[x, y], argTypes := #[t, t] }, ty, ps, af, gd⟩ k (b :: U) H T (.sl k (n + m)) [(k, some ⟨blk.cells ++ cs, e, size⟩), (b, none)] := by
  refine ⟨fun w0 M Hr E a hs hU hk0 hT K Q hK => ?_⟩
  have hb' := (hU b (by simp)).trans hb
  have hv := hT x (by simp [Op.operands, Call.operands]) _ hx
  obtain ⟨A2, c2, ys, hy2, _, hys, hysl, hrd⟩ := hr w0 M Hr E _ hs (fun b hb => hU b (by simp [hb])) (hT y (by simp [Op.operands, Call.operands]) _ hy)
  generalize hxv : a.eval x = v at hv
  cases hv with
  | sl b n hD hn =>
    obtain ⟨xs, hxs, hown⟩ := own_of hs hb' hn hl he hz
    refine wp_app_w hS.slt hown hrd hysl (hys.ones h1) hbytes (Nat.zero_le _) x y rfl hxv hy2 fun A' c' w' hown' _ hgr hor => ?_
    obtain ⟨l, rfl, rfl, hnl, hob, hB⟩ := loc_of hown'
    have hrow : Value.ownBlock (.slice ((E.L b).g.map fun g => ⟨g, 0, none⟩) n (E.L b).c) = (E.L b).g := by cases (E.L b).g <;> rfl
    obtain ⟨E', e1, e2, e3, e4, e5, e6⟩ := hs.move hb' (hk0 k (Nat.le_refl _) (by omega)) w' l ⟨blk.cells ++ cs, e, size⟩ hgr.size
      (fun g hg hne => hgr.block g hg (by rw [hrow]; exact fun e => hne e.symm)) hgr.os hgr.tape hgr.output
      (fun g hg => by
        rw [hob, hrow] at hor
        rcases hor with h | h
        · exact .inl (by rw [← h]; exact hg)
        · rw [hg] at h; injection h with h; exact .inr (by omega))
      (fun E' hw hle => hB E' _ hw ((hxs.mono hle).append (hys.mono hle)))
    have := hK (.slice (l.g.map fun g => ⟨g, 0, none⟩) (n + m) l.c) E' e4 e5 (fun b hb => (e6 b hb).imp id (fun e => ⟨by omega, by omega⟩)) (by rw [← e2] at hnl ⊢; exact .sl _ _ e3 hnl)
    rw [e1] at this
    exact this
end
end Go.Proofs.Ytnghcfjejgdnlaa
