/-
  The program logic: slices whose capacity is known. No condition.
-/
import Derived.Test.YtnghcfjejgdnlaaJn
set_option linter.unusedSimpArgs false
set_option linter.unusedVariables false
set_option linter.unusedSectionVars false
namespace Go.Proofs.Ytnghcfjejgdnlaa
open Go.RowKit
theorem ln_sc {b n c : Nat} : Lnv (.sc b n c) n := fun E x h => by cases h; exact ⟨_, _, rfl⟩
section
variable {H : AH}
/-- the elements of a slice of known capacity; its block may hold more -/
theorem rd_sc {b n c sz : Nat} {blk : ABlk} {cs : List AV} (hb : hk H b = some blk) (hc : blk.cells.take (n * sz) = cs) (hl : n * sz ≤ blk.cells.length) : Rdv H sz (.sc b n c) n cs [b] := fun _ _ _ E x hs hU h => by
  have hb' := (hU b (by simp)).trans hb
  subst hc
  cases h with
  | sc b n c hD hc hn =>
    cases e : (E.L b).g with
    | none =>
      have h0 := ((hs.own b blk hb').2.2.none e)
      have hn0 : n = 0 := by omega
      subst hn0
      exact ⟨_, c, [], rfl, hn, by rw [h0.1]; simp; exact RVs.nil E, by simp, .inl rfl⟩
    | some g =>
      obtain ⟨xs, h1, h2⟩ := own_read hs hb' e
      refine ⟨_, c, xs.take (n * sz), rfl, hn, h1.take _, by rw [List.length_take, h1.1]; omega, .inr ⟨g, 0, rfl, fun j y hy => ?_⟩⟩
      rw [List.getElem?_take] at hy
      split at hy
      · rw [Nat.zero_add]; exact h2 j y hy
      · cases hy
theorem arg_sc {b n c : Nat} {blk : ABlk} {cs : List AV} (hb : hk H b = some blk) (m : Nat) (hc : blk.cells.take m = cs) [h : CloL blk.cells] (hm : n = 0 → m = 0) : Arg H (.sc b n c) (.ex n false cs) [b] := fun _ _ Hr E x hs hU hx E0 hw hS => by
  have hb' := (hU b (by simp)).trans hb
  subst hc
  cases hx with
  | sc b n c hD hcc hn =>
    cases eg : (E.L b).g with
    | none =>
      have h0 := ((hs.own b blk hb').2.2.none eg)
      rw [h0.1, List.take_nil]; exact .ex0 _ _ _ _ hn (fun h => by cases h)
    | some g =>
      obtain ⟨xs, h1, h2⟩ := own_read hs hb' eg
      have h3 := (CloL.rvs (h := h) (sees_free hw hS) h1).take m
      refine .ex _ _ _ g 0 _ _ hn (fun h => by cases h) (by rw [hw]; exact hs.lt hb' eg) (hS g) h3.1 (fun j y hy => ?_) h3.2
      rw [List.getElem?_take] at hy
      split at hy
      · rw [hw, Nat.zero_add]; exact h2 j y hy
      · cases hy
theorem arg_sc1 {b n c : Nat} {blk : ABlk} {cs : List AV} (hb : hk H b = some blk) (hc : blk.cells.take n = cs) [h : CloL blk.cells] : Arg H (.sc b n c) (.ex n false cs) [b] := arg_sc hb n hc (fun h => h)
end
section
variable {P : Program} {t e : TypeId} {size bytes : Nat} {z : Value} {k : Nat} {H : AH} {T : AT} {d : Option Tmp} {ty : TypeId} {ps : String} {af : Array Edge} {gd : Option (Nat × Bool)}
theorem s_makeC {x y : Operand} {l c : Nat} {kl kc : IntKind} {z0 : Value} [hS : SI P t e size bytes z] (hx : ev T x = some (.v (.int kl (l : Int)))) (hy : ev T y = some (.v (.int kc (c : Int)))) (hz0 : z.cells = Array.replicate size z0) (hlc : l ≤ c) (hb : bytes * c ≤ 281474976710656) :
    StepU P ⟨d, .makeSlice t x y, ty, ps, af, gd⟩ k [] H T (.sc k l c) [(k, some ⟨List.replicate (l * size) (.v z0), e, size⟩)] :=
  .of_alloc fun w0 M Hr E a hs hU hT => by
    have h1 := (hT x (by simp [Op.operands]) _ hx).v_inv
    have h2 := (hT y (by simp [Op.operands]) _ hy).v_inv
    have hp := hS.pos
    have hmk := run_mk hS.slt kl kc (l : Int) (c : Int) (by omega) (by omega) (by have := hb; rw [← Int.natCast_mul]; omega) E.w
    simp only [Int.toNat_natCast] at hmk
    have hcm : c ≤ maxLen := by
      have := Nat.le_mul_of_pos_left c hS.bpos
      simp only [maxLen]; omega
    have hcells : (madeCells z.cells (c * size)).toList = List.replicate (c * size) z0 := by
      rw [hz0]
      apply List.ext_getElem
      · simp [madeCells]
      · intro i h1 h2
        simp only [madeCells, Array.size_replicate, Array.toList_map, List.getElem_map, List.getElem_replicate]
        have : ∀ j, (Array.replicate size z0)[j % size]! = z0 := fun j => by
          have hlt : j % size < size := Nat.mod_lt _ hp
          simp [hlt]
        exact this _
    refine ⟨_, madeCells z.cells (c * size), c, by simp only [execOp, h1, h2, Sem.run_bind, Sem.run_pure, hmk, Result.andThen_ok]; rfl, hcm, by rw [size_madeCells], ?_, ?_, fun E' hL hD => ?_⟩
    · simp only [List.length_replicate, size_madeCells]; exact Nat.mul_le_mul_right _ hlc
    · simp only [List.length_replicate]
      rw [hcells, List.take_replicate, Nat.min_eq_left (Nat.mul_le_mul_right _ hlc)]
      have := RVs.vals (E := E) (List.replicate (l * size) z0)
      simpa using this
    · have : RV E' (.sc k l c) (.slice ((E'.L k).g.map fun g => ⟨g, 0, none⟩) l c) := .sc _ _ _ hD (by rw [hL]) hlc
      rw [hL] at this
      exact this
/-- append in place -/
theorem s_appC {x y : Operand} {b n m c : Nat} {blk : ABlk} {u : AV} {cs : List AV} {U : List Nat} [hS : SI P t e size bytes z] (hx : ev T x = some (.sc b n c)) (hb : hk H b = some blk) (hy : ev T y = some u) (hr : Rdv H size u m cs U)
    (hl : blk.cells.length = n * size) (he : blk.elem = e) (hz : blk.sz = size) (h1 : cs.all AV.one = true) (hroom : n + m ≤ c) (hc0 : 0 < c) :
    StepU P ⟨d, .call { callee := .builtin .append, args := #[x, y], argTypes := #[t, t] }, ty, ps, af, gd⟩ k (b :: U) H T (.sc b (n + m) c) [(b, some { blk with cells := blk.cells ++ cs })] := by
  refine ⟨fun w0 M Hr E a hs hU hk0 hT K Q hK => ?_⟩
  have hb' := (hU b (by simp)).trans hb
  have hv := hT x (by simp [Op.operands, Call.operands]) _ hx
  obtain ⟨A2, c2, ys, hy2, _, hys, hysl, hrd⟩ := hr w0 M Hr E _ hs (fun b hb => hU b (by simp [hb])) (hT y (by simp [Op.operands, Call.operands]) _ hy)
  generalize hxv : a.eval x = v at hv
  cases hv with
  | sc b n c hD hcc hn =>
    obtain ⟨o1, o2, o3⟩ := hs.own b blk hb'
    cases eg : (E.L b).g with
    | none => have := (o3.none eg).2; omega
    | some g =>
      obtain ⟨cur, c1, c2', c3, c4, c5⟩ := o3.at eg
      subst he hz
      have hi := hS.info
      cases hq : P.info? blk.elem with
      | none => simp [hq] at hi
      | some i =>
        simp only [hq, Option.map_some, Option.some.injEq, Prod.mk.injEq] at hi
        obtain ⟨i1, i2, i3⟩ := hi
        obtain ⟨w', hrun, hg', hoth, hsz, hos⟩ : ∃ w', (Builtin.append_ #[t, t] ty #[.slice (some ⟨g, 0, none⟩) n c, .slice A2 m c2]).run P E.w = .ok (.slice (some ⟨g, 0, none⟩) (n + m) c) w' ∧ w'.heap[g]? = some (.cells (cur.toList.take (n * blk.sz) ++ ys ++ cur.toList.drop (n * blk.sz + ys.length)).toArray blk.elem (0, 0)) ∧ (∀ g', g' ≠ g → w'.heap[g']? = E.w.heap[g']?) ∧ w'.heap.size = E.w.heap.size ∧ w'.os = E.w.os ∧ w'.tape = E.w.tape ∧ w'.output = E.w.output := by
          by_cases hm0 : ys = []
          · have m0 : m = 0 := by
              rw [hm0] at hysl
              rcases Nat.eq_zero_or_pos m with h | h
              · exact h
              · have := Nat.mul_pos h hS.pos; simp at hysl; omega
            subst hm0 m0
            refine ⟨E.w, ?_, ?_, fun _ _ => rfl, rfl, rfl, rfl, rfl⟩
            · cases A2 <;> simp [Builtin.append_, run_underlying hS.under, sizeOf, typeInfo, hq, Builtin.lenOf, Builtin.firstCells, hn, storeCells, loadCells, loadCellsFrom]
            · rw [c1]; simp
          · rcases hrd with hrd | ⟨g2, o2', rfl, hc⟩
            · exact absurd hrd hm0
            have hfit : n * i.size + ys.length ≤ cur.size := by
              rw [hysl, c3, hcc, i2, ← Nat.add_mul]; exact Nat.mul_le_mul_right _ hroom
            have hr2 := run_append_room (P := P) E.w t ty blk.elem i hS.under hq g n c cur c1 ⟨g2, o2', none⟩ m c2 ys (by rw [i2]; exact hysl) (fun j u hu => by
              have hadd : (⟨g2, o2', none⟩ : Addr).add j = ⟨g2, o2' + j, none⟩ := by unfold Addr.add; split <;> simp_all
              rw [hadd]; exact hc j u hu) (hys.ones h1) hroom hfit
            rw [i2] at hr2
            exact ⟨_, hr2, setRow_heap E.w g cur _ blk.elem (0, 0) c1, fun g' hne => setRow_other E.w g g' _ hne, by simp [World.setRow], rfl, rfl, rfl⟩
        obtain ⟨k1, k2⟩ := hs.set hb' eg w' hsz hoth hos.1 hos.2.1 hos.2.2 (blk.cells ++ cs) (fun E' hw hle => by
          have hcl : cur.toList.length = cur.size := by simp
          have hle1 : n * blk.sz + ys.length ≤ cur.size := by rw [hysl, c3, hcc, ← Nat.add_mul]; exact Nat.mul_le_mul_right _ hroom
          have e1 : (cur.toList.take (n * blk.sz) ++ ys).length = (blk.cells ++ cs).length := by
            rw [List.length_append, List.length_append, List.length_take, hl, hys.1, hcl]; omega
          refine .mk eg ⟨_, by rw [hw]; exact hg', c2', ?_, ?_, ?_⟩
          · show (cur.toList.take (n * blk.sz) ++ ys ++ cur.toList.drop (n * blk.sz + ys.length)).toArray.size = _
            rw [← c3]; simp only [List.size_toArray, List.length_append, List.length_take, List.length_drop, hcl]; omega
          · show (blk.cells ++ cs).length ≤ (cur.toList.take (n * blk.sz) ++ ys ++ cur.toList.drop (n * blk.sz + ys.length)).toArray.size
            rw [← e1]; simp only [List.size_toArray, List.length_append]; omega
          · show RVs E' (blk.cells ++ cs) ((cur.toList.take (n * blk.sz) ++ ys ++ cur.toList.drop (n * blk.sz + ys.length)).toArray.toList.take (blk.cells ++ cs).length)
            rw [← e1, List.take_left]
            rw [hl] at c5
            exact (c5.mono hle).append (hys.mono hle))
        have hx' : RV { E with w := w' } (.sc b (n + m) c) (.slice (some ⟨g, 0, none⟩) (n + m) c) := by
          have : RV { E with w := w' } (.sc b (n + m) c) (.slice ((E.L b).g.map fun g => ⟨g, 0, none⟩) (n + m) c) := .sc _ _ _ o1 hcc hroom
          rw [eg] at this
          exact this
        unfold Oper.wp execOp
        simp only [resolve, invoke, builtin, Sem.run_bind, Sem.run_pure, Result.andThen_ok, List.map_toArray, List.map_cons, List.map_nil, hxv, hy2, eg, Option.map_some, hrun]
        exact hK _ _ k1 k2 (fun b hb => .inl hb) hx'
theorem s_slC {x : Operand} {hi : Option Operand} {b n h c : Nat} [hS : SI P t e size bytes z] (hx : ev T x = some (.sc b n c)) (hhi : Bnd T hi h n) (h2 : h ≤ c) {blk : ABlk} (hb : hk H b = some blk) :
    StepU P ⟨d, .slice t x none hi none, ty, ps, af, gd⟩ k [b] H T (.sc b h c) [] :=
  .of_pure fun _ _ _ E a hs hU hT => by
    have hv := hT x (by simp [Op.operands]) _ hx
    have b2 := bnd_map (E := E) (a := a) hhi (l := (Op.slice t x none hi none).operands.toList) (fun y hy => by subst hy; simp [Op.operands]) (fun y hy => hT y (by simpa using hy))
    generalize hy : a.eval x = v at hv
    cases hv with
    | sc b n c hD hcc hn =>
      have hr := run_bounds (P := P) (isS := true) (len := n) (cap := c) (l := 0) (h := h) (m := c) (lo := none) (hi := hi.map a.eval) (mx := none) E.w rfl
        b2 (fun _ => rfl) rfl (Nat.zero_le _) h2 (Nat.le_refl _)
      have := run_sliceSlice (P := P) (t := t) (isN := false) E.w ((E.L b).g.map fun g => ⟨g, 0, none⟩) n c 0 h c hr
      refine ⟨_, by simp only [execOp, hy, Sem.run_bind, Sem.run_pure, Option.map_none, this, Result.andThen_ok]; rfl, ?_⟩
      have hg : (if c = 0 then (E.L b).g.map (fun g => (⟨g, 0, none⟩ : Addr)) else ((E.L b).g.map fun g => (⟨g, 0, none⟩ : Addr)).map (·.add (0 * size))) = (E.L b).g.map fun g => (⟨g, 0, none⟩ : Addr) := by
        split
        · rfl
        · cases (E.L b).g <;> simp [addr_at]
      rw [hg, Nat.sub_zero, Nat.sub_zero]
      exact .sc _ _ _ hD hcc h2
end
end Go.Proofs.Ytnghcfjejgdnlaa
