/-
  The program logic's rules for single operations: append, copy, make, strings of bytes. No condition.
-/
import Derived.Test.YtnghcfjejgdnlaaOpv
import Derived.Test.YtnghcfjejgdnlaaMem
set_option linter.unusedSimpArgs false
set_option linter.unusedVariables false
set_option linter.unusedSectionVars false
namespace Go.Proofs.Ytnghcfjejgdnlaa
open Go.RowKit

section
variable {P : Program} {k : Nat} {H : AH} {T : AT} {d : Option Tmp} {ty : TypeId} {ps : String} {af : Array Edge} {gd : Option (Nat × Bool)}
variable {t e : TypeId} {size bytes : Nat} {z : Value}

theorem SI.slt (h : SI P t e size bytes z) : SlT P t e size bytes z := ⟨h.under, h.info, h.zs, h.pos, h.bpos⟩
theorem Sta.congr {w0 : World} {M : Nat → Prop} {H H' : AH} {E : Env} (h : Sta w0 M H E) (hh : ∀ b, hk H' b = hk H b) : Sta w0 M H' E :=
  ⟨h.os, h.tape, h.output, h.size, h.frame, fun g => by simp only [hh]; exact h.seq g, fun b blk hb => h.own b blk (by rw [← hh]; exact hb), fun b b' k1 k2 g h1 h2 => h.inj b b' k1 k2 g (by rw [← hh]; exact h1) (by rw [← hh]; exact h2)⟩

/-- what an own slice is, in the kit's word -/
theorem own_of {w0 : World} {M : Nat → Prop} {Hr : AH} {E : Env} (hs : Sta w0 M Hr E) {b n : Nat} {blk : ABlk} (hb : hk Hr b = some blk) (hn : n ≤ (E.L b).c) (hl : blk.cells.length = n * size) (he : blk.elem = e) (hz : blk.sz = size) :
    ∃ xs, RVs E blk.cells xs ∧ E.w.ownsRow 0 e size (.slice ((E.L b).g.map fun g => ⟨g, 0, none⟩) n (E.L b).c) n xs := by
  cases eg : (E.L b).g with
  | none =>
    obtain ⟨h0, h1⟩ := (hs.own b blk hb).2.2.none eg
    have : n = 0 := by omega
    subst this
    rw [h1, h0]
    exact ⟨[], RVs.nil E, own_empty _ _ _ _⟩
  | some g =>
    obtain ⟨cs, c1, c2, c3, c4, c5⟩ := (hs.own b blk hb).2.2.at eg
    subst he hz
    rw [hl] at c5
    exact ⟨_, c5, by rw [List.length_take]; have := c5.1; simp only [List.length_take, Array.length_toList] at this ⊢; omega, .inr ⟨g, _, cs, rfl, Nat.zero_le _, c1, hn, c2, c3, rfl⟩⟩
/-- and back -/
theorem loc_of {w' : World} {A : Option Addr} {n c : Nat} {xs : List Value} (h : w'.ownsRow 0 e size (.slice A n c) n xs) :
    ∃ l : Loc, A = (l.g.map fun g => ⟨g, 0, none⟩) ∧ c = l.c ∧ n ≤ l.c ∧ (Value.ownBlock (.slice A n c) = l.g) ∧
      ∀ (E' : Env) (cells : List AV), E'.w = w' → RVs E' cells xs → BOK E' l ⟨cells, e, size⟩ := by
  rcases h.2 with ⟨hv, hn⟩ | ⟨g, cap, cur, hv, _, hg, h1, h2, h3, h4⟩
  · injection hv with hA hn' hc
    subst hA hn hc
    refine ⟨⟨none, 0⟩, rfl, rfl, Nat.le_refl _, rfl, fun E' cells hw hr => .mk_none rfl ⟨?_, rfl⟩⟩
    have hx := h.1
    simp at hx
    have := hr.1
    rw [hx] at this
    exact List.eq_nil_of_length_eq_zero this.symm
  · injection hv with hA _ hc
    subst hA hc
    refine ⟨⟨some g, c⟩, rfl, rfl, h1, rfl, fun E' cells hw hr => .mk rfl ⟨cur, by rw [hw]; exact hg, h2, h3, ?_, ?_⟩⟩
    · show cells.length ≤ _
      rw [← hr.1, h.1, h3]; exact Nat.mul_le_mul_right _ h1
    · show RVs E' cells (cur.toList.take cells.length)
      rw [← hr.1, h.1, h4]; exact hr

theorem s_app {x y : Operand} {b n m : Nat} {blk : ABlk} {u : AV} {cs : List AV} {U : List Nat} [hS : SI P t e size bytes z] (hx : ev T x = some (.sl b n)) (hb : hk H b = some blk) (hy : ev T y = some u) (hr : Rdv H size u m cs U)
    (hl : blk.cells.length = n * size) (he : blk.elem = e) (hz : blk.sz = size) (h1 : cs.all AV.one = true) (hbytes : (n + m) * bytes ≤ 140737488355328) :
    StepU P ⟨d, .call { callee := .builtin .append, args := #[x, y], argTypes := #[t, t] }, ty, ps, af, gd⟩ k (b :: U) H T (.sl k (n + m)) [(k, some ⟨blk.cells ++ cs, e, size⟩), (b, none)] := by
  refine ⟨fun w0 M Hr E a hs hU hk0 hT K Q hK => ?_⟩
  have hb' := (hU b (by simp)).trans hb
  have hv := hT x (by simp [Op.operands, Call.operands]) _ hx
  obtain ⟨A2, c2, ys, hy2, _, hys, hysl, hrd⟩ := hr w0 M Hr E _ hs (fun b hb => hU b (by simp [hb])) (hT y (by simp [Op.operands, Call.operands]) _ hy)
  generalize hxv : a.eval x = v at hv
  cases hv with
  | sl b n hD hn =>
    obtain ⟨xs, hxs, hown⟩ := own_of hs hb' hn hl he hz
    refine wp_app hS.slt hown hrd hysl (hys.ones h1) hbytes (Nat.zero_le _) x y rfl hxv hy2 fun A' c' w' hown' _ hgr hor => ?_
    obtain ⟨l, rfl, rfl, hnl, hob, hB⟩ := loc_of hown'
    have hrow : Value.ownBlock (.slice ((E.L b).g.map fun g => ⟨g, 0, none⟩) n (E.L b).c) = (E.L b).g := by cases (E.L b).g <;> rfl
    obtain ⟨E', e1, e2, e3, e4, e5, e6⟩ := hs.move hb' (hk0 k (Nat.le_refl _) (by omega)) w' l ⟨blk.cells ++ cs, e, size⟩ hgr.size
      (fun g hg hne => hgr.block g hg (by rw [hrow]; exact fun e => hne e.symm)) hgr.os hgr.tape hgr.output
      (fun g hg => by
        rw [hob, hrow] at hor
        rcases hor with h | h
        · exact .inl (by rw [← h]; exact hg)
        · rw [hg] at h; injection h with h; exact .inr (by omega))
      (fun E' hw hle => hB E' _ hw ((hxs.mono hle).append (hys.mono hle)))
    have := hK (.slice (l.g.map fun g => ⟨g, 0, none⟩) (n + m) l.c) E' e4 e5 (fun b hb => (e6 b hb).imp id (fun e => ⟨by omega, by omega⟩)) (by rw [← e2] at hnl ⊢; exact .sl _ _ e3 hnl)
    rw [e1] at this
    exact this
theorem s_appNil {x y : Operand} {m : Nat} {u : AV} {cs : List AV} {U : List Nat} [hS : SI P t e size bytes z] (hx : ev T x = some (.v (.slice none 0 0))) (hy : ev T y = some u) (hr : Rdv H size u m cs U)
    (h1 : cs.all AV.one = true) (hbytes : m * bytes ≤ 140737488355328) :
    StepU P ⟨d, .call { callee := .builtin .append, args := #[x, y], argTypes := #[t, t] }, ty, ps, af, gd⟩ k U H T (.sl k m) [(k, some ⟨cs, e, size⟩)] :=
  .of_new fun w0 M Hr E a hs hU hT => by
    have hv := (hT x (by simp [Op.operands, Call.operands]) _ hx).v_inv
    obtain ⟨A2, c2, ys, hy2, _, hys, hysl, hrd⟩ := hr w0 M Hr E _ hs hU (hT y (by simp [Op.operands, Call.operands]) _ hy)
    obtain ⟨A', c', w', hrun, hown', _, hgr, hor⟩ := run_app hS.slt ty (own_empty E.w 0 e size) hrd hysl (hys.ones h1) (by rw [Nat.zero_add]; exact hbytes) (Nat.zero_le _) (c := c2)
    simp only [Nat.zero_add, List.nil_append] at hrun hown' hor
    obtain ⟨l, rfl, rfl, hnl, hob, hB⟩ := loc_of hown'
    refine ⟨.slice (l.g.map fun g => ⟨g, 0, none⟩) m l.c, w', l, ?_, ⟨hgr.os, hgr.tape, hgr.output, hgr.size, fun g hg => hgr.block g hg (by simp [Value.ownBlock])⟩, fun g hg => ?_, fun E' hw hle => hB E' cs hw (hys.mono hle), fun E' hL hD => ?_⟩
    · simp only [execOp, resolve, invoke, builtin, Sem.run_bind, Sem.run_pure, Result.andThen_ok, List.map_toArray, List.map_cons, List.map_nil, hv, hy2, hrun]
    · rw [hob] at hor
      rcases hor with h | h
      · simp [Value.ownBlock] at h; rw [h] at hg; cases hg
      · rw [hg] at h; injection h with h; omega
    · rw [← hL] at hnl ⊢; exact .sl _ _ hD hnl
/-- the slice has no room -/
def Flv (u : AV) (n : Nat) : Prop := ∀ (E : Env) (x : Value), RV E u x → ∃ A, x = .slice A n n
theorem fl_ex {n : Nat} {cs : List AV} : Flv (.ex n true cs) n := fun E x h => by
  cases h with
  | ex0 n f A c hn hf => exact ⟨A, by rw [hf rfl]⟩
  | ex n f cs g o c xs hn hf => exact ⟨_, by rw [hf rfl]⟩
theorem fl_sb {b o n : Nat} : Flv (.sb b o n (some n)) n := fun E x h => by
  cases h with | sb b o n c A c' hD hA hn hc => exact ⟨A, by rw [hc n rfl]⟩
theorem s_appFull {x y : Operand} {n m : Nat} {u u0 : AV} {cs cs0 : List AV} {U U0 : List Nat} [hS : SI P t e size bytes z] (hx : ev T x = some u0) (hf : Flv u0 n) (hr0 : Rdv H size u0 n cs0 U0) (hy : ev T y = some u) (hr : Rdv H size u m cs U)
    (hm : 0 < m) (hbytes : (n + m) * bytes ≤ 140737488355328) :
    StepU P ⟨d, .call { callee := .builtin .append, args := #[x, y], argTypes := #[t, t] }, ty, ps, af, gd⟩ k (U0 ++ U) H T (.sl k (n + m)) [(k, some ⟨cs0 ++ cs, e, size⟩)] :=
  .of_new fun w0 M Hr E a hs hU hT => by
    have hv := hT x (by simp [Op.operands, Call.operands]) _ hx
    obtain ⟨A0, hv0⟩ := hf E _ hv
    obtain ⟨A1, c1, xs, hx1, _, hxs, hxsl, hrd0⟩ := hr0 w0 M Hr E _ hs (fun b hb => hU b (by simp [hb])) hv
    rw [hv0] at hx1
    injection hx1 with hA _ hc
    subst hA hc
    obtain ⟨A2, c2, ys, hy2, _, hys, hysl, hrd⟩ := hr w0 M Hr E _ hs (fun b hb => hU b (by simp [hb])) (hT y (by simp [Op.operands, Call.operands]) _ hy)
    obtain ⟨hu, hi, hzs, hp, hb0⟩ := hS.slt
    have hmax : n + m ≤ maxLen := by
      have := Nat.le_mul_of_pos_right (n + m) hb0
      simp only [maxLen]; omega
    cases hq : P.info? e with
    | none => simp [hq] at hi
    | some i =>
      simp only [hq, Option.map_some, Option.some.injEq, Prod.mk.injEq] at hi
      obtain ⟨i1, i2, i3⟩ := hi
      subst i2 i3
      have hyn : ys ≠ [] := by
        intro h0
        subst h0
        have := Nat.mul_pos hm hp
        simp at hysl; omega
      obtain ⟨g, o, rfl, hcy⟩ := Or.resolve_left hrd hyn
      have hnews : ∀ (j : Nat) u, ys[j]? = some u → E.w.cell? ((⟨g, o, none⟩ : Addr).add j) = some u := fun j u hu => by rw [addr_at]; exact hcy j u hu
      have hsm : n + m ≤ 9223372036854775807 := by simp only [maxLen] at hmax; omega
      have hge := grownCap_ge E.w (n + m) n e
      have hcm := grownCap_le_maxLen E.w (n + m) n e hmax
      have hrun : (Builtin.append_ #[t, t] ty #[.slice A0 n n, .slice (some ⟨g, o, none⟩) m c2]).run P E.w =
          .ok (.slice (some ⟨E.w.heap.size, 0, none⟩) (n + m) (grownCap E.w (n + m) n e)) (E.w.drew.alloc (.cells (xs.toArray ++ ys.toArray ++ Builtin.zeroCells z.cells (grownCap E.w (n + m) n e - (n + m))) e)) := by
        cases A0 with
        | none =>
          have : xs = [] := by
            rcases hrd0 with h | ⟨_, _, h, _⟩
            · exact h
            · cases h
          subst this
          have hn0 : n = 0 := by
            rcases Nat.eq_zero_or_pos n with h | h
            · exact h
            · have := Nat.mul_pos h hp; simp at hxsl; omega
          subst hn0
          have := run_append_nil (P := P) E.w t ty e i z hu hq i1 ⟨g, o, none⟩ m c2 ys hysl hnews (by omega) (by omega) (by have hb := hbytes; simp only [Nat.zero_add] at hb; omega)
          simpa using this
        | some a0 =>
          have holds : ∀ (j : Nat) u, xs[j]? = some u → E.w.cell? (a0.add j) = some u := by
            rcases hrd0 with h | ⟨g0, o0, h, hc⟩
            · intro j u hu; rw [h] at hu; simp at hu
            · injection h with h; subst h; intro j u hu; rw [addr_at]; exact hc j u hu
          exact run_append_grow (P := P) E.w t ty e i z hu hq i1 a0 n n xs hxsl holds ⟨g, o, none⟩ m c2 ys hysl hnews (by omega) (by omega) (growslice_fits (by omega) hbytes)
      refine ⟨.slice (some ⟨E.w.heap.size, 0, none⟩) (n + m) (grownCap E.w (n + m) n e), E.w.drew.alloc (.cells (xs.toArray ++ ys.toArray ++ Builtin.zeroCells z.cells (grownCap E.w (n + m) n e - (n + m))) e), ⟨some E.w.heap.size, grownCap E.w (n + m) n e⟩,
        by simp only [execOp, resolve, invoke, builtin, Sem.run_bind, Sem.run_pure, Result.andThen_ok, List.map_toArray, List.map_cons, List.map_nil, hv0, hy2, hrun],
        (Below.refl _ _).drew.alloc (Nat.le_refl _) _, fun g hg => by injection hg with hg; omega, fun E' hw hle => .mk rfl ⟨_, by rw [hw]; exact Go.heap_alloc_new E.w.drew _, hcm, ?_, ?_, ?_⟩, fun E' hL hD => ?_⟩
      · show Array.size _ = grownCap E.w (n + m) n e * i.size
        simp only [Array.size_append, List.size_toArray, size_zeroCells, hzs, hxsl, hysl, ← Nat.add_mul]
        congr 1
        omega
      · show (cs0 ++ cs).length ≤ Array.size _
        simp only [Array.size_append, List.size_toArray, List.length_append, hxs.1, hys.1]; omega
      · show RVs E' (cs0 ++ cs) (List.take (cs0 ++ cs).length _)
        have hxy := (hxs.mono hle).append (hys.mono hle)
        have : (xs.toArray ++ ys.toArray ++ Builtin.zeroCells z.cells (grownCap E.w (n + m) n e - (n + m))).toList.take (cs0 ++ cs).length = xs ++ ys := by
          rw [← hxy.1]
          simp only [Array.toList_append, List.append_assoc]
          rw [← List.append_assoc]
          exact List.take_left
        rw [this]
        exact hxy
      · have : RV E' (.sl k (n + m)) (.slice ((E'.L k).g.map fun g => ⟨g, 0, none⟩) (n + m) (E'.L k).c) := .sl _ _ hD (by rw [hL]; exact hge)
        rw [hL] at this
        exact this

/-- copy into own memory, elements of one cell -/
theorem copy_key {w0 : World} {M : Nat → Prop} {Hr : AH} {E : Env} {t' : TypeId} {b o n m g c' c2 : Nat} {blk : ABlk} {cs : List AV} {A2 : Option Addr} {ys : List Value} (hS : SI P t e 1 bytes z) (hs : Sta w0 M Hr E) (hb : hk Hr b = some blk) (hg : (E.L b).g = some g)
    (hys : RVs E cs ys) (hysl : ys.length = m * 1) (hrd : RdC E.w A2 ys) (ho : o + n ≤ blk.cells.length) (h1 : cs.all AV.one = true) :
    ∃ w', (Builtin.copy_ #[t, t'] ty #[.slice (some ⟨g, o, none⟩) n c', .slice A2 m c2]).run P E.w = .ok (.int .i64 ((min m n : Nat) : Int)) w' ∧
      Sta w0 M ((b, some { blk with cells := spl blk.cells o (cs.take n) }) :: Hr) { E with w := w' } ∧ E.le { E with w := w' } := by
  obtain ⟨cur, c1, c2', c3, c4, c5⟩ := (hs.own b blk hb).2.2.at hg
  have hcp := run_cp (P := P) (w := E.w) (dT := t) (sT := t') (ty := ty) (elem := e) hS.under (si_size hS) (rowAt_heap.2 ⟨_, c1⟩) (g := g) (o := o) (dl := n) (dc := c') (A := A2) (n := m) (c := c2) hrd (by simpa using hysl) (hys.ones h1) (by omega) _ rfl
  have hspl : spliceA cur o (ys.take n).toArray = (cur.toList.take o ++ ys.take n ++ cur.toList.drop (o + (ys.take n).length)).toArray := by simp [spliceA]
  have hR := RVs.spl (o := o) c4 c5 (hys.take n) (by rw [List.length_take]; omega)
  rw [← hspl] at hR
  have htl : (ys.take n).length ≤ n := by rw [List.length_take]; omega
  have hss : (spliceA cur o (ys.take n).toArray).size = cur.size := spliceA_size _ _ _ (by simp only [List.size_toArray]; omega)
  have hset := hs.set hb hg (E.w.setRow g (spliceA cur o (ys.take n).toArray)) (by simp [World.setRow]) (fun g' hne => setRow_other E.w g g' _ hne) rfl rfl rfl (spl blk.cells o (cs.take n))
    (fun E' hw hle => .mk hg ⟨_, by rw [hw]; exact setRow_heap E.w g cur _ _ _ c1, c2', by rw [hss]; exact c3, by rw [hss]; show (spl blk.cells o (cs.take n)).length ≤ _; rw [spl_length _ _ _ (by rw [List.length_take]; omega)]; exact c4, hR.mono hle⟩)
  exact ⟨_, hcp, hset⟩
theorem s_copy {x y : Operand} {t' : TypeId} {b o n m : Nat} {c : Option Nat} {blk : ABlk} {u : AV} {cs : List AV} {U : List Nat} [hS : SI P t e 1 bytes z] (hx : ev T x = some (.sb b o n c)) (hb : hk H b = some blk) (hy : ev T y = some u) (hr : Rdv H 1 u m cs U)
    (hn : 0 < n) (ho : o + n ≤ blk.cells.length) (h1 : cs.all AV.one = true) :
    StepU P ⟨d, .call { callee := .builtin .copy, args := #[x, y], argTypes := #[t, t'] }, ty, ps, af, gd⟩ k (b :: U) H T (.v (.int .i64 ((min m n : Nat) : Int))) [(b, some { blk with cells := spl blk.cells o (cs.take n) })] := by
  refine ⟨fun w0 M Hr E a hs hU hk0 hT K Q hK => ?_⟩
  have hb' := (hU b (by simp)).trans hb
  have hv := hT x (by simp [Op.operands, Call.operands]) _ hx
  obtain ⟨A2, c2, ys, hy2, _, hys, hysl, hrd⟩ := hr w0 M Hr E _ hs (fun b hb => hU b (by simp [hb])) (hT y (by simp [Op.operands, Call.operands]) _ hy)
  generalize hxv : a.eval x = v at hv
  cases hv with
  | sb b o n c A c' hD hA hnc hc =>
    obtain ⟨g, hg, rfl⟩ := hA (by omega)
    obtain ⟨w', hrun, h2, h3⟩ := copy_key (ty := ty) (t' := t') (c' := c') (c2 := c2) hS hs hb' hg hys hysl hrd ho h1
    unfold Oper.wp
    have : (execOp a.eval ⟨d, .call { callee := .builtin .copy, args := #[x, y], argTypes := #[t, t'] }, ty, ps, af, gd⟩).run P E.w = .ok (.value (.int .i64 ((min m n : Nat) : Int))) w' := by
      simp only [execOp, resolve, invoke, builtin, Sem.run_bind, Sem.run_pure, Result.andThen_ok, List.map_toArray, List.map_cons, List.map_nil, hxv, hy2, hrun]
    rw [this]
    exact hK _ _ h2 h3 (fun b hb => .inl hb) (.v _)
/-- copy over a whole own slice -/
theorem s_copyL {x y : Operand} {t' : TypeId} {b n m : Nat} {blk : ABlk} {u : AV} {cs : List AV} {U : List Nat} [hS : SI P t e 1 bytes z] (hx : ev T x = some (.sl b n)) (hb : hk H b = some blk) (hy : ev T y = some u) (hr : Rdv H 1 u m cs U)
    (hl : blk.cells.length = n) (h1 : cs.all AV.one = true) :
    StepU P ⟨d, .call { callee := .builtin .copy, args := #[x, y], argTypes := #[t, t'] }, ty, ps, af, gd⟩ k (b :: U) H T (.v (.int .i64 ((min m n : Nat) : Int))) [(b, some { blk with cells := spl blk.cells 0 (cs.take n) })] := by
  refine ⟨fun w0 M Hr E a hs hU hk0 hT K Q hK => ?_⟩
  have hb' := (hU b (by simp)).trans hb
  have hv := hT x (by simp [Op.operands, Call.operands]) _ hx
  obtain ⟨A2, c2, ys, hy2, _, hys, hysl, hrd⟩ := hr w0 M Hr E _ hs (fun b hb => hU b (by simp [hb])) (hT y (by simp [Op.operands, Call.operands]) _ hy)
  generalize hxv : a.eval x = v at hv
  cases hv with
  | sl b n hD hnc =>
    cases eg : (E.L b).g with
    | none =>
      obtain ⟨z1, z2⟩ := (hs.own b blk hb').2.2.none eg
      have n0 : n = 0 := by omega
      subst n0
      have hsame : { blk with cells := spl blk.cells 0 (cs.take 0) } = blk := by cases blk; simp only at z1; subst z1; simp [spl]
      rw [hsame] at hK
      have hcp : (Builtin.copy_ #[t, t'] ty #[.slice none 0 (E.L b).c, .slice A2 m c2]).run P E.w = .ok (goInt 0) E.w := by
        cases A2 <;> simp [Builtin.copy_, run_underlying hS.under, Builtin.lenOf, Builtin.firstCells, run_sizeOf' (si_size hS), loadCells, loadCellsFrom]
      rw [eg] at hxv
      unfold Oper.wp
      have : (execOp a.eval ⟨d, .call { callee := .builtin .copy, args := #[x, y], argTypes := #[t, t'] }, ty, ps, af, gd⟩).run P E.w = .ok (.value (.int .i64 ((min m 0 : Nat) : Int))) E.w := by
        simp only [execOp, resolve, invoke, builtin, Sem.run_bind, Sem.run_pure, Result.andThen_ok, List.map_toArray, List.map_cons, List.map_nil, hxv, hy2, Option.map_none, hcp, goInt]
        simp
      rw [this]
      refine hK _ E (hs.congr fun b2 => ?_) (.refl E) (fun b hb => .inl hb) (.v _)
      show hk ((b, some blk) :: Hr) b2 = _
      rw [hk_cons]
      split
      · rename_i h; subst h; exact hb'.symm
      · rfl
    | some g =>
      rw [eg] at hxv
      obtain ⟨w', hrun, h2, h3⟩ := copy_key (ty := ty) (t' := t') (c' := (E.L b).c) (c2 := c2) (o := 0) (n := n) hS hs hb' eg hys hysl hrd (by omega) h1
      unfold Oper.wp
      have : (execOp a.eval ⟨d, .call { callee := .builtin .copy, args := #[x, y], argTypes := #[t, t'] }, ty, ps, af, gd⟩).run P E.w = .ok (.value (.int .i64 ((min m n : Nat) : Int))) w' := by
        simp only [execOp, resolve, invoke, builtin, Sem.run_bind, Sem.run_pure, Result.andThen_ok, List.map_toArray, List.map_cons, List.map_nil, hxv, hy2, Option.map_some, hrun]
      rw [this]
      exact hK _ _ h2 h3 (fun b hb => .inl hb) (.v _)

/-- make([]T, l, c), the zero value's cells all alike -/
theorem s_make {x y : Operand} {l c : Nat} {kl kc : IntKind} {z0 : Value} [hS : SI P t e size bytes z] (hx : ev T x = some (.v (.int kl (l : Int)))) (hy : ev T y = some (.v (.int kc (c : Int)))) (hz0 : z.cells = Array.replicate size z0) (hlc : l ≤ c) (hb : bytes * c ≤ 281474976710656) :
    StepU P ⟨d, .makeSlice t x y, ty, ps, af, gd⟩ k [] H T (.sl k l) [(k, some ⟨List.replicate (l * size) (.v z0), e, size⟩)] :=
  .of_alloc fun w0 M Hr E a hs hU hT => by
    have h1 := (hT x (by simp [Op.operands]) _ hx).v_inv
    have h2 := (hT y (by simp [Op.operands]) _ hy).v_inv
    have hp := hS.pos
    have hmk := run_mk hS.slt kl kc (l : Int) (c : Int) (by omega) (by omega) (by have := hb; rw [← Int.natCast_mul]; omega) E.w
    simp only [Int.toNat_natCast] at hmk
    have hcm : c ≤ maxLen := by
      have := Nat.le_mul_of_pos_left c hS.bpos
      simp only [maxLen]; omega
    have hcells : (madeCells z.cells (c * size)).toList = List.replicate (c * size) z0 := by
      rw [hz0]
      apply List.ext_getElem
      · simp [madeCells]
      · intro i h1 h2
        simp only [madeCells, Array.size_replicate, Array.toList_map, List.getElem_map, List.getElem_replicate]
        have : ∀ j, (Array.replicate size z0)[j % size]! = z0 := fun j => by
          have hlt : j % size < size := Nat.mod_lt _ hp
          simp [hlt]
        exact this _
    refine ⟨_, madeCells z.cells (c * size), c, by simp only [execOp, h1, h2, Sem.run_bind, Sem.run_pure, hmk, Result.andThen_ok]; rfl, hcm, by rw [size_madeCells], ?_, ?_, fun E' hL hD => ?_⟩
    · simp only [List.length_replicate, size_madeCells]; exact Nat.mul_le_mul_right _ hlc
    · simp only [List.length_replicate]
      rw [hcells, List.take_replicate, Nat.min_eq_left (Nat.mul_le_mul_right _ hlc)]
      have := RVs.vals (E := E) (List.replicate (l * size) z0)
      simpa using this
    · have : RV E' (.sl k l) (.slice ((E'.L k).g.map fun g => ⟨g, 0, none⟩) l (E'.L k).c) := .sl _ _ hD (by rw [hL]; exact hlc)
      rw [hL] at this
      exact this
/-- bytes as cells -/
def byA (bs : List UInt8) : List AV := bs.map fun c => .v (.int .u8 (c.toNat : Int))
theorem byA_length (bs : List UInt8) : (byA bs).length = bs.length := by simp [byA]
theorem byA_vals (bs : List UInt8) : byA bs = (bytesV bs).map .v := by simp [byA, bytesV]
theorem byA_ones (bs : List UInt8) : (byA bs).all AV.one = true := by simp [byA, AV.one, Value.oneCell']
theorem byA_append (a b : List UInt8) : byA (a ++ b) = byA a ++ byA b := by simp [byA]
theorem byA_drop (a : List UInt8) (n : Nat) : (byA a).drop n = byA (a.drop n) := by simp [byA]
theorem byA_take (a : List UInt8) (n : Nat) : (byA a).take n = byA (a.take n) := by simp [byA]
theorem byA_get (bs : List UInt8) (i : Nat) (h : i < bs.length) : (byA bs)[i]? = some (.v (.int .u8 ((bs.getD i 0).toNat : Int))) := by
  simp [byA, List.getElem?_eq_getElem h, List.getD_eq_getElem?_getD]
/-- string(b) -/
theorem s_str {x : Operand} {u : AV} {n : Nat} {bs : List UInt8} {cs : List AV} {U : List Nat} {st : TypeId} [hS : SI P t e 1 bytes z] (he : P.underlying e = some (.int .u8)) (hd : P.underlying st = some .string) (hx : ev T x = some u) (hr : Rdv H 1 u n cs U) (hcs : cs = byA bs) :
    StepU P ⟨d, .convert t st x, ty, ps, af, gd⟩ k U H T (.v (.string (strB bs))) [] :=
  .of_pure fun w0 M Hr E a hs hU hT => by
    obtain ⟨A, c, ys, hy, _, hys, hysl, hrd⟩ := hr w0 M Hr E _ hs hU (hT x (by simp [Op.operands]) _ hx)
    rw [hcs, byA_vals] at hys
    have := hys.vals_inv
    subst this
    have hl : bs.length = n := by simpa [bytesV] using hysl
    refine ⟨_, ?_, .v _⟩
    simp only [execOp, hy, Sem.run_bind, Sem.run_pure, run_toString (P := P) E.w t st e A n c hS.under he hd bs hl hrd, Result.andThen_ok]
/-- []byte{x0, x1, ..}: elements of one cell, all written -/
theorem fill_seq (pl : Nat → Option (Nat × Nat)) (hpl : ∀ i, pl i = some (i, 1)) : ∀ (ps : List (Nat × Value)) (o : Nat) (cs : Array Value), (∀ (j : Nat) (p : Nat × Value), ps[j]? = some p → p.1 = o + j ∧ p.2.oneCell' = true) → cs.size = o + ps.length →
    Instr.fill pl cs ps = some (cs.toList.take o ++ ps.map (·.2)).toArray
  | [], o, cs, _, hs => by
    simp only [Instr.fill, List.map_nil, List.append_nil]
    rw [List.take_of_length_le (by simp at hs ⊢; omega)]
  | (i, v) :: rest, o, cs, h, hs => by
    obtain ⟨h1, h2⟩ := h 0 (i, v) rfl
    simp only [Nat.add_zero] at h1
    subst h1
    have hc : v.cells = #[v] := by cases v <;> first | rfl | cases h2
    simp only [List.length_cons] at hs
    have ih := fill_seq pl hpl rest (i + 1) (cs.setIfInBounds i v) (fun j p hp => by have := h (j + 1) p (by simpa using hp); exact ⟨by omega, this.2⟩) (by simp; omega)
    have hlt : i < cs.size := by omega
    have hng : ¬ (i + 1 > cs.size) := by omega
    have e1 : (#[v].zipIdx.foldl (fun cs (x : Value × Nat) => match x with | (c, j) => cs.setIfInBounds (i + j) c) cs) = cs.setIfInBounds i v := by simp
    simp only [Instr.fill, hpl, hc, e1, ih]
    simp only [List.size_toArray, List.length_cons, List.length_nil, Nat.zero_add, ne_eq, not_true_eq_false, decide_false, Bool.false_or, decide_eq_true_eq, hng, if_false, List.map_cons]
    simp only [gt_iff_lt, Nat.not_lt.2 (Nat.succ_le_of_lt hlt), decide_false, Bool.false_eq_true, if_false, Option.some.injEq]
    congr 1
    apply List.ext_getElem?
    intro j
    simp only [List.getElem?_append, List.length_take, Array.length_toList, Array.size_setIfInBounds, List.getElem?_take, Array.getElem?_toList, Array.getElem?_setIfInBounds]
    have m1 : min (i + 1) cs.size = i + 1 := by omega
    have m2 : min i cs.size = i := by omega
    rw [m1, m2]
    by_cases hj : j < i
    · have h3 : j < i + 1 := by omega
      have h4 : ¬ i = j := by omega
      simp [hj, h3, h4]
    · by_cases hj2 : j = i
      · subst hj2; simp [hlt]
      · have h3 : ¬ j < i + 1 := by omega
        have e2 : j - i = (j - (i + 1)) + 1 := by omega
        simp [hj, h3, e2]
theorem s_bytesLit {l : List (Nat × Operand)} {n : Nat} [hS : SI P t e 1 bytes z] (hp : l.all (fun p => isV T p.2) = true) (hq : ∀ (j : Nat) (p : Nat × Operand), l[j]? = some p → p.1 = j ∧ (evV T p.2).oneCell' = true) (hn : l.length = n) (hsmall : n ≤ 16777216) :
    StepU P ⟨d, .buildSlice t n l.toArray, ty, ps, af, gd⟩ k [] H T (.sl k n) [(k, some ⟨l.map (fun p => .v (evV T p.2)), e, 1⟩)] :=
  .of_alloc fun w0 M Hr E a hs hU hT => by
    have h1 := evV_parts (E := E) (a := a) hp (fun x hx => hT x (by simpa [Op.operands] using hx))
    have hf := fun pl hpl cs => fill_seq pl hpl (l.map fun p => (p.1, evV T p.2)) 0 cs (fun j p hp => by
      rw [List.getElem?_map] at hp
      cases hl : l[j]? with
      | none => rw [hl] at hp; cases hp
      | some q => rw [hl] at hp; simp at hp; subst hp; have := hq j q hl; simpa using this)
    have hsz : ¬ n > 16777216 := by omega
    have hi := hS.info
    refine ⟨.slice (some ⟨E.w.heap.size, 0, none⟩) n n, (l.map fun p => evV T p.2).toArray, n, ?_, by simp only [maxLen]; omega, by simp [hn], by simp, ?_, fun E' hL hD => ?_⟩
    · cases hqi : P.info? e with
      | none => simp [hqi] at hi
      | some i =>
        simp only [hqi, Option.map_some, Option.some.injEq, Prod.mk.injEq] at hi
        obtain ⟨i1, i2, i3⟩ := hi
        have hfz : ∀ zc : Array Value, Instr.fill (fun j => some (j * i.size, i.size)) ((Array.range (n * i.size)).map (zc[· % zc.size]!)) (l.map fun p => (p.1, evV T p.2)) = some (l.map fun p => evV T p.2).toArray := fun zc => by
          rw [hf _ (by intro j; rw [i2, Nat.mul_one]) _ (by simp [hn, i2])]
          simp [List.map_map, Function.comp_def]
        have hb : ¬ n * i.size > 2 ^ 24 := by rw [i2]; omega
        by_cases hn0 : n * i.size = 0
        · have := hfz #[]
          rw [hn0] at this
          simp only [execOp, h1, Instr.buildSlice, run_underlying hS.under, sizeOf, typeInfo, zeroValue, Sem.run_bind, Sem.run_pure, Result.andThen_ok]
          simp [hqi, hn0, newRow] at this ⊢
          simp [this]
        · have := hfz z.cells
          simp only [execOp, h1, Instr.buildSlice, run_underlying hS.under, sizeOf, typeInfo, zeroValue, Sem.run_bind, Sem.run_pure, Result.andThen_ok]
          simp [hqi, hb, hn0, i1, this, newRow]
    · simp only [List.length_map]
      rw [List.take_of_length_le (by simp)]
      have := RVs.vals (E := E) (l.map fun p => evV T p.2)
      simpa [List.map_map, Function.comp_def] using this
    · have : RV E' (.sl k n) (.slice ((E'.L k).g.map fun g => ⟨g, 0, none⟩) n (E'.L k).c) := .sl _ _ hD (by rw [hL]; exact Nat.le_refl _)
      rw [hL] at this
      exact this
end
end Go.Proofs.Ytnghcfjejgdnlaa
