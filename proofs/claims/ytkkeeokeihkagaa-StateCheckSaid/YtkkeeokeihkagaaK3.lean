/-
  Texts laid together: Frz, Apw, Mrk, Mrk2, Cal, Mrk3, Ins, InsD, InsN. Conditions: as told in each.
-/
import Derived.Test.YtkkeeokeihkagaaK2
set_option linter.unusedSimpArgs false
set_option linter.unusedVariables false
set_option linter.unusedSectionVars false
/-
  The program logic: bytes of a constant string, remainders, contracts at other arguments. No condition.
-/
namespace Go.Proofs.Ytkkeeokeihkagaa
open Go.RowKit

/-- own block b is given up; it may have been marked -/
theorem Sta.drop {w0 : World} {M : Nat → Prop} {H : AH} {E : Env} (h : Sta w0 M H E) {b : Nat} {blk : ABlk} {g : Nat} (hb : hk H b = some blk) (hg : (E.L b).g = some g) (w' : World) (hsz : w'.heap.size = E.w.heap.size) (hkeep : ∀ g', g' ≠ g → w'.heap[g']? = E.w.heap[g']?)
    (ho : w'.os = E.w.os) (ht : w'.tape = E.w.tape) (hp : w'.output = E.w.output) :
    Sta w0 M ((b, none) :: H) { E with w := w', S := fun g' => E.S g' ∧ g' ≠ g } ∧ E.le { E with w := w', S := fun g' => E.S g' ∧ g' ≠ g } := by
  have hSg : E.S g := (h.seq g).2 ⟨b, blk, hb, hg⟩
  have hle : E.le { E with w := w', S := fun g' => E.S g' ∧ g' ≠ g } := ⟨by simp [hsz], fun g' _ hS => hkeep g' (fun e => hS (e ▸ hSg)), fun _ _ h => h.1, fun _ h => ⟨h, rfl⟩⟩
  obtain ⟨o1, o2, o3⟩ := h.own b blk hb
  have hno : ∀ b' blk', hk ((b, none) :: H) b' = some blk' → b' ≠ b ∧ hk H b' = some blk' := by
    intro b' blk' hb'
    rw [hk_cons] at hb'
    split at hb'
    · cases hb'
    · rename_i e; exact ⟨fun e' => e e'.symm, hb'⟩
  refine ⟨⟨ho.trans h.os, ht.trans h.tape, hp.trans h.output, by simp only [hsz]; exact h.size, fun g' hg' hM => ?_, fun g' => ⟨?_, ?_⟩, ?_, ?_⟩, hle⟩
  · refine (hkeep g' (fun e => ?_)).trans (h.frame g' hg' hM)
    subst e
    rcases o2 g' hg with h' | h'
    · omega
    · exact hM h'
  · rintro ⟨hS, hne⟩
    obtain ⟨b', blk', hb', e⟩ := (h.seq g').1 hS
    refine ⟨b', blk', ?_, e⟩
    rw [hk_cons, if_neg (fun q => hne ?_)]
    · exact hb'
    · subst q; rw [hg] at e; injection e with e; exact e.symm
  · rintro ⟨b', blk', hb', e⟩
    obtain ⟨hne, hb''⟩ := hno b' blk' hb'
    exact ⟨(h.seq g').2 ⟨b', blk', hb'', e⟩, fun q => hne (h.inj b' b blk' blk g' hb'' hb e (by rw [hg, q]))⟩
  · intro b' blk' hb'
    obtain ⟨hne, hb''⟩ := hno b' blk' hb'
    obtain ⟨p1, p2, p3⟩ := h.own b' blk' hb''
    exact ⟨p1, p2, p3.mono hle (fun g' e => hkeep g' (fun q => hne (h.inj b' b blk' blk g' hb'' hb e (by rw [hg, q]))))⟩
  · intro b1 b2 k1 k2 g' h1 h2 e1 e2
    exact h.inj b1 b2 k1 k2 g' (hno b1 k1 h1).2 (hno b2 k2 h2).2 e1 e2
section
variable {P : Program} {k : Nat} {H : AH} {T : AT} {d : Option Tmp} {ty t t' : TypeId} {ps : String} {af : Array Edge} {gd : Option (Nat × Bool)} {x y : Operand}
theorem cell_of_cells {w w' : World} {g o : Nat} {cs : Array Value} {e : TypeId} {p q : Nat × Nat} (h : w.heap[g]? = some (.cells cs e p)) (h' : w'.heap[g]? = some (.cells cs e q)) : w'.cell? ⟨g, o, none⟩ = w.cell? ⟨g, o, none⟩ := by
  simp [World.cell?, h, h']
/-- the bytes of a constant string: from here on nobody changes them -/
theorem s_frz {b n bytes : Nat} {e : TypeId} {z : Value} {c : AV} {cs : List AV} {sz : Nat} [hS : SI P t e 1 bytes z] [he : UI P e (.int .u8)] (hx : ev T x = some (.sl b n)) (hb : hk H b = some ⟨c :: cs, e, sz⟩) :
    StepU P ⟨d, .convert t t x, ty, ps, af, gd⟩ k [b] H T (.ex n false (c :: cs)) [(b, none)] := by
  refine ⟨fun w0 M Hr E a hs hU hk0 hT K Q hK => ?_⟩
  have hv := hT x (by simp [Op.operands]) _ hx
  have hb' := (hU b (by simp)).trans hb
  generalize hxe : a.eval x = xv at hv
  cases hv with
  | sl b n hD hn =>
    obtain ⟨o1, o2, o3⟩ := hs.own b _ hb'
    cases eg : (E.L b).g with
    | none => have := (o3.none eg).1; cases this
    | some g =>
      obtain ⟨cc, c1, c2, c3, c4, c5⟩ := o3.at eg
      obtain ⟨xs, h1, h2⟩ := own_read hs hb' eg
      obtain ⟨w', hw', hg', hne, hsz', hos⟩ : ∃ w', E.w.freeze ⟨g, cc.size, none⟩ 1 = w' ∧ w'.heap[g]? = some (.cells cc e (cc.size, cc.size + 1)) ∧ (∀ g', g' ≠ g → w'.heap[g']? = E.w.heap[g']?) ∧ w'.heap.size = E.w.heap.size ∧ w'.os = E.w.os ∧ w'.tape = E.w.tape ∧ w'.output = E.w.output := by
        refine ⟨_, rfl, ?_, ?_, ?_, ?_, ?_, ?_⟩
        · simp [World.freeze, Array.getElem?_modify, c1]
        · intro g' hg; simp [World.freeze, Array.getElem?_modify, Ne.symm hg]
        · simp [World.freeze]
        · simp [World.freeze]
        · simp [World.freeze]
        · simp [World.freeze]
      obtain ⟨k1, k2⟩ := hs.drop hb' eg w' hsz' hne hos.1 hos.2.1 hos.2.2
      have hsh : E.w.shape? g = some (e, cc.size) := by unfold World.shape?; rw [c1]
      have hrun : (execOp a.eval ⟨d, .convert t t x, ty, ps, af, gd⟩).run P E.w = .ok (.value (.slice (some ⟨g, 0, none⟩) n (E.L b).c)) w' := by
        simp only [execOp, hxe, eg, Option.map_some]
        simp [convert, run_underlying hS.under, run_underlying he.u, markStringish, hsh]
        exact hw'
      unfold Oper.wp
      rw [hrun]
      simp only [Oper.upon]
      refine hK _ _ k1 k2 (fun b hb => .inl hb) ?_
      have h3 := h1.mono k2
      exact .ex _ _ _ g 0 _ xs hn (fun h => by cases h) (by show g < w'.heap.size; rw [hsz']; exact hs.lt hb' eg) (fun h => h.2 rfl) h3.1 (fun j y hy => by rw [Nat.zero_add]; exact (cell_of_cells c1 hg').trans (h2 j y hy)) h3.2
/-- s[l:h:m] of memory that nobody changes -/
theorem s_slEM {lo hi : Option Operand} {mx : Operand} {n l h m size bytes : Nat} {f : Bool} {cs : List AV} {e : TypeId} {z : Value} [hS : SI P t e size bytes z] (hx : ev T x = some (.ex n f cs)) (hlo : Bnd T lo l 0) (hhi : Bnd T hi h n) (hmx : Bnd T (some mx) m 0) (hhn : hi.isSome = true) (h1 : l ≤ h) (h2 : h ≤ m) (h3 : m ≤ n) (hl : cs.length = n * size) :
    StepU P ⟨d, .slice t x lo hi (some mx), ty, ps, af, gd⟩ k [] H T (.ex (h - l) false ((cs.drop (l * size)).take ((h - l) * size))) [] :=
  .of_pure fun _ _ _ E a hs hU hT => by
    have hv := hT x (by simp [Op.operands]) _ hx
    have b1 := bnd_map (E := E) (a := a) hlo (l := (Op.slice t x lo hi (some mx)).operands.toList) (fun y hy => by subst hy; simp [Op.operands]) (fun y hy => hT y (by simpa using hy))
    have b2 := bnd_map (E := E) (a := a) hhi (l := (Op.slice t x lo hi (some mx)).operands.toList) (fun y hy => by subst hy; simp [Op.operands]) (fun y hy => hT y (by simpa using hy))
    have b3 := bnd_map (E := E) (a := a) hmx (l := (Op.slice t x lo hi (some mx)).operands.toList) (fun y hy => by injection hy with hy; subst hy; simp [Op.operands]) (fun y hy => hT y (by simpa using hy))
    have key : ∀ (A : Option Addr) (c : Nat), n ≤ c → a.eval x = .slice A n c → (execOp a.eval ⟨d, .slice t x lo hi (some mx), ty, ps, af, gd⟩).run P E.w = .ok (.value (.slice (if m = l then A else A.map (·.add (l * size))) (h - l) (m - l))) E.w := by
      intro A c hc hv'
      have hr := run_bounds (P := P) (isS := true) (len := n) (cap := c) (l := l) (h := h) (m := m) (lo := lo.map a.eval) (hi := hi.map a.eval) (mx := some (a.eval mx)) E.w b1
        b2 (by cases hi with
            | none => cases hhn
            | some y => exact fun h => by cases h) b3 h1 h2 (by omega)
      have := run_sliceSlice (P := P) (t := t) (isN := false) E.w A n c l h m hr
      simp only [execOp, hv', Sem.run_bind, Sem.run_pure, Option.map_some, this, Result.andThen_ok]
    generalize hy : a.eval x = v at hv
    cases hv with
    | ex0 n full A c hn hf =>
      refine ⟨_, key A c hn hy, ?_⟩
      simp only [List.drop_nil, List.take_nil]
      exact .ex0 _ _ _ _ (by omega) (fun h => by cases h)
    | ex n full cs g o c xs hn hf hg hS' hl' hx' h' =>
      refine ⟨_, key _ c hn hy, ?_⟩
      by_cases hz : (cs.drop (l * size)).take ((h - l) * size) = []
      · rw [hz]; exact .ex0 _ _ _ _ (by omega) (fun h => by cases h)
      · have hlh : l < h := by
          rcases Nat.lt_or_ge l h with h'' | h''
          · exact h''
          · exact absurd (by rw [show h - l = 0 by omega]; simp) hz
        rw [if_neg (by omega), Option.map_some, addr_at]
        have hR : RVs E ((cs.drop (l * size)).take ((h - l) * size)) ((xs.drop (l * size)).take ((h - l) * size)) := (RVs.drop ⟨hl', h'⟩ _).take _
        refine .ex _ _ _ g (o + l * size) _ ((xs.drop (l * size)).take ((h - l) * size)) (by omega) (fun h => by cases h) hg hS' hR.1 (fun j y hj => ?_) hR.2
        rw [List.getElem?_take] at hj
        split at hj
        · rw [List.getElem?_drop] at hj; rw [Nat.add_assoc]; exact hx' _ y hj
        · cases hj
theorem s_stringNil {e st : TypeId} {bytes : Nat} {z : Value} [hS : SI P t e 1 bytes z] [he : UI P e (.int .u8)] [hd : UI P st .string] (hx : ev T x = some (.v (.slice none 0 0))) :
    StepU P ⟨d, .convert t st x, ty, ps, af, gd⟩ k [] H T (.v (.string (strB []))) [] := s_string (bs := []) hx rd_nil rfl
theorem s_ci64b {s : TypeId} {k1 : IntKind} {c : UInt8} {ds : TypeDesc} [hu : UI P t (.int .i64)] [hs : UI P s ds] (hx : ev T x = some (.v (.int k1 (c.toNat : Int)))) : StepU P ⟨d, .convert s t x, ty, ps, af, gd⟩ k [] H T (.v (.int .i64 (c.toNat : Int))) [] :=
  s_ci64 hx (by have := c.toNat_lt; omega)
theorem s_remn {k1 : IntKind} {i j : Nat} (hx : ev T x = some (.v (.int k1 (i : Int)))) (hy : ev T y = some (.v (.int k1 (j : Int)))) (h : 0 < j) : StepU P ⟨d, .binOp .rem t x y t', ty, ps, af, gd⟩ k [] H T (.v (.int k1 ((i % j : Nat) : Int))) [] :=
  s_bin hx hy fun w => by
    have hn : ¬ ((j : Int) = 0) := by omega
    have e : Int.tmod (i : Int) (j : Int) = ((i % j : Nat) : Int) := rfl
    simp only [guard_int, binOp, Op.intDiv, Sem.run_bind, Result.andThen_ok, ne_eq, not_true_eq_false, if_false, hn, Sem.run_pure, e]
theorem s_rem {k1 : IntKind} {a b : Int} (hx : ev T x = some (.v (.int k1 a))) (hy : ev T y = some (.v (.int k1 b))) (h : b ≠ 0) : StepU P ⟨d, .binOp .rem t x y t', ty, ps, af, gd⟩ k [] H T (.v (.int k1 (a.tmod b))) [] :=
  s_bin hx hy fun w => by
    simp only [guard_int, binOp, Op.intDiv, Sem.run_bind, Result.andThen_ok, ne_eq, not_true_eq_false, if_false, h, Sem.run_pure]
theorem s_quon {i j : Nat} (hx : ev T x = some (.v (.int .i64 (i : Int)))) (hy : ev T y = some (.v (.int .i64 (j : Int)))) (h : 0 < j) (hi : i ≤ 9223372036854775807) : StepU P ⟨d, .binOp .quo t x y t', ty, ps, af, gd⟩ k [] H T (.v (.int .i64 ((i / j : Nat) : Int))) [] :=
  s_bin hx hy fun w => by
    have hn : ¬ ((j : Int) = 0) := by omega
    have e : Int.tdiv (i : Int) (j : Int) = ((i / j : Nat) : Int) := rfl
    have hd : i / j ≤ i := Nat.div_le_self _ _
    simp only [guard_int, binOp, Op.intDiv, Sem.run_bind, Result.andThen_ok, ne_eq, not_true_eq_false, if_false, hn, Sem.run_pure, e]
    generalize i / j = q at hd
    rw [i64w (by omega)]
end
/-! contracts at other arguments -/
theorem Fresh.sub {P : Program} {f : FuncId} {cs ds : List AV} {v : Nat → AV} {bs : List ABlk} (h : Fresh P f cs v bs) (hs : ∀ E xs, RVs E ds xs → RVs E cs xs) : Fresh P f ds v bs := fun E0 xs hS hD hx => h E0 xs hS hD (hs E0 xs hx)
theorem rv_nil {E : Env} {f : Bool} {x : Value} (h : RV E (.v (.slice none 0 0)) x) : RV E (.ex 0 f []) x := by
  rw [h.v_inv]; exact .ex0 0 f none 0 (Nat.le_refl _) (fun _ => rfl)
theorem sub_nil {f : Bool} {us : List AV} (E : Env) (xs : List Value) (h : RVs E (.v (.slice none 0 0) :: us) xs) : RVs E (.ex 0 f [] :: us) xs := by
  obtain ⟨x, ys, rfl, h1, h2⟩ := h.cons_inv
  exact RVs.cons (rv_nil h1) h2
theorem sub_nil2 {f : Bool} {u : AV} {us : List AV} (E : Env) (xs : List Value) (h : RVs E (u :: .v (.slice none 0 0) :: us) xs) : RVs E (u :: .ex 0 f [] :: us) xs := by
  obtain ⟨x, ys, rfl, h1, h2⟩ := h.cons_inv
  exact RVs.cons h1 (sub_nil E ys h2)
end Go.Proofs.Ytkkeeokeihkagaa

/-
  The program logic: append onto an own slice, the bound on bytes wide. No condition.
-/
namespace Go.Proofs.Ytkkeeokeihkagaa
open Go.RowKit
section
variable {P : Program} {t e : TypeId} {size bytes : Nat} {z : Value}
theorem run_app_w (hT : SlT P t e size bytes z) (ty : TypeId) {w : World} {base : Nat} {v : Value} {n : Nat} {xs : List Value} (hown : w.ownsRow base e size v n xs)
    {A : Option Addr} {m c : Nat} {news : List Value} (hrd : Rd w A news) (hl : news.length = m * size) (h1 : Ones news) (hbytes : ((n + m) + (n + m) / 4 + 192) * bytes ≤ 281474976710656) (hbase : base ≤ w.heap.size) :
    ∃ A' c' w', (Builtin.append_ #[t, t] ty #[v, .slice A m c]).run P w = .ok (.slice A' (n + m) c') w' ∧ w'.ownsRow base e size (.slice A' (n + m) c') (n + m) (xs ++ news) ∧ Below base w w' ∧ w.grownBy w' v.ownBlock ∧
      (Value.ownBlock (.slice A' (n + m) c') = v.ownBlock ∨ Value.ownBlock (.slice A' (n + m) c') = some w.heap.size) := by
  by_cases hm : news = []
  · have m0 : m = 0 := by
      subst hm
      rcases Nat.eq_zero_or_pos m with h | h
      · exact h
      · have := Nat.mul_pos h hT.pos; simp at hl; omega
    subst hm m0
    obtain ⟨hu, hi, hz, hp, hb0⟩ := hT
    cases hq : P.info? e with
    | none => simp [hq] at hi
    | some i =>
      obtain ⟨A', c', rfl⟩ := own_form hown
      have hr : (Builtin.append_ #[t, t] ty #[.slice A' n c', .slice A 0 c]).run P w = .ok (.slice A' n c') w := by
        have hc := (own_cap hown).1
        cases A <;> cases A' <;> simp [Builtin.append_, run_underlying hu, sizeOf, typeInfo, hq, Builtin.lenOf, Builtin.firstCells, hc, storeCells, loadCells, loadCellsFrom]
      exact ⟨A', c', w, by simpa using hr, by simpa using hown, Below.refl _ _, World.grownBy.refl w _, .inl (by simp [Value.ownBlock])⟩
  obtain ⟨hu, hi, hz, hp, hb0⟩ := hT
  cases hq : P.info? e with
  | none => simp [hq] at hi
  | some i =>
    simp only [hq, Option.map_some, Option.some.injEq, Prod.mk.injEq] at hi
    obtain ⟨i1, i2, i3⟩ := hi
    have hbel : ∀ w', w.grownBy w' v.ownBlock → Below base w w' := fun w' hg => ⟨hg.os, hg.tape, hg.output, hg.size, fun k hk => hg.block k (by omega) (fun e' => by have := own_block hown k e'.symm; omega)⟩
    have hle : n + m ≤ ((n + m) + (n + m) / 4 + 192) * bytes := Nat.le_trans (by omega) (Nat.le_mul_of_pos_right _ hb0)
    have hmax : n + m ≤ maxLen := by simp only [maxLen]; omega
    obtain ⟨g, o, rfl, hc⟩ := hrd.at hm
    have hc' : ∀ j u, news[j]? = some u → w.cell? ((⟨g, o, none⟩ : Addr).add j) = some u := fun j u hu => by
      have hadd : (⟨g, o, none⟩ : Addr).add j = ⟨g, o + j, none⟩ := by unfold Addr.add; split <;> simp_all
      rw [hadd]; exact hc j u hu
    have hm0 : m ≠ 0 := fun h => hm (List.eq_nil_of_length_eq_zero (by rw [hl, h, Nat.zero_mul]))
    obtain ⟨v', w', hr, h2, h3, _⟩ := run_append_own_wide (P := P) w base t ty e i z size bytes hu hq i1 i2 i3 hz hp v n xs hown ⟨g, o, none⟩ m c news hl hc' h1 hmax hbytes hbase
    have h5 : v'.ownBlock = v.ownBlock ∨ v'.ownBlock = some w.heap.size := by
      subst i2 i3
      rcases hown.2 with ⟨rfl, rfl⟩ | ⟨g', cap, cur, rfl, hbg, hg, hnc, hcm, hcs, htake⟩
      · have hr2 := run_append_nil (P := P) w t ty e i z hu hq i1 ⟨g, o, none⟩ m c news hl hc' (by omega) (by omega) (by have hb := hbytes; simp only [Nat.zero_add] at hb; exact Nat.le_trans (Nat.mul_le_mul_right _ (by omega)) hb)
        rw [hr] at hr2
        injection hr2 with e1 e2
        exact .inr (by rw [e1]; rfl)
      · by_cases hroom : n + m ≤ cap
        · have hfit : n * i.size + news.length ≤ cur.size := by rw [hl, hcs, ← Nat.add_mul]; exact Nat.mul_le_mul_right _ hroom
          have hr2 := run_append_room (P := P) w t ty e i hu hq g' n cap cur hg ⟨g, o, none⟩ m c news hl hc' h1 hroom hfit
          rw [hr] at hr2
          injection hr2 with e1 e2
          exact .inl (by rw [e1]; rfl)
        · have holds : ∀ j u, xs[j]? = some u → w.cell? ((⟨g', 0, none⟩ : Addr).add j) = some u := hown.cells (g := g') rfl
          have hr2 := run_append_grow (P := P) w t ty e i z hu hq i1 ⟨g', 0, none⟩ n cap xs hown.1 holds ⟨g, o, none⟩ m c news hl hc' (by omega) (by omega) (growslice_fits_wide (by omega) hbytes)
          rw [hr] at hr2
          injection hr2 with e1 e2
          exact .inr (by rw [e1]; rfl)
    obtain ⟨A', c', rfl⟩ := own_form h2
    exact ⟨A', c', w', hr, h2, hbel w' h3, h3, h5⟩
theorem wp_app_w (hT : SlT P t e size bytes z) {w : World} {base : Nat} {v : Value} {n : Nat} {xs : List Value} (hown : w.ownsRow base e size v n xs)
    {A : Option Addr} {m c : Nat} {news : List Value} (hrd : Rd w A news) (hl : news.length = m * size) (h1 : Ones news) (hbytes : ((n + m) + (n + m) / 4 + 192) * bytes ≤ 281474976710656) (hbase : base ≤ w.heap.size)
    {o : Oper} {a : Act} {K : Act → World → Prop} {Q : Exit → Act → World → Prop} (s x : Operand) (ho : o.op = .call { callee := .builtin .append, args := #[s, x], argTypes := #[t, t] }) (hs : a.eval s = v) (hx : a.eval x = .slice A m c)
    (h : ∀ A' c' w', w'.ownsRow base e size (.slice A' (n + m) c') (n + m) (xs ++ news) → Below base w w' → w.grownBy w' v.ownBlock →
      (Value.ownBlock (.slice A' (n + m) c') = v.ownBlock ∨ Value.ownBlock (.slice A' (n + m) c') = some w.heap.size) → K (a.put o.dst (.slice A' (n + m) c')) w') : o.wp P a w K Q := by
  obtain ⟨A', c', w', hr, h2, h3, h4, h5⟩ := run_app_w hT o.type hown hrd hl h1 hbytes hbase (c := c)
  unfold Oper.wp execOp
  simp only [ho, resolve, invoke, builtin, Sem.run_bind, Sem.run_pure, Result.andThen_ok, List.map_toArray, List.map_cons, List.map_nil, hs, hx, hr]
  exact h A' c' w' h2 h3 h4 h5
end
section
variable {P : Program} {t e : TypeId} {size bytes : Nat} {z : Value} {k : Nat} {H : AH} {T : AT} {d : Option Tmp} {ty : TypeId} {ps : String} {af : Array Edge} {gd : Option (Nat × Bool)}
theorem s_appW {x y : Operand} {b n m : Nat} {blk : ABlk} {u : AV} {cs : List AV} {U : List Nat} [hS : SI P t e size bytes z] (hx : ev T x = some (.sl b n)) (hb : hk H b = some blk) (hy : ev T y = some u) (hr : Rdv H size u m cs U)
    (hl : blk.cells.length = n * size) (he : blk.elem = e) (hz : blk.sz = size) (h1 : cs.all AV.one = true) (hbytes : ((n + m) + (n + m) / 4 + 192) * bytes ≤ 281474976710656) :
    StepU P ⟨d, .call { callee := .builtin .append, args := #[x, y], argTypes := #[t, t] }, ty, ps, af, gd⟩ k (b :: U) H T (.sl k (n + m)) [(k, some ⟨blk.cells ++ cs, e, size⟩), (b, none)] := by
  refine ⟨fun w0 M Hr E a hs hU hk0 hT K Q hK => ?_⟩
  have hb' := (hU b (by simp)).trans hb
  have hv := hT x (by simp [Op.operands, Call.operands]) _ hx
  obtain ⟨A2, c2, ys, hy2, _, hys, hysl, hrd⟩ := hr w0 M Hr E _ hs (fun b hb => hU b (by simp [hb])) (hT y (by simp [Op.operands, Call.operands]) _ hy)
  generalize hxv : a.eval x = v at hv
  cases hv with
  | sl b n hD hn =>
    obtain ⟨xs, hxs, hown⟩ := own_of hs hb' hn hl he hz
    refine wp_app_w hS.slt hown hrd hysl (hys.ones h1) hbytes (Nat.zero_le _) x y rfl hxv hy2 fun A' c' w' hown' _ hgr hor => ?_
    obtain ⟨l, rfl, rfl, hnl, hob, hB⟩ := loc_of hown'
    have hrow : Value.ownBlock (.slice ((E.L b).g.map fun g => ⟨g, 0, none⟩) n (E.L b).c) = (E.L b).g := by cases (E.L b).g <;> rfl
    obtain ⟨E', e1, e2, e3, e4, e5, e6⟩ := hs.move hb' (hk0 k (Nat.le_refl _) (by omega)) w' l ⟨blk.cells ++ cs, e, size⟩ hgr.size
      (fun g hg hne => hgr.block g hg (by rw [hrow]; exact fun e => hne e.symm)) hgr.os hgr.tape hgr.output
      (fun g hg => by
        rw [hob, hrow] at hor
        rcases hor with h | h
        · exact .inl (by rw [← h]; exact hg)
        · rw [hg] at h; injection h with h; exact .inr (by omega))
      (fun E' hw hle => hB E' _ hw ((hxs.mono hle).append (hys.mono hle)))
    have := hK (.slice (l.g.map fun g => ⟨g, 0, none⟩) (n + m) l.c) E' e4 e5 (fun b hb => (e6 b hb).imp id (fun e => ⟨by omega, by omega⟩)) (by rw [← e2] at hnl ⊢; exact .sl _ _ e3 hnl)
    rw [e1] at this
    exact this
end
end Go.Proofs.Ytkkeeokeihkagaa

/-
  Layer 3, merkle, and the reference: split, Depth, Root. Conditions: lengths below 2^47.
-/
namespace Go.Proofs.Ytkkeeokeihkagaa
open Go.RowKit

def spl2 (n k : Nat) : Nat := if k < n - k ∧ 0 < k then spl2 n (2 * k) else k
termination_by n - k
decreasing_by omega
def splitN (n : Nat) : Nat := spl2 n 1
theorem spl2_step {n k : Nat} (h : k < n - k) (h0 : 0 < k) : spl2 n k = spl2 n (2 * k) := by rw [spl2, if_pos ⟨h, h0⟩]
theorem spl2_end {n k : Nat} (h : ¬ k < n - k) : spl2 n k = k := by rw [spl2, if_neg (fun q => h q.1)]
theorem spl2_bd (n : Nat) : ∀ (m k : Nat), n - k ≤ m → 0 < k → k < n → 0 < spl2 n k ∧ spl2 n k < n ∧ n ≤ 2 * spl2 n k := by
  intro m
  induction m with
  | zero => intro k h h0 hk; omega
  | succ m ih =>
    intro k h h0 hk
    by_cases hc : k < n - k
    · rw [spl2_step hc h0]; exact ih (2 * k) (by omega) (by omega) (by omega)
    · rw [spl2_end hc]; exact ⟨h0, hk, by omega⟩
theorem split_bd (n : Nat) (h : 2 ≤ n) : 0 < splitN n ∧ splitN n < n ∧ n ≤ 2 * splitN n := spl2_bd n n 1 (by omega) (by decide) (by omega)
theorem split_ok (n : Nat) (h : 1 ≤ n) (hb : n ≤ 9223372036854775807) : Fresh Try.prog 112 [.v (.int .i64 (n : Int))] (fun _ => .v (.int .i64 (splitN n : Int))) [] := by
  refine Fresh.of (fn := Try.f112) Try.func112 rfl (Nat.le_of_ble_eq_true rfl) fun w => ?_
  (refine Gol.seq ?_; apply Gol.region; apply Trc.stp rfl rfl rfl; apply s_assign; exact rfl
   dsimp only [Nat.reduceAdd, Nat.reduceMul, List.nil_append]; exact Trc.done _ _ _; exact rfl
   refine thn_n ?_; refine Gol.seq ?_; apply Gol.region; apply Trc.stp rfl rfl rfl; apply s_assign
   exact rfl; dsimp only [Nat.reduceAdd, Nat.reduceMul, List.nil_append]; exact Trc.done _ _ _
   exact rfl; refine thn_n ?_; refine Gol.seq ?_; refine Gol.block ?_)
  refine Gol.loop (ι := Nat) (fun k => 0 < k ∧ k ≤ n ∧ spl2 n k = splitN n) (fun k => n - k) 8 (fun k => []) (fun k => [(3, .v (.int .i64 (k : Int))), (0, .v (.int .i64 (n : Int)))]) 1 ⟨by decide, h, rfl⟩ ?_ ?_
  · (apply Le.mk' []; apply RnT.c; exact rfl; exact Rn.v rfl; apply RnT.c; exact rfl; exact Rn.v rfl; exact RnT.n; exact RnH.n; exact rfl)
  rintro k ⟨h0, h1, h2⟩
  (refine Gol.seq ?_; refine Gol.seq ?_; apply Gol.region; apply Trc.stp rfl rfl rfl; apply s_move
   exact rfl; dsimp only [Nat.reduceAdd, Nat.reduceMul, List.nil_append]; apply Trc.stp rfl rfl rfl; apply s_move; exact rfl; dsimp only [Nat.reduceAdd, Nat.reduceMul, List.nil_append]
   apply Trc.stp rfl rfl rfl; apply s_move; exact rfl; dsimp only [Nat.reduceAdd, Nat.reduceMul, List.nil_append]
   apply Trc.stp rfl rfl rfl; apply s_subn; exact rfl; exact rfl; omega; omega; dsimp only [Nat.reduceAdd, Nat.reduceMul, Nat.reduceSub, List.nil_append, List.cons_append, nbk, List.map_cons, List.map_nil]
   apply Trc.stp rfl rfl rfl; apply s_ltn; exact rfl; exact rfl; dsimp only [Nat.reduceAdd, Nat.reduceMul, List.nil_append]
   exact Trc.done _ _ _; exact rfl; refine thn_n ?_)
  refine Gol.cond rfl (fun h => ?_) (fun h => ?_)
  · have hlt : k < n - k := of_decide_eq_true h
    (refine Gol.skip ?_; refine thn_n ?_; refine Gol.block ?_; apply Gol.region; apply Trc.stp rfl rfl rfl; apply s_move; exact rfl; dsimp only [Nat.reduceAdd, Nat.reduceMul, List.nil_append]
     apply Trc.stp rfl rfl rfl; apply s_muln; exact rfl; exact rfl; simp <;> omega; dsimp only [Nat.reduceAdd, Nat.reduceMul, Nat.reduceSub, List.nil_append, List.cons_append, nbk, List.map_cons, List.map_nil]
     apply Trc.stp rfl rfl rfl; apply s_assign; exact rfl; dsimp only [Nat.reduceAdd, Nat.reduceMul, List.nil_append]
     exact Trc.done _ _ _; exact rfl; refine inBlk_n ?_)
    refine rnd_n (2 * k) ⟨by omega, by omega, by rw [← h2, spl2_step hlt h0]⟩ (by omega) ?_
    (apply Le.mk' []; apply RnT.c; exact rfl; apply Rn.v; congr 1; omega; apply RnT.c; exact rfl; exact Rn.v rfl; exact RnT.n; exact RnH.n; exact rfl)
  · have hge : ¬ k < n - k := of_decide_eq_false h
    rw [← h2, spl2_end hge]
    (refine Gol.exit ?_; refine thn_x ?_; refine rnd_x ?_; refine inBlk_hit ?_; refine thn_n ?_
     refine Gol.seq ?_; apply Gol.region; apply Trc.stp rfl rfl rfl; apply s_move; exact rfl
     dsimp only [Nat.reduceAdd, Nat.reduceMul, List.nil_append]; apply Trc.stp rfl rfl rfl; apply s_assign; exact rfl; dsimp only [Nat.reduceAdd, Nat.reduceMul, List.nil_append]
     exact Trc.done _ _ _; exact rfl; refine thn_n ?_; refine Gol.ret ?_)
    (apply RetQ.mk (by first | exact .inr rfl | exact .inl rfl); apply res_1 rfl; exact res_tmp rfl; exact out_val)
theorem refSplit_ok (n : Nat) (h : 1 ≤ n) (hb : n ≤ 9223372036854775807) : Fresh Try.prog 129 [.v (.int .i64 (n : Int))] (fun _ => .v (.int .i64 (splitN n : Int))) [] := by
  refine Fresh.of (fn := Try.f129) Try.func129 rfl (Nat.le_of_ble_eq_true rfl) fun w => ?_
  (refine Gol.seq ?_; apply Gol.region; apply Trc.stp rfl rfl rfl; apply s_assign; exact rfl
   dsimp only [Nat.reduceAdd, Nat.reduceMul, List.nil_append]; exact Trc.done _ _ _; exact rfl
   refine thn_n ?_; refine Gol.seq ?_; apply Gol.region; apply Trc.stp rfl rfl rfl; apply s_assign
   exact rfl; dsimp only [Nat.reduceAdd, Nat.reduceMul, List.nil_append]; exact Trc.done _ _ _
   exact rfl; refine thn_n ?_; refine Gol.seq ?_; refine Gol.block ?_)
  refine Gol.loop (ι := Nat) (fun k => 0 < k ∧ k ≤ n ∧ spl2 n k = splitN n) (fun k => n - k) 8 (fun k => []) (fun k => [(3, .v (.int .i64 (k : Int))), (0, .v (.int .i64 (n : Int)))]) 1 ⟨by decide, h, rfl⟩ ?_ ?_
  · (apply Le.mk' []; apply RnT.c; exact rfl; exact Rn.v rfl; apply RnT.c; exact rfl; exact Rn.v rfl; exact RnT.n; exact RnH.n; exact rfl)
  rintro k ⟨h0, h1, h2⟩
  (refine Gol.seq ?_; refine Gol.seq ?_; apply Gol.region; apply Trc.stp rfl rfl rfl; apply s_move
   exact rfl; dsimp only [Nat.reduceAdd, Nat.reduceMul, List.nil_append]; apply Trc.stp rfl rfl rfl; apply s_move; exact rfl; dsimp only [Nat.reduceAdd, Nat.reduceMul, List.nil_append]
   apply Trc.stp rfl rfl rfl; apply s_move; exact rfl; dsimp only [Nat.reduceAdd, Nat.reduceMul, List.nil_append]
   apply Trc.stp rfl rfl rfl; apply s_subn; exact rfl; exact rfl; omega; omega; dsimp only [Nat.reduceAdd, Nat.reduceMul, Nat.reduceSub, List.nil_append, List.cons_append, nbk, List.map_cons, List.map_nil]
   apply Trc.stp rfl rfl rfl; apply s_ltn; exact rfl; exact rfl; dsimp only [Nat.reduceAdd, Nat.reduceMul, List.nil_append]
   exact Trc.done _ _ _; exact rfl; refine thn_n ?_)
  refine Gol.cond rfl (fun h => ?_) (fun h => ?_)
  · have hlt : k < n - k := of_decide_eq_true h
    (refine Gol.skip ?_; refine thn_n ?_; refine Gol.block ?_; apply Gol.region; apply Trc.stp rfl rfl rfl; apply s_move; exact rfl; dsimp only [Nat.reduceAdd, Nat.reduceMul, List.nil_append]
     apply Trc.stp rfl rfl rfl; apply s_muln; exact rfl; exact rfl; simp <;> omega; dsimp only [Nat.reduceAdd, Nat.reduceMul, Nat.reduceSub, List.nil_append, List.cons_append, nbk, List.map_cons, List.map_nil]
     apply Trc.stp rfl rfl rfl; apply s_assign; exact rfl; dsimp only [Nat.reduceAdd, Nat.reduceMul, List.nil_append]
     exact Trc.done _ _ _; exact rfl; refine inBlk_n ?_)
    refine rnd_n (2 * k) ⟨by omega, by omega, by rw [← h2, spl2_step hlt h0]⟩ (by omega) ?_
    (apply Le.mk' []; apply RnT.c; exact rfl; exact Rn.v rfl; apply RnT.c; exact rfl; exact Rn.v rfl; exact RnT.n; exact RnH.n; exact rfl)
  · have hge : ¬ k < n - k := of_decide_eq_false h
    rw [← h2, spl2_end hge]
    (refine Gol.exit ?_; refine thn_x ?_; refine rnd_x ?_; refine inBlk_hit ?_; refine thn_n ?_
     refine Gol.seq ?_; apply Gol.region; apply Trc.stp rfl rfl rfl; apply s_move; exact rfl
     dsimp only [Nat.reduceAdd, Nat.reduceMul, List.nil_append]; apply Trc.stp rfl rfl rfl; apply s_assign; exact rfl; dsimp only [Nat.reduceAdd, Nat.reduceMul, List.nil_append]
     exact Trc.done _ _ _; exact rfl; refine thn_n ?_; refine Gol.ret ?_)
    (apply RetQ.mk (by first | exact .inr rfl | exact .inl rfl); apply res_1 rfl; exact res_tmp rfl; exact out_val)
def depN (i n : Nat) : Nat := if h : 2 ≤ n then (if i < splitN n then depN i (splitN n) + 1 else depN (i - splitN n) (n - splitN n) + 1) else 0
termination_by n
decreasing_by
  · exact (split_bd n h).2.1
  · have := split_bd n h; omega
theorem dep_lo {i n : Nat} (h : 2 ≤ n) (hi : i < splitN n) : depN i n = depN i (splitN n) + 1 := by rw [depN, dif_pos h, if_pos hi]
theorem dep_hi {i n : Nat} (h : 2 ≤ n) (hi : ¬ i < splitN n) : depN i n = depN (i - splitN n) (n - splitN n) + 1 := by rw [depN, dif_pos h, if_neg hi]
theorem dep_one {i n : Nat} (h : ¬ 2 ≤ n) : depN i n = 0 := by rw [depN, dif_neg h]
theorem dep_lt : ∀ (n i : Nat), 1 ≤ n → depN i n + 1 ≤ n := by
  intro n
  induction n using Nat.strongRecOn with
  | _ n ih =>
    intro i h
    by_cases h2 : 2 ≤ n
    · have := split_bd n h2
      by_cases hi : i < splitN n
      · rw [dep_lo h2 hi]; have := ih _ this.2.1 i (by omega); omega
      · rw [dep_hi h2 hi]; have := ih (n - splitN n) (by omega) (i - splitN n) (by omega); omega
    · rw [dep_one h2]; omega
theorem depth_no (i n : Int) (h : ¬ (0 ≤ i ∧ i < n)) : Fresh Try.prog 117 [.v (.int .i64 i), .v (.int .i64 n)] (fun _ => .v (.int .i64 (-1))) [] := by
  by_cases h0 : i < 0
  · refine Fresh.of (fn := Try.f117) Try.func117 rfl (Nat.le_of_ble_eq_true rfl) fun w => ?_
    (refine Gol.seq ?_; apply Gol.region; apply Trc.stp rfl rfl rfl; apply s_assign; exact rfl
     dsimp only [Nat.reduceAdd, Nat.reduceMul, List.nil_append]; exact Trc.done _ _ _; exact rfl
     refine thn_n ?_; refine Gol.seq ?_; refine Gol.seq ?_; apply Gol.region; apply Trc.stp rfl rfl rfl; apply s_move; exact rfl; dsimp only [Nat.reduceAdd, Nat.reduceMul, List.nil_append]
     apply Trc.stp rfl rfl rfl; apply s_lt; exact rfl; exact rfl; dsimp only [Nat.reduceAdd, Nat.reduceMul, List.nil_append]
     apply Trc.stp rfl rfl rfl; apply s_move; exact rfl; dsimp only [Nat.reduceAdd, Nat.reduceMul, List.nil_append]
     apply Trc.skip rfl rfl; apply wnt_g; exact rfl; exact rfl; exact rfl; (focus (simp only [*]; rfl)); dsimp only [Nat.reduceAdd, Nat.reduceMul, List.nil_append]
     apply Trc.skip rfl rfl; apply wnt_g; exact rfl; exact rfl; exact rfl; (focus (simp only [*]; rfl)); dsimp only [Nat.reduceAdd, Nat.reduceMul, List.nil_append]
     apply Trc.skip rfl rfl; apply wnt_g; exact rfl; exact rfl; exact rfl; (focus (simp only [*]; rfl)); dsimp only [Nat.reduceAdd, Nat.reduceMul, List.nil_append]
     apply Trc.stp rfl rfl rfl; apply s_pick_t; exact rfl; (focus (simp only [*]; rfl)); exact rfl; dsimp only [Nat.reduceAdd, Nat.reduceMul, List.nil_append]
     exact Trc.done _ _ _; exact rfl; refine thn_n ?_)
    refine Gol.cond_t rfl (by simp [h0]) ?_
    (refine Gol.seq ?_; apply Gol.region; apply Trc.stp rfl rfl rfl; apply s_assign; exact rfl
     dsimp only [Nat.reduceAdd, Nat.reduceMul, List.nil_append]; exact Trc.done _ _ _; exact rfl
     refine thn_n ?_; refine Gol.ret ?_; refine thn_r ?_)
    (apply RetQ.mk (by first | exact .inr rfl | exact .inl rfl); apply res_1 rfl; exact res_tmp rfl; exact out_val)
  · have h1 : n ≤ i := by omega
    refine Fresh.of (fn := Try.f117) Try.func117 rfl (Nat.le_of_ble_eq_true rfl) fun w => ?_
    (refine Gol.seq ?_; apply Gol.region; apply Trc.stp rfl rfl rfl; apply s_assign; exact rfl
     dsimp only [Nat.reduceAdd, Nat.reduceMul, List.nil_append]; exact Trc.done _ _ _; exact rfl
     refine thn_n ?_; refine Gol.seq ?_; refine Gol.seq ?_; apply Gol.region; apply Trc.stp rfl rfl rfl; apply s_move; exact rfl; dsimp only [Nat.reduceAdd, Nat.reduceMul, List.nil_append]
     apply Trc.stp rfl rfl rfl; apply s_lt; exact rfl; exact rfl; dsimp only [Nat.reduceAdd, Nat.reduceMul, List.nil_append]
     apply Trc.stp rfl rfl rfl; apply s_move; exact rfl; dsimp only [Nat.reduceAdd, Nat.reduceMul, List.nil_append]
     apply Trc.step rfl rfl; apply wnt_g; exact rfl; exact rfl; exact rfl; (focus (simp only [*]; rfl)); apply s_move; exact rfl; dsimp only [Nat.reduceAdd, Nat.reduceMul, List.nil_append]
     apply Trc.step rfl rfl; apply wnt_g; exact rfl; exact rfl; exact rfl; (focus (simp only [*]; rfl)); apply s_move; exact rfl; dsimp only [Nat.reduceAdd, Nat.reduceMul, List.nil_append]
     apply Trc.step rfl rfl; apply wnt_g; exact rfl; exact rfl; exact rfl; (focus (simp only [*]; rfl)); apply s_ge; exact rfl; exact rfl
     dsimp only [Nat.reduceAdd, Nat.reduceMul, List.nil_append]; apply Trc.stp rfl rfl rfl; apply s_pick_f; exact rfl; (focus (simp only [*]; rfl)); exact rfl; dsimp only [Nat.reduceAdd, Nat.reduceMul, List.nil_append]
     exact Trc.done _ _ _; exact rfl; refine thn_n ?_)
    refine Gol.cond_t rfl (decide_eq_true h1) ?_
    (refine Gol.seq ?_; apply Gol.region; apply Trc.stp rfl rfl rfl; apply s_assign; exact rfl
     dsimp only [Nat.reduceAdd, Nat.reduceMul, List.nil_append]; exact Trc.done _ _ _; exact rfl
     refine thn_n ?_; refine Gol.ret ?_; refine thn_r ?_)
    (apply RetQ.mk (by first | exact .inr rfl | exact .inl rfl); apply res_1 rfl; exact res_tmp rfl; exact out_val)
theorem refDepth_no (i n : Int) (h : ¬ (0 ≤ i ∧ i < n)) : Fresh Try.prog 119 [.v (.int .i64 i), .v (.int .i64 n)] (fun _ => .v (.int .i64 (-1))) [] := by
  by_cases h0 : i < 0
  · refine Fresh.of (fn := Try.f119) Try.func119 rfl (Nat.le_of_ble_eq_true rfl) fun w => ?_
    (refine Gol.seq ?_; apply Gol.region; apply Trc.stp rfl rfl rfl; apply s_assign; exact rfl
     dsimp only [Nat.reduceAdd, Nat.reduceMul, List.nil_append]; exact Trc.done _ _ _; exact rfl
     refine thn_n ?_; refine Gol.seq ?_; refine Gol.seq ?_; apply Gol.region; apply Trc.stp rfl rfl rfl; apply s_move; exact rfl; dsimp only [Nat.reduceAdd, Nat.reduceMul, List.nil_append]
     apply Trc.stp rfl rfl rfl; apply s_lt; exact rfl; exact rfl; dsimp only [Nat.reduceAdd, Nat.reduceMul, List.nil_append]
     apply Trc.stp rfl rfl rfl; apply s_move; exact rfl; dsimp only [Nat.reduceAdd, Nat.reduceMul, List.nil_append]
     apply Trc.skip rfl rfl; apply wnt_g; exact rfl; exact rfl; exact rfl; (focus (simp only [*]; rfl)); dsimp only [Nat.reduceAdd, Nat.reduceMul, List.nil_append]
     apply Trc.skip rfl rfl; apply wnt_g; exact rfl; exact rfl; exact rfl; (focus (simp only [*]; rfl)); dsimp only [Nat.reduceAdd, Nat.reduceMul, List.nil_append]
     apply Trc.skip rfl rfl; apply wnt_g; exact rfl; exact rfl; exact rfl; (focus (simp only [*]; rfl)); dsimp only [Nat.reduceAdd, Nat.reduceMul, List.nil_append]
     apply Trc.stp rfl rfl rfl; apply s_pick_t; exact rfl; (focus (simp only [*]; rfl)); exact rfl; dsimp only [Nat.reduceAdd, Nat.reduceMul, List.nil_append]
     exact Trc.done _ _ _; exact rfl; refine thn_n ?_)
    refine Gol.cond_t rfl (by simp [h0]) ?_
    (refine Gol.seq ?_; apply Gol.region; apply Trc.stp rfl rfl rfl; apply s_assign; exact rfl
     dsimp only [Nat.reduceAdd, Nat.reduceMul, List.nil_append]; exact Trc.done _ _ _; exact rfl
     refine thn_n ?_; refine Gol.ret ?_; refine thn_r ?_)
    (apply RetQ.mk (by first | exact .inr rfl | exact .inl rfl); apply res_1 rfl; exact res_tmp rfl; exact out_val)
  · have h1 : n ≤ i := by omega
    refine Fresh.of (fn := Try.f119) Try.func119 rfl (Nat.le_of_ble_eq_true rfl) fun w => ?_
    (refine Gol.seq ?_; apply Gol.region; apply Trc.stp rfl rfl rfl; apply s_assign; exact rfl
     dsimp only [Nat.reduceAdd, Nat.reduceMul, List.nil_append]; exact Trc.done _ _ _; exact rfl
     refine thn_n ?_; refine Gol.seq ?_; refine Gol.seq ?_; apply Gol.region; apply Trc.stp rfl rfl rfl; apply s_move; exact rfl; dsimp only [Nat.reduceAdd, Nat.reduceMul, List.nil_append]
     apply Trc.stp rfl rfl rfl; apply s_lt; exact rfl; exact rfl; dsimp only [Nat.reduceAdd, Nat.reduceMul, List.nil_append]
     apply Trc.stp rfl rfl rfl; apply s_move; exact rfl; dsimp only [Nat.reduceAdd, Nat.reduceMul, List.nil_append]
     apply Trc.step rfl rfl; apply wnt_g; exact rfl; exact rfl; exact rfl; (focus (simp only [*]; rfl)); apply s_move; exact rfl; dsimp only [Nat.reduceAdd, Nat.reduceMul, List.nil_append]
     apply Trc.step rfl rfl; apply wnt_g; exact rfl; exact rfl; exact rfl; (focus (simp only [*]; rfl)); apply s_move; exact rfl; dsimp only [Nat.reduceAdd, Nat.reduceMul, List.nil_append]
     apply Trc.step rfl rfl; apply wnt_g; exact rfl; exact rfl; exact rfl; (focus (simp only [*]; rfl)); apply s_ge; exact rfl; exact rfl
     dsimp only [Nat.reduceAdd, Nat.reduceMul, List.nil_append]; apply Trc.stp rfl rfl rfl; apply s_pick_f; exact rfl; (focus (simp only [*]; rfl)); exact rfl; dsimp only [Nat.reduceAdd, Nat.reduceMul, List.nil_append]
     exact Trc.done _ _ _; exact rfl; refine thn_n ?_)
    refine Gol.cond_t rfl (decide_eq_true h1) ?_
    (refine Gol.seq ?_; apply Gol.region; apply Trc.stp rfl rfl rfl; apply s_assign; exact rfl
     dsimp only [Nat.reduceAdd, Nat.reduceMul, List.nil_append]; exact Trc.done _ _ _; exact rfl
     refine thn_n ?_; refine Gol.ret ?_; refine thn_r ?_)
    (apply RetQ.mk (by first | exact .inr rfl | exact .inl rfl); apply res_1 rfl; exact res_tmp rfl; exact out_val)
theorem depth_yes (i n : Nat) (h : i < n) (hb : n ≤ 9223372036854775807) : Fresh Try.prog 117 [.v (.int .i64 (i : Int)), .v (.int .i64 (n : Int))] (fun _ => .v (.int .i64 (depN i n : Int))) [] := by
  have h0 : ¬ ((i : Int) < 0) := by omega
  have h1 : ¬ (n ≤ i) := by omega
  refine Fresh.of (fn := Try.f117) Try.func117 rfl (Nat.le_of_ble_eq_true rfl) fun w => ?_
  (refine Gol.seq ?_; apply Gol.region; apply Trc.stp rfl rfl rfl; apply s_assign; exact rfl
   dsimp only [Nat.reduceAdd, Nat.reduceMul, List.nil_append]; exact Trc.done _ _ _; exact rfl
   refine thn_n ?_; refine Gol.seq ?_; refine Gol.seq ?_; apply Gol.region; apply Trc.stp rfl rfl rfl; apply s_move; exact rfl; dsimp only [Nat.reduceAdd, Nat.reduceMul, List.nil_append]
   apply Trc.stp rfl rfl rfl; apply s_ltn; exact rfl; exact rfl; dsimp only [Nat.reduceAdd, Nat.reduceMul, List.nil_append]
   apply Trc.stp rfl rfl rfl; apply s_move; exact rfl; dsimp only [Nat.reduceAdd, Nat.reduceMul, List.nil_append]
   apply Trc.step rfl rfl; apply wnt_g; exact rfl; exact rfl; exact rfl; rfl; apply s_move; exact rfl; dsimp only [Nat.reduceAdd, Nat.reduceMul, List.nil_append]
   apply Trc.step rfl rfl; apply wnt_g; exact rfl; exact rfl; exact rfl; rfl; apply s_move; exact rfl; dsimp only [Nat.reduceAdd, Nat.reduceMul, List.nil_append]
   apply Trc.step rfl rfl; apply wnt_g; exact rfl; exact rfl; exact rfl; rfl; apply s_gen; exact rfl; exact rfl; dsimp only [Nat.reduceAdd, Nat.reduceMul, List.nil_append]
   apply Trc.stp rfl rfl rfl; apply s_pick_f; exact rfl; rfl; exact rfl; dsimp only [Nat.reduceAdd, Nat.reduceMul, List.nil_append]
   exact Trc.done _ _ _; exact rfl; refine thn_n ?_)
  refine Gol.cond_f rfl (decide_eq_false h1) ?_
  (refine Gol.skip ?_; refine thn_n ?_; refine Gol.seq ?_; apply Gol.region; apply Trc.stp rfl rfl rfl; apply s_assign; exact rfl; dsimp only [Nat.reduceAdd, Nat.reduceMul, List.nil_append]
   exact Trc.done _ _ _; exact rfl; refine thn_n ?_; refine Gol.seq ?_; refine Gol.block ?_)
  refine Gol.loop (ι := Nat × Nat × Nat) (fun x => x.1 < x.2.1 ∧ x.2.1 ≤ n ∧ x.2.2 + depN x.1 x.2.1 = depN i n) (fun x => x.2.1) 72 (fun x => []) (fun x => [(5, .v (.int .i64 (x.2.2 : Int))), (0, .v (.int .i64 (x.1 : Int))), (1, .v (.int .i64 (x.2.1 : Int)))]) (i, n, 0) ⟨h, Nat.le_refl _, Nat.zero_add _⟩ ?_ ?_
  · (apply Le.mk' []; apply RnT.c; exact rfl; exact Rn.v rfl; apply RnT.c; exact rfl; exact Rn.v rfl; apply RnT.c; exact rfl; exact Rn.v rfl; exact RnT.n; exact RnH.n
     exact rfl)
  rintro ⟨j, m, d⟩ ⟨g1, g2, g3⟩
  dsimp only at g1 g2 g3 ⊢
  have hd := dep_lt n i (by omega)
  (refine Gol.seq ?_; refine Gol.seq ?_; apply Gol.region; apply Trc.stp rfl rfl rfl; apply s_move
   exact rfl; dsimp only [Nat.reduceAdd, Nat.reduceMul, List.nil_append]; apply Trc.stp rfl rfl rfl; apply s_gtn; exact rfl; exact rfl; dsimp only [Nat.reduceAdd, Nat.reduceMul, List.nil_append]
   exact Trc.done _ _ _; exact rfl; refine thn_n ?_)
  refine Gol.cond rfl (fun hc => ?_) (fun hc => ?_)
  · have h2 : 2 ≤ m := of_decide_eq_true hc
    have hsp := split_bd m h2
    (refine Gol.skip ?_; refine thn_n ?_; refine Gol.block ?_; refine Gol.seq ?_; apply Gol.region
     apply Trc.stp rfl rfl rfl; apply s_move; exact rfl; dsimp only [Nat.reduceAdd, Nat.reduceMul, List.nil_append]
     apply Trc.stp rfl rfl rfl; apply s_call (f := 112) rfl; apply evs.cons rfl; exact evs.nil; apply ArgL.cons; exact arg_clo
     exact ArgL.nil; exact split_ok m (by omega) (by omega); exact Nat.le_of_ble_eq_true rfl; dsimp only [Nat.reduceAdd, Nat.reduceMul, Nat.reduceSub, List.nil_append, List.cons_append, nbk, List.map_cons, List.map_nil]
     apply Trc.stp rfl rfl rfl; apply s_assign; exact rfl; dsimp only [Nat.reduceAdd, Nat.reduceMul, List.nil_append]
     exact Trc.done _ _ _; exact rfl; refine thn_n ?_; refine Gol.seq ?_; refine Gol.seq ?_; apply Gol.region
     apply Trc.stp rfl rfl rfl; apply s_move; exact rfl; dsimp only [Nat.reduceAdd, Nat.reduceMul, List.nil_append]
     apply Trc.stp rfl rfl rfl; apply s_move; exact rfl; dsimp only [Nat.reduceAdd, Nat.reduceMul, List.nil_append]
     apply Trc.stp rfl rfl rfl; apply s_ltn; exact rfl; exact rfl; dsimp only [Nat.reduceAdd, Nat.reduceMul, List.nil_append]
     exact Trc.done _ _ _; exact rfl; refine thn_n ?_)
    refine Gol.cond rfl (fun hk => ?_) (fun hk => ?_)
    · have hk' : j < splitN m := of_decide_eq_true hk
      have e := dep_lo h2 hk'
      (apply Gol.region; apply Trc.stp rfl rfl rfl; apply s_move; exact rfl; dsimp only [Nat.reduceAdd, Nat.reduceMul, List.nil_append]
       apply Trc.stp rfl rfl rfl; apply s_assign; exact rfl; dsimp only [Nat.reduceAdd, Nat.reduceMul, List.nil_append]
       exact Trc.done _ _ _; exact rfl; refine thn_n ?_; apply Gol.region; apply Trc.stp rfl rfl rfl; apply s_move
       exact rfl; dsimp only [Nat.reduceAdd, Nat.reduceMul, List.nil_append]; apply Trc.stp rfl rfl rfl; apply s_addn; exact rfl; exact rfl; simp <;> omega; dsimp only [Nat.reduceAdd, Nat.reduceMul, List.nil_append]
       apply Trc.stp rfl rfl rfl; apply s_assign; exact rfl; dsimp only [Nat.reduceAdd, Nat.reduceMul, List.nil_append]
       exact Trc.done _ _ _; exact rfl; refine inBlk_n ?_)
      refine rnd_n (j, splitN m, d + 1) ⟨hk', by dsimp only; omega, by dsimp only; omega⟩ (by dsimp only; omega) ?_
      (apply Le.mk' []; apply RnT.c; exact rfl; exact Rn.v rfl; apply RnT.c; exact rfl; exact Rn.v rfl; apply RnT.c; exact rfl; exact Rn.v rfl; exact RnT.n; exact RnH.n
       exact rfl)
    · have hk' : ¬ j < splitN m := of_decide_eq_false hk
      have e := dep_hi h2 hk'
      (apply Gol.region; apply Trc.stp rfl rfl rfl; apply s_move; exact rfl; dsimp only [Nat.reduceAdd, Nat.reduceMul, List.nil_append]
       apply Trc.stp rfl rfl rfl; apply s_move; exact rfl; dsimp only [Nat.reduceAdd, Nat.reduceMul, List.nil_append]
       apply Trc.stp rfl rfl rfl; apply s_subn; exact rfl; exact rfl; omega; omega; dsimp only [Nat.reduceAdd, Nat.reduceMul, Nat.reduceSub, List.nil_append, List.cons_append, nbk, List.map_cons, List.map_nil]
       apply Trc.stp rfl rfl rfl; apply s_move; exact rfl; dsimp only [Nat.reduceAdd, Nat.reduceMul, List.nil_append]
       apply Trc.stp rfl rfl rfl; apply s_move; exact rfl; dsimp only [Nat.reduceAdd, Nat.reduceMul, List.nil_append]
       apply Trc.stp rfl rfl rfl; apply s_subn; exact rfl; exact rfl; omega; omega; dsimp only [Nat.reduceAdd, Nat.reduceMul, Nat.reduceSub, List.nil_append, List.cons_append, nbk, List.map_cons, List.map_nil]
       apply Trc.stp rfl rfl rfl; apply s_assign; exact rfl; dsimp only [Nat.reduceAdd, Nat.reduceMul, List.nil_append]
       apply Trc.stp rfl rfl rfl; apply s_assign; exact rfl; dsimp only [Nat.reduceAdd, Nat.reduceMul, List.nil_append]
       exact Trc.done _ _ _; exact rfl; refine thn_n ?_; apply Gol.region; apply Trc.stp rfl rfl rfl; apply s_move
       exact rfl; dsimp only [Nat.reduceAdd, Nat.reduceMul, List.nil_append]; apply Trc.stp rfl rfl rfl; apply s_addn; exact rfl; exact rfl; simp <;> omega; dsimp only [Nat.reduceAdd, Nat.reduceMul, List.nil_append]
       apply Trc.stp rfl rfl rfl; apply s_assign; exact rfl; dsimp only [Nat.reduceAdd, Nat.reduceMul, List.nil_append]
       exact Trc.done _ _ _; exact rfl; refine inBlk_n ?_)
      refine rnd_n (j - splitN m, m - splitN m, d + 1) ⟨by dsimp only; omega, by dsimp only; omega, by dsimp only; omega⟩ (by dsimp only; omega) ?_
      (apply Le.mk' []; apply RnT.c; exact rfl; exact Rn.v rfl; apply RnT.c; exact rfl; exact Rn.v rfl; apply RnT.c; exact rfl; exact Rn.v rfl; exact RnT.n; exact RnH.n
       exact rfl)
  · have h2 : ¬ 2 ≤ m := of_decide_eq_false hc
    have e := dep_one (i := j) h2
    obtain rfl : d = depN i n := by omega
    (refine Gol.exit ?_; refine thn_x ?_; refine rnd_x ?_; refine inBlk_hit ?_; refine thn_n ?_
     refine Gol.seq ?_; apply Gol.region; apply Trc.stp rfl rfl rfl; apply s_move; exact rfl
     dsimp only [Nat.reduceAdd, Nat.reduceMul, List.nil_append]; apply Trc.stp rfl rfl rfl; apply s_assign; exact rfl; dsimp only [Nat.reduceAdd, Nat.reduceMul, List.nil_append]
     exact Trc.done _ _ _; exact rfl; refine thn_n ?_; refine Gol.ret ?_)
    (apply RetQ.mk (by first | exact .inr rfl | exact .inl rfl); apply res_1 rfl; exact res_tmp rfl; exact out_val)
theorem refDepth_yes (i n : Nat) (h : i < n) (hb : n ≤ 9223372036854775807) : Fresh Try.prog 119 [.v (.int .i64 (i : Int)), .v (.int .i64 (n : Int))] (fun _ => .v (.int .i64 (depN i n : Int))) [] := by
  have h0 : ¬ ((i : Int) < 0) := by omega
  have h1 : ¬ (n ≤ i) := by omega
  refine Fresh.of (fn := Try.f119) Try.func119 rfl (Nat.le_of_ble_eq_true rfl) fun w => ?_
  (refine Gol.seq ?_; apply Gol.region; apply Trc.stp rfl rfl rfl; apply s_assign; exact rfl
   dsimp only [Nat.reduceAdd, Nat.reduceMul, List.nil_append]; exact Trc.done _ _ _; exact rfl
   refine thn_n ?_; refine Gol.seq ?_; refine Gol.seq ?_; apply Gol.region; apply Trc.stp rfl rfl rfl; apply s_move; exact rfl; dsimp only [Nat.reduceAdd, Nat.reduceMul, List.nil_append]
   apply Trc.stp rfl rfl rfl; apply s_ltn; exact rfl; exact rfl; dsimp only [Nat.reduceAdd, Nat.reduceMul, List.nil_append]
   apply Trc.stp rfl rfl rfl; apply s_move; exact rfl; dsimp only [Nat.reduceAdd, Nat.reduceMul, List.nil_append]
   apply Trc.step rfl rfl; apply wnt_g; exact rfl; exact rfl; exact rfl; rfl; apply s_move; exact rfl; dsimp only [Nat.reduceAdd, Nat.reduceMul, List.nil_append]
   apply Trc.step rfl rfl; apply wnt_g; exact rfl; exact rfl; exact rfl; rfl; apply s_move; exact rfl; dsimp only [Nat.reduceAdd, Nat.reduceMul, List.nil_append]
   apply Trc.step rfl rfl; apply wnt_g; exact rfl; exact rfl; exact rfl; rfl; apply s_gen; exact rfl; exact rfl; dsimp only [Nat.reduceAdd, Nat.reduceMul, List.nil_append]
   apply Trc.stp rfl rfl rfl; apply s_pick_f; exact rfl; rfl; exact rfl; dsimp only [Nat.reduceAdd, Nat.reduceMul, List.nil_append]
   exact Trc.done _ _ _; exact rfl; refine thn_n ?_)
  refine Gol.cond_f rfl (decide_eq_false h1) ?_
  (refine Gol.skip ?_; refine thn_n ?_; refine Gol.seq ?_; apply Gol.region; apply Trc.stp rfl rfl rfl; apply s_assign; exact rfl; dsimp only [Nat.reduceAdd, Nat.reduceMul, List.nil_append]
   exact Trc.done _ _ _; exact rfl; refine thn_n ?_; refine Gol.seq ?_; refine Gol.block ?_)
  refine Gol.loop (ι := Nat × Nat × Nat) (fun x => x.1 < x.2.1 ∧ x.2.1 ≤ n ∧ x.2.2 + depN x.1 x.2.1 = depN i n) (fun x => x.2.1) 72 (fun x => []) (fun x => [(5, .v (.int .i64 (x.2.2 : Int))), (0, .v (.int .i64 (x.1 : Int))), (1, .v (.int .i64 (x.2.1 : Int)))]) (i, n, 0) ⟨h, Nat.le_refl _, Nat.zero_add _⟩ ?_ ?_
  · (apply Le.mk' []; apply RnT.c; exact rfl; exact Rn.v rfl; apply RnT.c; exact rfl; exact Rn.v rfl; apply RnT.c; exact rfl; exact Rn.v rfl; exact RnT.n; exact RnH.n
     exact rfl)
  rintro ⟨j, m, d⟩ ⟨g1, g2, g3⟩
  dsimp only at g1 g2 g3 ⊢
  have hd := dep_lt n i (by omega)
  (refine Gol.seq ?_; refine Gol.seq ?_; apply Gol.region; apply Trc.stp rfl rfl rfl; apply s_move
   exact rfl; dsimp only [Nat.reduceAdd, Nat.reduceMul, List.nil_append]; apply Trc.stp rfl rfl rfl; apply s_gtn; exact rfl; exact rfl; dsimp only [Nat.reduceAdd, Nat.reduceMul, List.nil_append]
   exact Trc.done _ _ _; exact rfl; refine thn_n ?_)
  refine Gol.cond rfl (fun hc => ?_) (fun hc => ?_)
  · have h2 : 2 ≤ m := of_decide_eq_true hc
    have hsp := split_bd m h2
    (refine Gol.skip ?_; refine thn_n ?_; refine Gol.block ?_; refine Gol.seq ?_; apply Gol.region
     apply Trc.stp rfl rfl rfl; apply s_move; exact rfl; dsimp only [Nat.reduceAdd, Nat.reduceMul, List.nil_append]
     apply Trc.stp rfl rfl rfl; apply s_call (f := 129) rfl; apply evs.cons rfl; exact evs.nil; apply ArgL.cons
     exact arg_clo; exact ArgL.nil; exact refSplit_ok m (by omega) (by omega); exact Nat.le_of_ble_eq_true rfl; dsimp only [Nat.reduceAdd, Nat.reduceMul, Nat.reduceSub, List.nil_append, List.cons_append, nbk, List.map_cons, List.map_nil]
     apply Trc.stp rfl rfl rfl; apply s_assign; exact rfl; dsimp only [Nat.reduceAdd, Nat.reduceMul, List.nil_append]
     exact Trc.done _ _ _; exact rfl; refine thn_n ?_; refine Gol.seq ?_; refine Gol.seq ?_; apply Gol.region
     apply Trc.stp rfl rfl rfl; apply s_move; exact rfl; dsimp only [Nat.reduceAdd, Nat.reduceMul, List.nil_append]
     apply Trc.stp rfl rfl rfl; apply s_move; exact rfl; dsimp only [Nat.reduceAdd, Nat.reduceMul, List.nil_append]
     apply Trc.stp rfl rfl rfl; apply s_ltn; exact rfl; exact rfl; dsimp only [Nat.reduceAdd, Nat.reduceMul, List.nil_append]
     exact Trc.done _ _ _; exact rfl; refine thn_n ?_)
    refine Gol.cond rfl (fun hk => ?_) (fun hk => ?_)
    · have hk' : j < splitN m := of_decide_eq_true hk
      have e := dep_lo h2 hk'
      (apply Gol.region; apply Trc.stp rfl rfl rfl; apply s_move; exact rfl; dsimp only [Nat.reduceAdd, Nat.reduceMul, List.nil_append]
       apply Trc.stp rfl rfl rfl; apply s_assign; exact rfl; dsimp only [Nat.reduceAdd, Nat.reduceMul, List.nil_append]
       exact Trc.done _ _ _; exact rfl; refine thn_n ?_; apply Gol.region; apply Trc.stp rfl rfl rfl; apply s_move
       exact rfl; dsimp only [Nat.reduceAdd, Nat.reduceMul, List.nil_append]; apply Trc.stp rfl rfl rfl; apply s_addn; exact rfl; exact rfl; simp <;> omega; dsimp only [Nat.reduceAdd, Nat.reduceMul, List.nil_append]
       apply Trc.stp rfl rfl rfl; apply s_assign; exact rfl; dsimp only [Nat.reduceAdd, Nat.reduceMul, List.nil_append]
       exact Trc.done _ _ _; exact rfl; refine inBlk_n ?_)
      refine rnd_n (j, splitN m, d + 1) ⟨hk', by dsimp only; omega, by dsimp only; omega⟩ (by dsimp only; omega) ?_
      (apply Le.mk' []; apply RnT.c; exact rfl; exact Rn.v rfl; apply RnT.c; exact rfl; exact Rn.v rfl; apply RnT.c; exact rfl; exact Rn.v rfl; exact RnT.n; exact RnH.n
       exact rfl)
    · have hk' : ¬ j < splitN m := of_decide_eq_false hk
      have e := dep_hi h2 hk'
      (apply Gol.region; apply Trc.stp rfl rfl rfl; apply s_move; exact rfl; dsimp only [Nat.reduceAdd, Nat.reduceMul, List.nil_append]
       apply Trc.stp rfl rfl rfl; apply s_move; exact rfl; dsimp only [Nat.reduceAdd, Nat.reduceMul, List.nil_append]
       apply Trc.stp rfl rfl rfl; apply s_subn; exact rfl; exact rfl; omega; omega; dsimp only [Nat.reduceAdd, Nat.reduceMul, Nat.reduceSub, List.nil_append, List.cons_append, nbk, List.map_cons, List.map_nil]
       apply Trc.stp rfl rfl rfl; apply s_move; exact rfl; dsimp only [Nat.reduceAdd, Nat.reduceMul, List.nil_append]
       apply Trc.stp rfl rfl rfl; apply s_move; exact rfl; dsimp only [Nat.reduceAdd, Nat.reduceMul, List.nil_append]
       apply Trc.stp rfl rfl rfl; apply s_subn; exact rfl; exact rfl; omega; omega; dsimp only [Nat.reduceAdd, Nat.reduceMul, Nat.reduceSub, List.nil_append, List.cons_append, nbk, List.map_cons, List.map_nil]
       apply Trc.stp rfl rfl rfl; apply s_assign; exact rfl; dsimp only [Nat.reduceAdd, Nat.reduceMul, List.nil_append]
       apply Trc.stp rfl rfl rfl; apply s_assign; exact rfl; dsimp only [Nat.reduceAdd, Nat.reduceMul, List.nil_append]
       exact Trc.done _ _ _; exact rfl; refine thn_n ?_; apply Gol.region; apply Trc.stp rfl rfl rfl; apply s_move
       exact rfl; dsimp only [Nat.reduceAdd, Nat.reduceMul, List.nil_append]; apply Trc.stp rfl rfl rfl; apply s_addn; exact rfl; exact rfl; simp <;> omega; dsimp only [Nat.reduceAdd, Nat.reduceMul, List.nil_append]
       apply Trc.stp rfl rfl rfl; apply s_assign; exact rfl; dsimp only [Nat.reduceAdd, Nat.reduceMul, List.nil_append]
       exact Trc.done _ _ _; exact rfl; refine inBlk_n ?_)
      refine rnd_n (j - splitN m, m - splitN m, d + 1) ⟨by dsimp only; omega, by dsimp only; omega, by dsimp only; omega⟩ (by dsimp only; omega) ?_
      (apply Le.mk' []; apply RnT.c; exact rfl; exact Rn.v rfl; apply RnT.c; exact rfl; exact Rn.v rfl; apply RnT.c; exact rfl; exact Rn.v rfl; exact RnT.n; exact RnH.n
       exact rfl)
  · have h2 : ¬ 2 ≤ m := of_decide_eq_false hc
    have e := dep_one (i := j) h2
    obtain rfl : d = depN i n := by omega
    (refine Gol.exit ?_; refine thn_x ?_; refine rnd_x ?_; refine inBlk_hit ?_; refine thn_n ?_
     refine Gol.seq ?_; apply Gol.region; apply Trc.stp rfl rfl rfl; apply s_move; exact rfl
     dsimp only [Nat.reduceAdd, Nat.reduceMul, List.nil_append]; apply Trc.stp rfl rfl rfl; apply s_assign; exact rfl; dsimp only [Nat.reduceAdd, Nat.reduceMul, List.nil_append]
     exact Trc.done _ _ _; exact rfl; refine thn_n ?_; refine Gol.ret ?_)
    (apply RetQ.mk (by first | exact .inr rfl | exact .inl rfl); apply res_1 rfl; exact res_tmp rfl; exact out_val)
theorem flat_cons (a : UInt64) (l : List UInt64) : flat (a :: l) = nameB a ++ flat l := rfl
theorem flat_take8 : ∀ (l : List UInt64) (k : Nat), (flat l).take (k * 8) = flat (l.take k)
  | _, 0 => by simp [flat]
  | [], k + 1 => by simp [flat]
  | a :: l, k + 1 => by rw [flat_cons, List.take_succ_cons, flat_cons, Nat.succ_mul, Nat.add_comm, ← nameB_length a, List.take_length_add_append, nameB_length, flat_take8 l k]
theorem flat_drop8 : ∀ (l : List UInt64) (k : Nat), (flat l).drop (k * 8) = flat (l.drop k)
  | _, 0 => by simp
  | [], k + 1 => by simp [flat]
  | a :: l, k + 1 => by rw [flat_cons, List.drop_succ_cons, Nat.succ_mul, Nat.add_comm, ← nameB_length a, List.drop_length_add_append, nameB_length, flat_drop8 l k]
theorem seg_lo (l : List UInt64) (k : Nat) : List.take ((k - 0) * 8) (List.drop 0 (byA (flat l))) = byA (flat (l.take k)) := by rw [Nat.sub_zero, List.drop_zero, byA_take, flat_take8]
theorem seg_hi (l : List UInt64) (k n : Nat) (h : l.length = n) : List.take ((n - k) * 8) (List.drop (k * 8) (byA (flat l))) = byA (flat (l.drop k)) := by
  rw [byA_drop, flat_drop8, List.take_of_length_le (by rw [byA_length, flat_length, List.length_drop, h]; exact Nat.le_refl _)]
section
variable (S : List UInt8 → UInt64)
theorem take_lt {l : List UInt64} (h : 2 ≤ l.length) : (l.take (splitN l.length)).length < l.length := by have := split_bd _ h; simp; omega
theorem drop_lt {l : List UInt64} (h : 2 ≤ l.length) : (l.drop (splitN l.length)).length < l.length := by have := split_bd _ h; simp; omega
def rootN (l : List UInt64) : UInt64 := if h : 2 ≤ l.length then S (0x12 :: (nameB (rootN (l.take (splitN l.length))) ++ nameB (rootN (l.drop (splitN l.length))))) else if l.length = 1 then S (0x11 :: nameB (l.getD 0 0)) else S [0x10]
termination_by l.length
decreasing_by
  · exact take_lt h
  · exact drop_lt h
variable (hS : HashF S)
include hS
theorem single_ok (a : UInt64) : Fresh Try.prog 111 [.v (.agg (nameC a))] (fun _ => .v (.agg (nameC (S (0x11 :: nameB a))))) [] := by
  refine Fresh.of (fn := Try.f111) Try.func111 rfl (Nat.le_of_ble_eq_true rfl) fun w => ?_
  (refine Gol.seq ?_; apply Gol.region; apply Trc.stp rfl rfl rfl; apply s_box; exact rfl
   exact rfl; dsimp only [Nat.reduceAdd, Nat.reduceMul, Nat.reduceSub, List.nil_append, List.cons_append, nbk, List.map_cons, List.map_nil]; apply Trc.stp rfl rfl rfl; apply s_alloc; dsimp only [Nat.reduceAdd, Nat.reduceMul, Nat.reduceSub, List.nil_append, List.cons_append, nbk, List.map_cons, List.map_nil]
   exact Trc.done _ _ _; exact rfl; refine thn_n ?_; refine Gol.seq ?_; apply Gol.region; apply Trc.stp rfl rfl rfl; apply s_slA; exact rfl; exact rfl; exact rfl; exact rfl; simp; omega; omega; omega; dsimp only [Nat.reduceAdd, Nat.reduceMul, Nat.reduceSub, List.nil_append, List.cons_append, nbk, List.map_cons, List.map_nil]
   apply Trc.stp rfl rfl rfl; apply s_call (f := 84) rfl; apply evs.cons rfl; apply evs.cons rfl; exact evs.nil; apply ArgL.cons
   exact arg_clo; apply ArgL.cons; exact arg_name rfl rfl; exact ArgL.nil; exact hS.tagged 0x11 (nameB a) _ _ rfl (by decide); exact Nat.le_of_ble_eq_true rfl
   dsimp only [Nat.reduceAdd, Nat.reduceMul, Nat.reduceSub, List.nil_append, List.cons_append, nbk, List.map_cons, List.map_nil]; apply Trc.stepN rfl rfl
   exact wnt_n rfl; apply s_storeW; exact rfl; exact rfl; exact rfl; exact rfl; rfl; exact rfl; dsimp only [Nat.reduceAdd, Nat.reduceMul, Nat.reduceSub, List.nil_append, List.cons_append, nbk, List.map_cons, List.map_nil]
   exact Trc.done _ _ _; exact rfl; refine thn_n ?_; refine Gol.ret ?_)
  (apply RetQ.mk (by first | exact .inr rfl | exact .inl rfl); apply res_1 rfl; exact res_cell rfl rfl rfl (agu_cuv _); exact out_val)
theorem refPair_ok (tag : UInt8) (x y : UInt64) : Fresh Try.prog 130 [.v (.int .u8 (tag.toNat : Int)), .v (.agg (nameC x)), .v (.agg (nameC y))] (fun _ => .v (.agg (nameC (S (tag :: (nameB x ++ nameB y)))))) [] := by
  refine Fresh.of (fn := Try.f130) Try.func130 rfl (Nat.le_of_ble_eq_true rfl) fun w => ?_
  (refine Gol.seq ?_; apply Gol.region; apply Trc.stp rfl rfl rfl; apply s_box; exact rfl
   exact rfl; dsimp only [Nat.reduceAdd, Nat.reduceMul, Nat.reduceSub, List.nil_append, List.cons_append, nbk, List.map_cons, List.map_nil]; apply Trc.stp rfl rfl rfl; apply s_box; exact rfl; exact rfl; dsimp only [Nat.reduceAdd, Nat.reduceMul, Nat.reduceSub, List.nil_append, List.cons_append, nbk, List.map_cons, List.map_nil]
   apply Trc.stp rfl rfl rfl; apply s_alloc; dsimp only [Nat.reduceAdd, Nat.reduceMul, Nat.reduceSub, List.nil_append, List.cons_append, nbk, List.map_cons, List.map_nil]
   exact Trc.done _ _ _; exact rfl; refine thn_n ?_; refine Gol.seq ?_; apply Gol.any; kernel_rfl; apply Trc.stp rfl rfl rfl; apply s_move; exact rfl; dsimp only [Nat.reduceAdd, Nat.reduceMul, List.nil_append]
   apply Trc.stp rfl rfl rfl; apply s_bytesP; exact PV.nil; exact rfl; omega; dsimp only [Nat.reduceAdd, Nat.reduceMul, Nat.reduceSub, List.nil_append, List.cons_append, nbk, List.map_cons, List.map_nil]
   apply Trc.stp rfl rfl rfl; apply s_slA; exact rfl; exact rfl; exact rfl; exact rfl; simp; omega; omega; omega; dsimp only [Nat.reduceAdd, Nat.reduceMul, Nat.reduceSub, List.nil_append, List.cons_append, nbk, List.map_cons, List.map_nil]
   apply Trc.stp rfl rfl rfl; apply s_app; exact rfl; exact rfl; exact rfl; exact rd_name rfl rfl; rfl; exact rfl; exact rfl
   exact OneL.one; omega; dsimp only [Nat.reduceAdd, Nat.reduceMul, Nat.reduceSub, List.nil_append, List.cons_append, nbk, List.map_cons, List.map_nil]; apply Trc.stp rfl rfl rfl; apply s_slA; exact rfl; exact rfl; exact rfl; exact rfl; simp; omega; omega; omega; dsimp only [Nat.reduceAdd, Nat.reduceMul, Nat.reduceSub, List.nil_append, List.cons_append, nbk, List.map_cons, List.map_nil]
   apply Trc.stp rfl rfl rfl; apply s_app; exact rfl; exact rfl; exact rfl; exact rd_name rfl rfl; rfl; exact rfl; exact rfl
   exact OneL.one; omega; dsimp only [Nat.reduceAdd, Nat.reduceMul, Nat.reduceSub, List.nil_append, List.cons_append, nbk, List.map_cons, List.map_nil]; apply Trc.stp rfl rfl rfl; apply s_call (f := 101) rfl; apply evs.cons rfl; apply evs.cons rfl; exact evs.nil; apply ArgL.cons
   exact arg_clo; apply ArgL.cons; exact arg_sl rfl; exact ArgL.nil; exact hS.refTagged tag (nameB x ++ nameB y) _ _ rfl (by decide); exact Nat.le_of_ble_eq_true rfl
   dsimp only [Nat.reduceAdd, Nat.reduceMul, Nat.reduceSub, List.nil_append, List.cons_append, nbk, List.map_cons, List.map_nil]; apply Trc.stepN rfl rfl
   exact wnt_n rfl; apply s_storeW; exact rfl; exact rfl; exact rfl; exact rfl; rfl; exact rfl; dsimp only [Nat.reduceAdd, Nat.reduceMul, Nat.reduceSub, List.nil_append, List.cons_append, nbk, List.map_cons, List.map_nil]
   exact Trc.done _ _ _; kernel_rfl; exact rfl; refine thn_n ?_; refine Gol.ret ?_)
  (apply RetQ.mk (by first | exact .inr rfl | exact .inl rfl); apply res_1 rfl; exact res_cell rfl rfl rfl (agu_cuv _); exact out_val)
theorem root_ok (n : Nat) : ∀ (l : List UInt64) (f : Bool), l.length = n → n ≤ 100000000 → Fresh Try.prog 83 [.ex n f (byA (flat l))] (fun _ => .v (.agg (nameC (rootN S l)))) [] := by
  induction n using Nat.strongRecOn with
  | _ n ih =>
    intro l f hl hb
    by_cases h0 : n = 0
    · subst h0
      rw [rootN, dif_neg (by omega), if_neg (by omega)]
      refine Fresh.of (fn := Try.f83) Try.func83 rfl (Nat.le_of_ble_eq_true rfl) fun w => ?_
      (refine Gol.seq ?_; apply Gol.region; apply Trc.stp rfl rfl rfl; apply s_alloc; dsimp only [Nat.reduceAdd, Nat.reduceMul, Nat.reduceSub, List.nil_append, List.cons_append, nbk, List.map_cons, List.map_nil]
       exact Trc.done _ _ _; exact rfl; refine thn_n ?_; refine Gol.seq ?_; refine Gol.seq ?_; apply Gol.region
       apply Trc.stp rfl rfl rfl; apply s_move; exact rfl; dsimp only [Nat.reduceAdd, Nat.reduceMul, List.nil_append]
       apply Trc.stp rfl rfl rfl; apply s_len; exact rfl; exact ln_ex; dsimp only [Nat.reduceAdd, Nat.reduceMul, List.nil_append]
       exact Trc.done _ _ _; exact rfl; refine thn_n ?_; refine Gol.block ?_; refine Gol.seq ?_; apply Gol.region
       apply Trc.stp rfl rfl rfl; apply s_eqn; exact rfl; exact rfl; dsimp only [Nat.reduceAdd, Nat.reduceMul, List.nil_append]
       apply Trc.stp rfl rfl rfl; apply s_assign; exact rfl; dsimp only [Nat.reduceAdd, Nat.reduceMul, List.nil_append]
       exact Trc.done _ _ _; exact rfl; refine thn_n ?_)
      refine Gol.cond_t rfl (by decide) ?_
      (refine Gol.seq ?_; apply Gol.region; apply Trc.stp rfl rfl rfl; apply s_call (f := 84) rfl
       apply evs.cons rfl; apply evs.cons rfl; exact evs.nil; apply ArgL.cons; exact arg_clo; apply ArgL.cons; exact arg_clo; exact ArgL.nil; exact (hS.tagged 0x10 [] 0 false rfl (by decide)).sub sub_nil2
       exact Nat.le_of_ble_eq_true rfl; dsimp only [Nat.reduceAdd, Nat.reduceMul, Nat.reduceSub, List.nil_append, List.cons_append, nbk, List.map_cons, List.map_nil]
       apply Trc.stepN rfl rfl; exact wnt_n rfl; apply s_storeW; exact rfl; exact rfl; exact rfl; exact rfl; rfl; exact rfl; dsimp only [Nat.reduceAdd, Nat.reduceMul, Nat.reduceSub, List.nil_append, List.cons_append, nbk, List.map_cons, List.map_nil]
       exact Trc.done _ _ _; exact rfl; refine thn_n ?_; refine Gol.ret ?_; refine inBlk_r ?_; refine thn_r ?_)
      (apply RetQ.mk (by first | exact .inr rfl | exact .inl rfl); apply res_1 rfl; exact res_cell rfl rfl rfl (agu_cuv _); exact out_val)
    by_cases h1 : n = 1
    · subst h1
      rw [rootN, dif_neg (by omega), if_pos hl]
      refine Fresh.of (fn := Try.f83) Try.func83 rfl (Nat.le_of_ble_eq_true rfl) fun w => ?_
      (refine Gol.seq ?_; apply Gol.region; apply Trc.stp rfl rfl rfl; apply s_alloc; dsimp only [Nat.reduceAdd, Nat.reduceMul, Nat.reduceSub, List.nil_append, List.cons_append, nbk, List.map_cons, List.map_nil]
       exact Trc.done _ _ _; exact rfl; refine thn_n ?_; refine Gol.seq ?_; refine Gol.seq ?_; apply Gol.region
       apply Trc.stp rfl rfl rfl; apply s_move; exact rfl; dsimp only [Nat.reduceAdd, Nat.reduceMul, List.nil_append]
       apply Trc.stp rfl rfl rfl; apply s_len; exact rfl; exact ln_ex; dsimp only [Nat.reduceAdd, Nat.reduceMul, List.nil_append]
       exact Trc.done _ _ _; exact rfl; refine thn_n ?_; refine Gol.block ?_; refine Gol.seq ?_; apply Gol.region
       apply Trc.stp rfl rfl rfl; apply s_eqn; exact rfl; exact rfl; dsimp only [Nat.reduceAdd, Nat.reduceMul, List.nil_append]
       apply Trc.stp rfl rfl rfl; apply s_assign; exact rfl; dsimp only [Nat.reduceAdd, Nat.reduceMul, List.nil_append]
       exact Trc.done _ _ _; exact rfl; refine thn_n ?_)
      refine Gol.cond_f rfl (by decide) ?_
      (refine Gol.seq ?_; apply Gol.region; apply Trc.stp rfl rfl rfl; apply s_eqn; exact rfl
       exact rfl; dsimp only [Nat.reduceAdd, Nat.reduceMul, List.nil_append]; apply Trc.stp rfl rfl rfl; apply s_assign; exact rfl; dsimp only [Nat.reduceAdd, Nat.reduceMul, List.nil_append]
       exact Trc.done _ _ _; exact rfl; refine thn_n ?_)
      refine Gol.cond_t rfl (by decide) ?_
      (refine Gol.seq ?_; apply Gol.region; apply Trc.stp rfl rfl rfl; apply s_move; exact rfl
       dsimp only [Nat.reduceAdd, Nat.reduceMul, List.nil_append]; apply Trc.stp rfl rfl rfl; apply s_ixe; exact rfl; exact rfl; decide; exact flat_ne (by omega); dsimp only [Nat.reduceAdd, Nat.reduceMul, List.nil_append]
       apply Trc.stp rfl rfl rfl; apply s_loadEN; exact rfl; simp only [byA_length, List.length_append, List.length_cons, List.length_nil, List.length_take, List.length_drop, List.length_replicate, List.length_map, Nat.mul_one, nameB_length, flat_length, List.length_set, inA_length] <;> omega
       exact agu_nm0 (by omega); dsimp only [Nat.reduceAdd, Nat.reduceMul, List.nil_append]
       apply Trc.stp rfl rfl rfl; apply s_call (f := 111) rfl; apply evs.cons rfl; exact evs.nil; apply ArgL.cons; exact arg_clo
       exact ArgL.nil; exact single_ok S hS _; exact Nat.le_of_ble_eq_true rfl; dsimp only [Nat.reduceAdd, Nat.reduceMul, Nat.reduceSub, List.nil_append, List.cons_append, nbk, List.map_cons, List.map_nil]
       apply Trc.stepN rfl rfl; exact wnt_n rfl; apply s_storeW; exact rfl; exact rfl; exact rfl; exact rfl; rfl; exact rfl; dsimp only [Nat.reduceAdd, Nat.reduceMul, Nat.reduceSub, List.nil_append, List.cons_append, nbk, List.map_cons, List.map_nil]
       exact Trc.done _ _ _; exact rfl; refine thn_n ?_; refine Gol.ret ?_; refine inBlk_r ?_; refine thn_r ?_)
      (apply RetQ.mk (by first | exact .inr rfl | exact .inl rfl); apply res_1 rfl; exact res_cell rfl rfl rfl (agu_cuv _); exact out_val)
    have h2 : 2 ≤ n := by omega
    have hsp := split_bd n h2
    rw [rootN, dif_pos (by omega)]
    refine Fresh.of (fn := Try.f83) Try.func83 rfl (Nat.le_of_ble_eq_true rfl) fun w => ?_
    (refine Gol.seq ?_; apply Gol.region; apply Trc.stp rfl rfl rfl; apply s_alloc; dsimp only [Nat.reduceAdd, Nat.reduceMul, Nat.reduceSub, List.nil_append, List.cons_append, nbk, List.map_cons, List.map_nil]
     exact Trc.done _ _ _; exact rfl; refine thn_n ?_; refine Gol.seq ?_; refine Gol.seq ?_; apply Gol.region
     apply Trc.stp rfl rfl rfl; apply s_move; exact rfl; dsimp only [Nat.reduceAdd, Nat.reduceMul, List.nil_append]
     apply Trc.stp rfl rfl rfl; apply s_len; exact rfl; exact ln_ex; dsimp only [Nat.reduceAdd, Nat.reduceMul, List.nil_append]
     exact Trc.done _ _ _; exact rfl; refine thn_n ?_; refine Gol.block ?_; refine Gol.seq ?_; apply Gol.region
     apply Trc.stp rfl rfl rfl; apply s_eqn; exact rfl; exact rfl; dsimp only [Nat.reduceAdd, Nat.reduceMul, List.nil_append]
     apply Trc.stp rfl rfl rfl; apply s_assign; exact rfl; dsimp only [Nat.reduceAdd, Nat.reduceMul, List.nil_append]
     exact Trc.done _ _ _; exact rfl; refine thn_n ?_)
    refine Gol.cond_f rfl (decide_eq_false h0) ?_
    (refine Gol.seq ?_; apply Gol.region; apply Trc.stp rfl rfl rfl; apply s_eqn; exact rfl
     exact rfl; dsimp only [Nat.reduceAdd, Nat.reduceMul, List.nil_append]; apply Trc.stp rfl rfl rfl; apply s_assign; exact rfl; dsimp only [Nat.reduceAdd, Nat.reduceMul, List.nil_append]
     exact Trc.done _ _ _; exact rfl; refine thn_n ?_)
    refine Gol.cond_f rfl (decide_eq_false h1) ?_
    rw [hl]
    have hlo : ∀ ff, Fresh Try.prog 83 [.ex (splitN n - 0) ff (List.take ((splitN n - 0) * 8) (List.drop 0 (byA (flat l))))] (fun _ => .v (.agg (nameC (rootN S (l.take (splitN n)))))) [] := fun ff => by
      rw [seg_lo]; exact ih _ (by omega) _ ff (by simp; omega) (by omega)
    have hhi : ∀ ff, Fresh Try.prog 83 [.ex (n - splitN n) ff (List.take ((n - splitN n) * 8) (List.drop (splitN n * 8) (byA (flat l))))] (fun _ => .v (.agg (nameC (rootN S (l.drop (splitN n)))))) [] := fun ff => by
      rw [seg_hi l _ n hl]; exact ih _ (by omega) _ ff (by simp; omega) (by omega)
    (refine Gol.skip ?_; refine inBlk_n ?_; refine thn_n ?_; refine Gol.seq ?_; apply Gol.region
     apply Trc.stp rfl rfl rfl; apply s_move; exact rfl; dsimp only [Nat.reduceAdd, Nat.reduceMul, List.nil_append]
     apply Trc.stp rfl rfl rfl; apply s_len; exact rfl; exact ln_ex; dsimp only [Nat.reduceAdd, Nat.reduceMul, List.nil_append]
     apply Trc.stp rfl rfl rfl; apply s_call (f := 112) rfl; apply evs.cons rfl; exact evs.nil; apply ArgL.cons; exact arg_clo
     exact ArgL.nil; exact split_ok n (by omega) (by omega); exact Nat.le_of_ble_eq_true rfl; dsimp only [Nat.reduceAdd, Nat.reduceMul, Nat.reduceSub, List.nil_append, List.cons_append, nbk, List.map_cons, List.map_nil]
     apply Trc.stp rfl rfl rfl; apply s_assign; exact rfl; dsimp only [Nat.reduceAdd, Nat.reduceMul, List.nil_append]
     exact Trc.done _ _ _; exact rfl; refine thn_n ?_; refine Gol.seq ?_; apply Gol.any; kernel_rfl; apply Trc.stp rfl rfl rfl; apply s_move; exact rfl; dsimp only [Nat.reduceAdd, Nat.reduceMul, List.nil_append]
     apply Trc.stp rfl rfl rfl; apply s_move; exact rfl; dsimp only [Nat.reduceAdd, Nat.reduceMul, List.nil_append]
     apply Trc.stp rfl rfl rfl; apply s_slE; exact rfl; exact rfl; exact ⟨_, rfl⟩; omega; omega; simp only [byA_length, List.length_append, List.length_cons, List.length_nil, List.length_take, List.length_drop, List.length_replicate, List.length_map, Nat.mul_one, nameB_length, flat_length, List.length_set, inA_length] <;> omega
     dsimp only [Nat.reduceAdd, Nat.reduceMul, Nat.reduceSub, List.nil_append, List.cons_append, nbk, List.map_cons, List.map_nil]; apply Trc.stp rfl rfl rfl; apply s_call (f := 83) rfl; apply evs.cons rfl; exact evs.nil; apply ArgL.cons; exact arg_clo; exact ArgL.nil
     exact hlo _; exact Nat.le_of_ble_eq_true rfl; dsimp only [Nat.reduceAdd, Nat.reduceMul, Nat.reduceSub, List.nil_append, List.cons_append, nbk, List.map_cons, List.map_nil]
     apply Trc.stp rfl rfl rfl; apply s_move; exact rfl; dsimp only [Nat.reduceAdd, Nat.reduceMul, List.nil_append]
     apply Trc.stp rfl rfl rfl; apply s_move; exact rfl; dsimp only [Nat.reduceAdd, Nat.reduceMul, List.nil_append]
     apply Trc.stp rfl rfl rfl; apply s_slE; exact rfl; exact ⟨_, rfl⟩; exact rfl; omega; omega; simp only [byA_length, List.length_append, List.length_cons, List.length_nil, List.length_take, List.length_drop, List.length_replicate, List.length_map, Nat.mul_one, nameB_length, flat_length, List.length_set, inA_length] <;> omega
     dsimp only [Nat.reduceAdd, Nat.reduceMul, Nat.reduceSub, List.nil_append, List.cons_append, nbk, List.map_cons, List.map_nil]; apply Trc.stp rfl rfl rfl; apply s_call (f := 83) rfl; apply evs.cons rfl; exact evs.nil; apply ArgL.cons; exact arg_clo; exact ArgL.nil
     exact hhi _; exact Nat.le_of_ble_eq_true rfl; dsimp only [Nat.reduceAdd, Nat.reduceMul, Nat.reduceSub, List.nil_append, List.cons_append, nbk, List.map_cons, List.map_nil]
     apply Trc.stp rfl rfl rfl; apply s_call (f := 113) rfl; apply evs.cons rfl; apply evs.cons rfl; apply evs.cons rfl
     exact evs.nil; apply ArgL.cons; exact arg_clo; apply ArgL.cons; exact arg_clo; apply ArgL.cons; exact arg_clo; exact ArgL.nil; exact hS.pair 0x12 _ _
     exact Nat.le_of_ble_eq_true rfl; dsimp only [Nat.reduceAdd, Nat.reduceMul, Nat.reduceSub, List.nil_append, List.cons_append, nbk, List.map_cons, List.map_nil]
     apply Trc.stepN rfl rfl; exact wnt_n rfl; apply s_storeW; exact rfl; exact rfl; exact rfl; exact rfl; rfl; exact rfl; dsimp only [Nat.reduceAdd, Nat.reduceMul, Nat.reduceSub, List.nil_append, List.cons_append, nbk, List.map_cons, List.map_nil]
     exact Trc.done _ _ _; kernel_rfl; exact rfl; refine thn_n ?_; refine Gol.ret ?_)
    (apply RetQ.mk (by first | exact .inr rfl | exact .inl rfl); apply res_1 rfl; exact res_cell rfl rfl rfl (agu_cuv _); exact out_val)
end
end Go.Proofs.Ytkkeeokeihkagaa

/-
  Layer 3, merkle, and the reference: Path, Follow, Verify. Conditions: lengths below 2^26.
-/
namespace Go.Proofs.Ytkkeeokeihkagaa
open Go.RowKit

/-- a nil result, told as an empty slice of one's own -/
theorem Fresh.nilTp {P : Program} {f : FuncId} {cs us : List AV} (e : TypeId) (sz : Nat) (h : Fresh P f cs (fun _ => .tp (.v (.slice none 0 0) :: us)) []) : Fresh P f cs (fun k => .tp (.sl k 0 :: us)) [⟨[], e, sz⟩] := fun E0 xs hS hD hx => (h E0 xs hS hD hx).mono (by
  rintro en w' ⟨x, ls, rfl, h1, _, _, h4⟩
  refine ⟨x, fun _ => ⟨none, 0⟩, rfl, h1, fun j g _ hg => (by cases hg), fun i j g _ _ hg => (by cases hg), fun k E' hw hS' hD' => ⟨fun j blk hj => ?_, ?_⟩⟩
  · cases j with
    | zero => simp at hj; subst hj; exact .mk_none rfl ⟨rfl, rfl⟩
    | succ j => simp at hj
  · have hr := (h4 k E' hw (fun g hg => by
      rcases hS' g hg with h | ⟨j, _, h⟩
      · exact .inl h
      · cases h) (fun j hj => by simp at hj)).2
    obtain ⟨d1, d2⟩ := hD' 0 (by simp)
    simp only [Nat.add_zero] at d1 d2
    cases hr with
    | tp cs xs hl hx =>
      have hR : RVs E' (.v (.slice none 0 0) :: us) xs.toList := ⟨by simpa using hl, fun j c x hc hx' => hx j c x hc (by simpa using hx')⟩
      obtain ⟨y, ys, hy, r1, r2⟩ := hR.cons_inv
      have hs : RV E' (.sl k 0) (.slice ((E'.L k).g.map fun g => ⟨g, 0, none⟩) 0 (E'.L k).c) := .sl k 0 d1 (Nat.zero_le _)
      rw [d2] at hs
      rw [r1.v_inv] at hy
      have := RVs.cons hs r2
      simp only [Option.map_none] at this
      rw [← hy] at this
      exact .tp _ xs (by simpa using hl) (fun j c x hc hx => this.2 j c x hc (by simpa using hx)))
theorem Fresh.nilV {P : Program} {f : FuncId} {cs : List AV} (e : TypeId) (sz : Nat) (h : Fresh P f cs (fun _ => .v (.slice none 0 0)) []) : Fresh P f cs (fun k => .sl k 0) [⟨[], e, sz⟩] := fun E0 xs hS hD hx => (h E0 xs hS hD hx).mono (by
  rintro en w' ⟨x, ls, rfl, h1, _, _, h4⟩
  refine ⟨x, fun _ => ⟨none, 0⟩, rfl, h1, fun j g _ hg => (by cases hg), fun i j g _ _ hg => (by cases hg), fun k E' hw hS' hD' => ⟨fun j blk hj => ?_, ?_⟩⟩
  · cases j with
    | zero => simp at hj; subst hj; exact .mk_none rfl ⟨rfl, rfl⟩
    | succ j => simp at hj
  · have hr := (h4 k E' hw (fun g hg => by
      rcases hS' g hg with h | ⟨j, _, h⟩
      · exact .inl h
      · cases h) (fun j hj => by simp at hj)).2
    obtain ⟨d1, d2⟩ := hD' 0 (by simp)
    simp only [Nat.add_zero] at d1 d2
    have hs : RV E' (.sl k 0) (.slice ((E'.L k).g.map fun g => ⟨g, 0, none⟩) 0 (E'.L k).c) := .sl k 0 d1 (Nat.zero_le _)
    rw [d2] at hs
    rw [hr.v_inv]
    exact hs)
theorem grow_eq {p : List UInt64} {d : Nat} (hp : p.length = d) {r : UInt64} : List.take ((d - 0) * 8) (List.drop 0 (byA (flat p))) ++ (cu (.v (.agg (nameC r))) ++ []) = byA (flat (p ++ [r])) := by
  rw [seg_lo, List.take_of_length_le (by omega), List.append_nil, cu_name, ← byA_append, flat_append, flat_one]
theorem grow_eq2 {p : List UInt64} {r : UInt64} : byA (flat p) ++ (cu (.v (.agg (nameC r))) ++ []) = byA (flat (p ++ [r])) := by
  rw [List.append_nil, cu_name, ← byA_append, flat_append, flat_one]
section
variable (S : List UInt8 → UInt64)
def pathN (l : List UInt64) (i : Nat) : List UInt64 := if h : 2 ≤ l.length then (if i < splitN l.length then pathN (l.take (splitN l.length)) i ++ [rootN S (l.drop (splitN l.length))] else pathN (l.drop (splitN l.length)) (i - splitN l.length) ++ [rootN S (l.take (splitN l.length))]) else []
termination_by l.length
decreasing_by
  · exact take_lt h
  · exact drop_lt h
theorem path_lo {l : List UInt64} {i n : Nat} (hl : l.length = n) (h : 2 ≤ n) (hi : i < splitN n) : pathN S l i = pathN S (l.take (splitN n)) i ++ [rootN S (l.drop (splitN n))] := by subst hl; rw [pathN, dif_pos h, if_pos hi]
theorem path_hi {l : List UInt64} {i n : Nat} (hl : l.length = n) (h : 2 ≤ n) (hi : ¬ i < splitN n) : pathN S l i = pathN S (l.drop (splitN n)) (i - splitN n) ++ [rootN S (l.take (splitN n))] := by subst hl; rw [pathN, dif_pos h, if_neg hi]
theorem path_one {l : List UInt64} {i n : Nat} (hl : l.length = n) (h : ¬ 2 ≤ n) : pathN S l i = [] := by subst hl; rw [pathN, dif_neg h]
theorem path_len : ∀ (n : Nat) (l : List UInt64) (i : Nat), l.length = n → (pathN S l i).length = depN i n := by
  intro n
  induction n using Nat.strongRecOn with
  | _ n ih =>
    intro l i hl
    by_cases h2 : 2 ≤ n
    · have hsp := split_bd n h2
      by_cases hi : i < splitN n
      · rw [path_lo S hl h2 hi, dep_lo h2 hi, List.length_append, ih _ hsp.2.1 _ i (by simp; omega)]; rfl
      · rw [path_hi S hl h2 hi, dep_hi h2 hi, List.length_append, ih (n - splitN n) (by omega) _ _ (by simp; omega)]; rfl
    · rw [path_one S hl h2, dep_one h2]; rfl
variable (hS : HashF S)
include hS
theorem climb_ok (n : Nat) : ∀ (l : List UInt64) (i : Nat) (f : Bool), l.length = n → i < n → n ≤ 100000000 → Fresh Try.prog 124 [.ex n f (byA (flat l)), .v (.int .i64 (i : Int))] (fun k => .sl k (depN i n)) [⟨byA (flat (pathN S l i)), 23, 8⟩] := by
  induction n using Nat.strongRecOn with
  | _ n ih =>
    intro l i f hl hi hb
    by_cases h1 : n = 1
    · subst h1
      rw [path_one S hl (by decide), dep_one (by decide)]
      apply Fresh.nilV
      refine Fresh.of (fn := Try.f124) Try.func124 rfl (Nat.le_of_ble_eq_true rfl) fun w => ?_
      (refine Gol.seq ?_; apply Gol.region; apply Trc.stp rfl rfl rfl; apply s_assign; exact rfl
       dsimp only [Nat.reduceAdd, Nat.reduceMul, List.nil_append]; exact Trc.done _ _ _; exact rfl
       refine thn_n ?_; refine Gol.seq ?_; refine Gol.seq ?_; apply Gol.region; apply Trc.stp rfl rfl rfl; apply s_move; exact rfl; dsimp only [Nat.reduceAdd, Nat.reduceMul, List.nil_append]
       apply Trc.stp rfl rfl rfl; apply s_len; exact rfl; exact ln_ex; dsimp only [Nat.reduceAdd, Nat.reduceMul, List.nil_append]
       apply Trc.stp rfl rfl rfl; apply s_eqn; exact rfl; exact rfl; dsimp only [Nat.reduceAdd, Nat.reduceMul, List.nil_append]
       exact Trc.done _ _ _; exact rfl; refine thn_n ?_)
      refine Gol.cond_t rfl (by decide) ?_
      (refine Gol.seq ?_; apply Gol.region; apply Trc.stp rfl rfl rfl; apply s_assign; exact rfl
       dsimp only [Nat.reduceAdd, Nat.reduceMul, List.nil_append]; exact Trc.done _ _ _; exact rfl
       refine thn_n ?_; refine Gol.ret ?_; refine thn_r ?_)
      (apply RetQ.mk (by first | exact .inr rfl | exact .inl rfl); apply res_1 rfl; exact res_tmp rfl; exact out_val)
    have h2 : 2 ≤ n := by omega
    have hsp := split_bd n h2
    refine Fresh.of (fn := Try.f124) Try.func124 rfl (Nat.le_of_ble_eq_true rfl) fun w => ?_
    (refine Gol.seq ?_; apply Gol.region; apply Trc.stp rfl rfl rfl; apply s_assign; exact rfl
     dsimp only [Nat.reduceAdd, Nat.reduceMul, List.nil_append]; exact Trc.done _ _ _; exact rfl
     refine thn_n ?_; refine Gol.seq ?_; refine Gol.seq ?_; apply Gol.region; apply Trc.stp rfl rfl rfl; apply s_move; exact rfl; dsimp only [Nat.reduceAdd, Nat.reduceMul, List.nil_append]
     apply Trc.stp rfl rfl rfl; apply s_len; exact rfl; exact ln_ex; dsimp only [Nat.reduceAdd, Nat.reduceMul, List.nil_append]
     apply Trc.stp rfl rfl rfl; apply s_eqn; exact rfl; exact rfl; dsimp only [Nat.reduceAdd, Nat.reduceMul, List.nil_append]
     exact Trc.done _ _ _; exact rfl; refine thn_n ?_)
    refine Gol.cond_f rfl (decide_eq_false h1) ?_
    (refine Gol.skip ?_; refine thn_n ?_; refine Gol.seq ?_; apply Gol.region; apply Trc.stp rfl rfl rfl; apply s_assign; exact rfl; dsimp only [Nat.reduceAdd, Nat.reduceMul, List.nil_append]
     exact Trc.done _ _ _; exact rfl; refine thn_n ?_; refine Gol.seq ?_; apply Gol.region; apply Trc.stp rfl rfl rfl; apply s_alloc; dsimp only [Nat.reduceAdd, Nat.reduceMul, Nat.reduceSub, List.nil_append, List.cons_append, nbk, List.map_cons, List.map_nil]
     exact Trc.done _ _ _; exact rfl; refine thn_n ?_; refine Gol.seq ?_; refine Gol.seq ?_; apply Gol.region
     apply Trc.stp rfl rfl rfl; apply s_move; exact rfl; dsimp only [Nat.reduceAdd, Nat.reduceMul, List.nil_append]
     apply Trc.stp rfl rfl rfl; apply s_len; exact rfl; exact ln_ex; dsimp only [Nat.reduceAdd, Nat.reduceMul, List.nil_append]
     apply Trc.stp rfl rfl rfl; apply s_call (f := 112) rfl; apply evs.cons rfl; exact evs.nil; apply ArgL.cons; exact arg_clo
     exact ArgL.nil; exact split_ok n (by omega) (by omega); exact Nat.le_of_ble_eq_true rfl; dsimp only [Nat.reduceAdd, Nat.reduceMul, Nat.reduceSub, List.nil_append, List.cons_append, nbk, List.map_cons, List.map_nil]
     apply Trc.stp rfl rfl rfl; apply s_assign; exact rfl; dsimp only [Nat.reduceAdd, Nat.reduceMul, List.nil_append]
     exact Trc.done _ _ _; exact rfl; refine thn_n ?_; refine Gol.seq ?_; apply Gol.region; apply Trc.stp rfl rfl rfl; apply s_move; exact rfl; dsimp only [Nat.reduceAdd, Nat.reduceMul, List.nil_append]
     apply Trc.stp rfl rfl rfl; apply s_move; exact rfl; dsimp only [Nat.reduceAdd, Nat.reduceMul, List.nil_append]
     apply Trc.stp rfl rfl rfl; apply s_ltn; exact rfl; exact rfl; dsimp only [Nat.reduceAdd, Nat.reduceMul, List.nil_append]
     exact Trc.done _ _ _; exact rfl; refine thn_n ?_)
    refine Gol.cond rfl (fun hk => ?_) (fun hk => ?_)
    · have hk' : i < splitN n := of_decide_eq_true hk
      have hlo : ∀ ff, Fresh Try.prog 124 [.ex (splitN n - 0) ff (List.take ((splitN n - 0) * 8) (List.drop 0 (byA (flat l)))), .v (.int .i64 (i : Int))] (fun k => .sl k (depN i (splitN n))) [⟨byA (flat (pathN S (l.take (splitN n)) i)), 23, 8⟩] := fun ff => by
        rw [seg_lo]; exact ih _ (by omega) _ i ff (by simp; omega) hk' (by omega)
      have hhi : ∀ ff, Fresh Try.prog 83 [.ex (n - splitN n) ff (List.take ((n - splitN n) * 8) (List.drop (splitN n * 8) (byA (flat l))))] (fun _ => .v (.agg (nameC (rootN S (l.drop (splitN n)))))) [] := fun ff => by
        rw [seg_hi l _ n hl]; exact root_ok S hS _ _ ff (by simp; omega) (by omega)
      have hpl := path_len S (splitN n) (l.take (splitN n)) i (by simp; omega)
      have hdl := dep_lt (splitN n) i (by omega)
      (apply Gol.any; kernel_rfl; apply Trc.stp rfl rfl rfl; apply s_move; exact rfl; dsimp only [Nat.reduceAdd, Nat.reduceMul, List.nil_append]
       apply Trc.stp rfl rfl rfl; apply s_move; exact rfl; dsimp only [Nat.reduceAdd, Nat.reduceMul, List.nil_append]
       apply Trc.stp rfl rfl rfl; apply s_move; exact rfl; dsimp only [Nat.reduceAdd, Nat.reduceMul, List.nil_append]
       apply Trc.stp rfl rfl rfl; apply s_slEM; exact rfl; exact rfl; exact ⟨_, rfl⟩; exact ⟨_, rfl⟩; exact rfl; omega; omega
       omega; simp only [byA_length, List.length_append, List.length_cons, List.length_nil, List.length_take, List.length_drop, List.length_replicate, List.length_map, Nat.mul_one, nameB_length, flat_length, List.length_set, inA_length] <;> omega
       dsimp only [Nat.reduceAdd, Nat.reduceMul, Nat.reduceSub, List.nil_append, List.cons_append, nbk, List.map_cons, List.map_nil]; apply Trc.stp rfl rfl rfl; apply s_move; exact rfl; dsimp only [Nat.reduceAdd, Nat.reduceMul, List.nil_append]
       apply Trc.stp rfl rfl rfl; apply s_call (f := 124) rfl; apply evs.cons rfl; apply evs.cons rfl; exact evs.nil; apply ArgL.cons
       exact arg_clo; apply ArgL.cons; exact arg_clo; exact ArgL.nil; exact hlo _; exact Nat.le_of_ble_eq_true rfl; dsimp only [Nat.reduceAdd, Nat.reduceMul, Nat.reduceSub, List.nil_append, List.cons_append, nbk, List.map_cons, List.map_nil]
       apply Trc.stp rfl rfl rfl; apply s_move; exact rfl; dsimp only [Nat.reduceAdd, Nat.reduceMul, List.nil_append]
       apply Trc.stp rfl rfl rfl; apply s_move; exact rfl; dsimp only [Nat.reduceAdd, Nat.reduceMul, List.nil_append]
       apply Trc.stp rfl rfl rfl; apply s_slE; exact rfl; exact ⟨_, rfl⟩; exact rfl; omega; omega; simp only [byA_length, List.length_append, List.length_cons, List.length_nil, List.length_take, List.length_drop, List.length_replicate, List.length_map, Nat.mul_one, nameB_length, flat_length, List.length_set, inA_length] <;> omega
       dsimp only [Nat.reduceAdd, Nat.reduceMul, Nat.reduceSub, List.nil_append, List.cons_append, nbk, List.map_cons, List.map_nil]; apply Trc.stp rfl rfl rfl; apply s_call (f := 83) rfl; apply evs.cons rfl; exact evs.nil; apply ArgL.cons; exact arg_clo; exact ArgL.nil
       exact hhi _; exact Nat.le_of_ble_eq_true rfl; dsimp only [Nat.reduceAdd, Nat.reduceMul, Nat.reduceSub, List.nil_append, List.cons_append, nbk, List.map_cons, List.map_nil]
       apply Trc.stp rfl rfl rfl; apply s_assign; exact rfl; dsimp only [Nat.reduceAdd, Nat.reduceMul, List.nil_append]
       apply Trc.stepN rfl rfl; exact wnt_n rfl; apply s_storeW; exact rfl; exact rfl; exact rfl; exact rfl; rfl; exact rfl; dsimp only [Nat.reduceAdd, Nat.reduceMul, Nat.reduceSub, List.nil_append, List.cons_append, nbk, List.map_cons, List.map_nil]
       exact Trc.done _ _ _; kernel_rfl; exact rfl; refine thn_n ?_; refine Gol.seq ?_; apply Gol.any; kernel_rfl
       apply Trc.stp rfl rfl rfl; apply s_move; exact rfl; dsimp only [Nat.reduceAdd, Nat.reduceMul, List.nil_append]
       apply Trc.stp rfl rfl rfl; apply s_move; exact rfl; dsimp only [Nat.reduceAdd, Nat.reduceMul, List.nil_append]
       apply Trc.stp rfl rfl rfl; apply s_len; exact rfl; exact ln_sl; dsimp only [Nat.reduceAdd, Nat.reduceMul, List.nil_append]
       apply Trc.stp rfl rfl rfl; apply s_move; exact rfl; dsimp only [Nat.reduceAdd, Nat.reduceMul, List.nil_append]
       apply Trc.stp rfl rfl rfl; apply s_len; exact rfl; exact ln_sl; dsimp only [Nat.reduceAdd, Nat.reduceMul, List.nil_append]
       apply Trc.stp rfl rfl rfl; apply s_slLM; exact rfl; exact rfl; exact ⟨_, rfl⟩; exact ⟨_, rfl⟩; exact rfl; omega; omega
       omega; exact rfl; dsimp only [Nat.reduceAdd, Nat.reduceMul, Nat.reduceSub, List.nil_append, List.cons_append, nbk, List.map_cons, List.map_nil]; apply Trc.stp rfl rfl rfl; apply s_loadW; exact rfl; exact rfl; exact rfl; exact agu_cuv _; dsimp only [Nat.reduceAdd, Nat.reduceMul, List.nil_append]
       apply Trc.stp rfl rfl rfl; apply s_lit; apply PA.cons; exact rfl; exact rfl; exact rfl; exact PA.nil; exact rfl; omega
       dsimp only [Nat.reduceAdd, Nat.reduceMul, Nat.reduceSub, List.nil_append, List.cons_append, nbk, List.map_cons, List.map_nil]; apply Trc.stp rfl rfl rfl; apply s_appFull; exact rfl; exact fl_sb; apply rd_sb rfl; simp only [byA_length, List.length_append, List.length_cons, List.length_nil, List.length_take, List.length_drop, List.length_replicate, List.length_map, Nat.mul_one, nameB_length, flat_length, List.length_set, inA_length] <;> omega
       exact rfl; apply rd_sl rfl; rfl; omega; omega; dsimp only [Nat.reduceAdd, Nat.reduceMul, Nat.reduceSub, List.nil_append, List.cons_append, nbk, List.map_cons, List.map_nil]
       apply Trc.stp rfl rfl rfl; apply s_assign; exact rfl; dsimp only [Nat.reduceAdd, Nat.reduceMul, List.nil_append]
       exact Trc.done _ _ _; kernel_rfl; exact rfl; refine thn_n ?_; refine Gol.ret ?_)
      rw [grow_eq hpl, path_lo S hl h2 hk', dep_lo h2 hk']
      simp only [Nat.sub_zero]
      (apply RetQ.mk (by first | exact .inr rfl | exact .inl rfl); apply res_1 rfl; exact res_tmp rfl; exact out_sl rfl)
    · have hk' : ¬ i < splitN n := of_decide_eq_false hk
      have hhi : ∀ ff, Fresh Try.prog 124 [.ex (n - splitN n) ff (List.take ((n - splitN n) * 8) (List.drop (splitN n * 8) (byA (flat l)))), .v (.int .i64 ((i - splitN n : Nat) : Int))] (fun k => .sl k (depN (i - splitN n) (n - splitN n))) [⟨byA (flat (pathN S (l.drop (splitN n)) (i - splitN n))), 23, 8⟩] := fun ff => by
        rw [seg_hi l _ n hl]; exact ih _ (by omega) _ _ ff (by simp; omega) (by omega) (by omega)
      have hlo : ∀ ff, Fresh Try.prog 83 [.ex (splitN n - 0) ff (List.take ((splitN n - 0) * 8) (List.drop 0 (byA (flat l))))] (fun _ => .v (.agg (nameC (rootN S (l.take (splitN n)))))) [] := fun ff => by
        rw [seg_lo]; exact root_ok S hS _ _ ff (by simp; omega) (by omega)
      have hpl := path_len S (n - splitN n) (l.drop (splitN n)) (i - splitN n) (by simp; omega)
      have hdl := dep_lt (n - splitN n) (i - splitN n) (by omega)
      (apply Gol.any; kernel_rfl; apply Trc.stp rfl rfl rfl; apply s_move; exact rfl; dsimp only [Nat.reduceAdd, Nat.reduceMul, List.nil_append]
       apply Trc.stp rfl rfl rfl; apply s_move; exact rfl; dsimp only [Nat.reduceAdd, Nat.reduceMul, List.nil_append]
       apply Trc.stp rfl rfl rfl; apply s_slE; exact rfl; exact ⟨_, rfl⟩; exact rfl; omega; omega; simp only [byA_length, List.length_append, List.length_cons, List.length_nil, List.length_take, List.length_drop, List.length_replicate, List.length_map, Nat.mul_one, nameB_length, flat_length, List.length_set, inA_length] <;> omega
       dsimp only [Nat.reduceAdd, Nat.reduceMul, Nat.reduceSub, List.nil_append, List.cons_append, nbk, List.map_cons, List.map_nil]; apply Trc.stp rfl rfl rfl; apply s_move; exact rfl; dsimp only [Nat.reduceAdd, Nat.reduceMul, List.nil_append]
       apply Trc.stp rfl rfl rfl; apply s_move; exact rfl; dsimp only [Nat.reduceAdd, Nat.reduceMul, List.nil_append]
       apply Trc.stp rfl rfl rfl; apply s_subn; exact rfl; exact rfl; omega; omega; dsimp only [Nat.reduceAdd, Nat.reduceMul, Nat.reduceSub, List.nil_append, List.cons_append, nbk, List.map_cons, List.map_nil]
       apply Trc.stp rfl rfl rfl; apply s_call (f := 124) rfl; apply evs.cons rfl; apply evs.cons rfl; exact evs.nil; apply ArgL.cons
       exact arg_clo; apply ArgL.cons; exact arg_clo; exact ArgL.nil; exact hhi _; exact Nat.le_of_ble_eq_true rfl; dsimp only [Nat.reduceAdd, Nat.reduceMul, Nat.reduceSub, List.nil_append, List.cons_append, nbk, List.map_cons, List.map_nil]
       apply Trc.stp rfl rfl rfl; apply s_move; exact rfl; dsimp only [Nat.reduceAdd, Nat.reduceMul, List.nil_append]
       apply Trc.stp rfl rfl rfl; apply s_move; exact rfl; dsimp only [Nat.reduceAdd, Nat.reduceMul, List.nil_append]
       apply Trc.stp rfl rfl rfl; apply s_move; exact rfl; dsimp only [Nat.reduceAdd, Nat.reduceMul, List.nil_append]
       apply Trc.stp rfl rfl rfl; apply s_slEM; exact rfl; exact rfl; exact ⟨_, rfl⟩; exact ⟨_, rfl⟩; exact rfl; omega; omega
       omega; simp only [byA_length, List.length_append, List.length_cons, List.length_nil, List.length_take, List.length_drop, List.length_replicate, List.length_map, Nat.mul_one, nameB_length, flat_length, List.length_set, inA_length] <;> omega
       dsimp only [Nat.reduceAdd, Nat.reduceMul, Nat.reduceSub, List.nil_append, List.cons_append, nbk, List.map_cons, List.map_nil]; apply Trc.stp rfl rfl rfl; apply s_call (f := 83) rfl; apply evs.cons rfl; exact evs.nil; apply ArgL.cons; exact arg_clo; exact ArgL.nil
       exact hlo _; exact Nat.le_of_ble_eq_true rfl; dsimp only [Nat.reduceAdd, Nat.reduceMul, Nat.reduceSub, List.nil_append, List.cons_append, nbk, List.map_cons, List.map_nil]
       apply Trc.stp rfl rfl rfl; apply s_assign; exact rfl; dsimp only [Nat.reduceAdd, Nat.reduceMul, List.nil_append]
       apply Trc.stepN rfl rfl; exact wnt_n rfl; apply s_storeW; exact rfl; exact rfl; exact rfl; exact rfl; rfl; exact rfl; dsimp only [Nat.reduceAdd, Nat.reduceMul, Nat.reduceSub, List.nil_append, List.cons_append, nbk, List.map_cons, List.map_nil]
       exact Trc.done _ _ _; kernel_rfl; exact rfl; refine thn_n ?_; refine Gol.seq ?_; apply Gol.any; kernel_rfl
       apply Trc.stp rfl rfl rfl; apply s_move; exact rfl; dsimp only [Nat.reduceAdd, Nat.reduceMul, List.nil_append]
       apply Trc.stp rfl rfl rfl; apply s_move; exact rfl; dsimp only [Nat.reduceAdd, Nat.reduceMul, List.nil_append]
       apply Trc.stp rfl rfl rfl; apply s_len; exact rfl; exact ln_sl; dsimp only [Nat.reduceAdd, Nat.reduceMul, List.nil_append]
       apply Trc.stp rfl rfl rfl; apply s_move; exact rfl; dsimp only [Nat.reduceAdd, Nat.reduceMul, List.nil_append]
       apply Trc.stp rfl rfl rfl; apply s_len; exact rfl; exact ln_sl; dsimp only [Nat.reduceAdd, Nat.reduceMul, List.nil_append]
       apply Trc.stp rfl rfl rfl; apply s_slLM; exact rfl; exact rfl; exact ⟨_, rfl⟩; exact ⟨_, rfl⟩; exact rfl; omega; omega
       omega; exact rfl; dsimp only [Nat.reduceAdd, Nat.reduceMul, Nat.reduceSub, List.nil_append, List.cons_append, nbk, List.map_cons, List.map_nil]; apply Trc.stp rfl rfl rfl; apply s_loadW; exact rfl; exact rfl; exact rfl; exact agu_cuv _; dsimp only [Nat.reduceAdd, Nat.reduceMul, List.nil_append]
       apply Trc.stp rfl rfl rfl; apply s_lit; apply PA.cons; exact rfl; exact rfl; exact rfl; exact PA.nil; exact rfl; omega
       dsimp only [Nat.reduceAdd, Nat.reduceMul, Nat.reduceSub, List.nil_append, List.cons_append, nbk, List.map_cons, List.map_nil]; apply Trc.stp rfl rfl rfl; apply s_appFull; exact rfl; exact fl_sb; apply rd_sb rfl; simp only [byA_length, List.length_append, List.length_cons, List.length_nil, List.length_take, List.length_drop, List.length_replicate, List.length_map, Nat.mul_one, nameB_length, flat_length, List.length_set, inA_length] <;> omega
       exact rfl; apply rd_sl rfl; rfl; omega; omega; dsimp only [Nat.reduceAdd, Nat.reduceMul, Nat.reduceSub, List.nil_append, List.cons_append, nbk, List.map_cons, List.map_nil]
       apply Trc.stp rfl rfl rfl; apply s_assign; exact rfl; dsimp only [Nat.reduceAdd, Nat.reduceMul, List.nil_append]
       exact Trc.done _ _ _; kernel_rfl; exact rfl; refine thn_n ?_; refine Gol.ret ?_)
      rw [grow_eq hpl, path_hi S hl h2 hk', dep_hi h2 hk']
      simp only [Nat.sub_zero]
      (apply RetQ.mk (by first | exact .inr rfl | exact .inl rfl); apply res_1 rfl; exact res_tmp rfl; exact out_sl rfl)
theorem path_yes (n : Nat) (l : List UInt64) (i : Nat) (f : Bool) (hl : l.length = n) (hi : i < n) (hb : n ≤ 100000000) : Fresh Try.prog 110 [.ex n f (byA (flat l)), .v (.int .i64 (i : Int))] (fun k => .tp [.sl k (depN i n), .v (.bool true)]) [⟨byA (flat (pathN S l i)), 23, 8⟩] := by
  have hc : ¬ ((depN i n : Int) < 0) := by omega
  refine Fresh.of (fn := Try.f110) Try.func110 rfl (Nat.le_of_ble_eq_true rfl) fun w => ?_
  (refine Gol.seq ?_; apply Gol.region; apply Trc.stp rfl rfl rfl; apply s_assign; exact rfl
   dsimp only [Nat.reduceAdd, Nat.reduceMul, List.nil_append]; apply Trc.stp rfl rfl rfl; apply s_assign; exact rfl; dsimp only [Nat.reduceAdd, Nat.reduceMul, List.nil_append]
   exact Trc.done _ _ _; exact rfl; refine thn_n ?_; refine Gol.seq ?_; refine Gol.seq ?_; apply Gol.region
   apply Trc.stp rfl rfl rfl; apply s_move; exact rfl; dsimp only [Nat.reduceAdd, Nat.reduceMul, List.nil_append]
   apply Trc.stp rfl rfl rfl; apply s_move; exact rfl; dsimp only [Nat.reduceAdd, Nat.reduceMul, List.nil_append]
   apply Trc.stp rfl rfl rfl; apply s_len; exact rfl; exact ln_ex; dsimp only [Nat.reduceAdd, Nat.reduceMul, List.nil_append]
   apply Trc.stp rfl rfl rfl; apply s_call (f := 117) rfl; apply evs.cons rfl; apply evs.cons rfl; exact evs.nil; apply ArgL.cons
   exact arg_clo; apply ArgL.cons; exact arg_clo; exact ArgL.nil; exact depth_yes i n hi (by omega); exact Nat.le_of_ble_eq_true rfl; dsimp only [Nat.reduceAdd, Nat.reduceMul, Nat.reduceSub, List.nil_append, List.cons_append, nbk, List.map_cons, List.map_nil]
   apply Trc.stp rfl rfl rfl; apply s_ltn; exact rfl; exact rfl; dsimp only [Nat.reduceAdd, Nat.reduceMul, List.nil_append]
   exact Trc.done _ _ _; exact rfl; refine thn_n ?_)
  refine Gol.cond_f rfl (by simp) ?_
  (refine Gol.skip ?_; refine thn_n ?_; refine Gol.seq ?_; apply Gol.region; apply Trc.stp rfl rfl rfl; apply s_move; exact rfl; dsimp only [Nat.reduceAdd, Nat.reduceMul, List.nil_append]
   apply Trc.stp rfl rfl rfl; apply s_move; exact rfl; dsimp only [Nat.reduceAdd, Nat.reduceMul, List.nil_append]
   apply Trc.stp rfl rfl rfl; apply s_call (f := 124) rfl; apply evs.cons rfl; apply evs.cons rfl; exact evs.nil; apply ArgL.cons
   exact arg_clo; apply ArgL.cons; exact arg_clo; exact ArgL.nil; exact climb_ok S hS n l i _ hl hi hb; exact Nat.le_of_ble_eq_true rfl; dsimp only [Nat.reduceAdd, Nat.reduceMul, Nat.reduceSub, List.nil_append, List.cons_append, nbk, List.map_cons, List.map_nil]
   apply Trc.stp rfl rfl rfl; apply s_assign; exact rfl; dsimp only [Nat.reduceAdd, Nat.reduceMul, List.nil_append]
   apply Trc.stp rfl rfl rfl; apply s_assign; exact rfl; dsimp only [Nat.reduceAdd, Nat.reduceMul, List.nil_append]
   exact Trc.done _ _ _; exact rfl; refine thn_n ?_; refine Gol.ret ?_)
  (apply RetQ.mk (by first | exact .inr rfl | exact .inl rfl); apply res_2 rfl; exact res_tmp rfl; exact res_tmp rfl; exact out_tp rfl)
omit hS
theorem path_no (n : Nat) (l : List UInt64) (i : Int) (f : Bool) (hi : ¬ (0 ≤ i ∧ i < n)) : Fresh Try.prog 110 [.ex n f (byA (flat l)), .v (.int .i64 i)] (fun k => .tp [.sl k 0, .v (.bool false)]) [⟨[], 23, 8⟩] := by
  apply Fresh.nilTp
  refine Fresh.of (fn := Try.f110) Try.func110 rfl (Nat.le_of_ble_eq_true rfl) fun w => ?_
  (refine Gol.seq ?_; apply Gol.region; apply Trc.stp rfl rfl rfl; apply s_assign; exact rfl
   dsimp only [Nat.reduceAdd, Nat.reduceMul, List.nil_append]; apply Trc.stp rfl rfl rfl; apply s_assign; exact rfl; dsimp only [Nat.reduceAdd, Nat.reduceMul, List.nil_append]
   exact Trc.done _ _ _; exact rfl; refine thn_n ?_; refine Gol.seq ?_; refine Gol.seq ?_; apply Gol.region
   apply Trc.stp rfl rfl rfl; apply s_move; exact rfl; dsimp only [Nat.reduceAdd, Nat.reduceMul, List.nil_append]
   apply Trc.stp rfl rfl rfl; apply s_move; exact rfl; dsimp only [Nat.reduceAdd, Nat.reduceMul, List.nil_append]
   apply Trc.stp rfl rfl rfl; apply s_len; exact rfl; exact ln_ex; dsimp only [Nat.reduceAdd, Nat.reduceMul, List.nil_append]
   apply Trc.stp rfl rfl rfl; apply s_call (f := 117) rfl; apply evs.cons rfl; apply evs.cons rfl; exact evs.nil; apply ArgL.cons
   exact arg_clo; apply ArgL.cons; exact arg_clo; exact ArgL.nil; exact depth_no i n hi; exact Nat.le_of_ble_eq_true rfl; dsimp only [Nat.reduceAdd, Nat.reduceMul, Nat.reduceSub, List.nil_append, List.cons_append, nbk, List.map_cons, List.map_nil]
   apply Trc.stp rfl rfl rfl; apply s_lt; exact rfl; exact rfl; dsimp only [Nat.reduceAdd, Nat.reduceMul, List.nil_append]
   exact Trc.done _ _ _; exact rfl; refine thn_n ?_)
  refine Gol.cond_t rfl (by decide) ?_
  (refine Gol.seq ?_; apply Gol.region; apply Trc.stp rfl rfl rfl; apply s_assign; exact rfl
   dsimp only [Nat.reduceAdd, Nat.reduceMul, List.nil_append]; apply Trc.stp rfl rfl rfl; apply s_assign; exact rfl; dsimp only [Nat.reduceAdd, Nat.reduceMul, List.nil_append]
   exact Trc.done _ _ _; exact rfl; refine thn_n ?_; refine Gol.ret ?_; refine thn_r ?_)
  (apply RetQ.mk (by first | exact .inr rfl | exact .inl rfl); apply res_2 rfl; exact res_tmp rfl; exact res_tmp rfl; exact out_val)
def compN (leaf : UInt64) (i n : Nat) (p : List UInt64) : UInt64 := if h : 2 ≤ n then (if i < splitN n then S (0x12 :: (nameB (compN leaf i (splitN n) (p.take (depN i n - 1))) ++ nameB (p.getD (depN i n - 1) 0))) else S (0x12 :: (nameB (p.getD (depN i n - 1) 0) ++ nameB (compN leaf (i - splitN n) (n - splitN n) (p.take (depN i n - 1)))))) else S (0x11 :: nameB leaf)
termination_by n
decreasing_by
  · exact (split_bd n h).2.1
  · have := split_bd n h; omega
theorem comp_lo {leaf : UInt64} {i n : Nat} {p : List UInt64} (h : 2 ≤ n) (hi : i < splitN n) : compN S leaf i n p = S (0x12 :: (nameB (compN S leaf i (splitN n) (p.take (depN i n - 1))) ++ nameB (p.getD (depN i n - 1) 0))) := by rw [compN, dif_pos h, if_pos hi]
theorem comp_hi {leaf : UInt64} {i n : Nat} {p : List UInt64} (h : 2 ≤ n) (hi : ¬ i < splitN n) : compN S leaf i n p = S (0x12 :: (nameB (p.getD (depN i n - 1) 0) ++ nameB (compN S leaf (i - splitN n) (n - splitN n) (p.take (depN i n - 1))))) := by rw [compN, dif_pos h, if_neg hi]
theorem comp_one {leaf : UInt64} {i n : Nat} {p : List UInt64} (h : ¬ 2 ≤ n) : compN S leaf i n p = S (0x11 :: nameB leaf) := by rw [compN, dif_neg h]
include hS
theorem computed_ok (leaf : UInt64) (n : Nat) : ∀ (i : Nat) (p : List UInt64) (f : Bool) (d : Nat), i < n → n ≤ 9223372036854775807 → d = depN i n → p.length = d → d ≤ 140737488355000 → Fresh Try.prog 118 [.v (.agg (nameC leaf)), .v (.int .i64 (i : Int)), .v (.int .i64 (n : Int)), .ex d f (byA (flat p))] (fun _ => .v (.agg (nameC (compN S leaf i n p)))) [] := by
  induction n using Nat.strongRecOn with
  | _ n ih =>
    intro i p f d hi hb hd hp hdb
    by_cases h1 : n = 1
    · subst h1
      rw [comp_one S (by decide)]
      refine Fresh.of (fn := Try.f118) Try.func118 rfl (Nat.le_of_ble_eq_true rfl) fun w => ?_
      (refine Gol.seq ?_; apply Gol.region; apply Trc.stp rfl rfl rfl; apply s_box; exact rfl
       exact rfl; dsimp only [Nat.reduceAdd, Nat.reduceMul, Nat.reduceSub, List.nil_append, List.cons_append, nbk, List.map_cons, List.map_nil]; apply Trc.stp rfl rfl rfl; apply s_alloc; dsimp only [Nat.reduceAdd, Nat.reduceMul, Nat.reduceSub, List.nil_append, List.cons_append, nbk, List.map_cons, List.map_nil]
       exact Trc.done _ _ _; exact rfl; refine thn_n ?_; refine Gol.seq ?_; refine Gol.seq ?_; apply Gol.region
       apply Trc.stp rfl rfl rfl; apply s_move; exact rfl; dsimp only [Nat.reduceAdd, Nat.reduceMul, List.nil_append]
       apply Trc.stp rfl rfl rfl; apply s_eqn; exact rfl; exact rfl; dsimp only [Nat.reduceAdd, Nat.reduceMul, List.nil_append]
       exact Trc.done _ _ _; exact rfl; refine thn_n ?_)
      refine Gol.cond_t rfl (by decide) ?_
      (refine Gol.seq ?_; apply Gol.region; apply Trc.stp rfl rfl rfl; apply s_loadW; exact rfl
       exact rfl; exact rfl; exact agu_cuv _; dsimp only [Nat.reduceAdd, Nat.reduceMul, List.nil_append]
       apply Trc.stp rfl rfl rfl; apply s_call (f := 111) rfl; apply evs.cons rfl; exact evs.nil; apply ArgL.cons; exact arg_clo
       exact ArgL.nil; exact single_ok S hS _; exact Nat.le_of_ble_eq_true rfl; dsimp only [Nat.reduceAdd, Nat.reduceMul, Nat.reduceSub, List.nil_append, List.cons_append, nbk, List.map_cons, List.map_nil]
       apply Trc.stepN rfl rfl; exact wnt_n rfl; apply s_storeW; exact rfl; exact rfl; exact rfl; exact rfl; rfl; exact rfl; dsimp only [Nat.reduceAdd, Nat.reduceMul, Nat.reduceSub, List.nil_append, List.cons_append, nbk, List.map_cons, List.map_nil]
       exact Trc.done _ _ _; exact rfl; refine thn_n ?_; refine Gol.ret ?_; refine thn_r ?_)
      (apply RetQ.mk (by first | exact .inr rfl | exact .inl rfl); apply res_1 rfl; exact res_cell rfl rfl rfl (agu_cuv _); exact out_val)
    have h2 : 2 ≤ n := by omega
    have hsp := split_bd n h2
    refine Fresh.of (fn := Try.f118) Try.func118 rfl (Nat.le_of_ble_eq_true rfl) fun w => ?_
    (refine Gol.seq ?_; apply Gol.region; apply Trc.stp rfl rfl rfl; apply s_box; exact rfl
     exact rfl; dsimp only [Nat.reduceAdd, Nat.reduceMul, Nat.reduceSub, List.nil_append, List.cons_append, nbk, List.map_cons, List.map_nil]; apply Trc.stp rfl rfl rfl; apply s_alloc; dsimp only [Nat.reduceAdd, Nat.reduceMul, Nat.reduceSub, List.nil_append, List.cons_append, nbk, List.map_cons, List.map_nil]
     exact Trc.done _ _ _; exact rfl; refine thn_n ?_; refine Gol.seq ?_; refine Gol.seq ?_; apply Gol.region
     apply Trc.stp rfl rfl rfl; apply s_move; exact rfl; dsimp only [Nat.reduceAdd, Nat.reduceMul, List.nil_append]
     apply Trc.stp rfl rfl rfl; apply s_eqn; exact rfl; exact rfl; dsimp only [Nat.reduceAdd, Nat.reduceMul, List.nil_append]
     exact Trc.done _ _ _; exact rfl; refine thn_n ?_)
    refine Gol.cond_f rfl (decide_eq_false h1) ?_
    by_cases hk' : i < splitN n
    · have hdd := dep_lo h2 hk'
      have hlo : ∀ ff, Fresh Try.prog 118 [.v (.agg (nameC leaf)), .v (.int .i64 (i : Int)), .v (.int .i64 (splitN n : Int)), .ex (d - 1 - 0) ff (List.take ((d - 1 - 0) * 8) (List.drop 0 (byA (flat p))))] (fun _ => .v (.agg (nameC (compN S leaf i (splitN n) (p.take (d - 1)))))) [] := fun ff => by
        rw [seg_lo]; exact ih _ (by omega) i _ ff _ hk' (by omega) (by omega) (by simp; omega) (by omega)
      (refine Gol.skip ?_; refine thn_n ?_; refine Gol.seq ?_; apply Gol.region; apply Trc.stp rfl rfl rfl; apply s_move; exact rfl; dsimp only [Nat.reduceAdd, Nat.reduceMul, List.nil_append]
       apply Trc.stp rfl rfl rfl; apply s_call (f := 112) rfl; apply evs.cons rfl; exact evs.nil; apply ArgL.cons; exact arg_clo
       exact ArgL.nil; exact split_ok n (by omega) (by omega); exact Nat.le_of_ble_eq_true rfl; dsimp only [Nat.reduceAdd, Nat.reduceMul, Nat.reduceSub, List.nil_append, List.cons_append, nbk, List.map_cons, List.map_nil]
       apply Trc.stp rfl rfl rfl; apply s_move; exact rfl; dsimp only [Nat.reduceAdd, Nat.reduceMul, List.nil_append]
       apply Trc.stp rfl rfl rfl; apply s_len; exact rfl; exact ln_ex; dsimp only [Nat.reduceAdd, Nat.reduceMul, List.nil_append]
       apply Trc.stp rfl rfl rfl; apply s_subn; exact rfl; exact rfl; simp <;> omega; omega; dsimp only [Nat.reduceAdd, Nat.reduceMul, Nat.reduceSub, List.nil_append, List.cons_append, nbk, List.map_cons, List.map_nil]
       apply Trc.stp rfl rfl rfl; apply s_assign; exact rfl; dsimp only [Nat.reduceAdd, Nat.reduceMul, List.nil_append]
       apply Trc.stp rfl rfl rfl; apply s_assign; exact rfl; dsimp only [Nat.reduceAdd, Nat.reduceMul, List.nil_append]
       exact Trc.done _ _ _; exact rfl; refine thn_n ?_; refine Gol.seq ?_; refine Gol.seq ?_; apply Gol.region
       apply Trc.stp rfl rfl rfl; apply s_move; exact rfl; dsimp only [Nat.reduceAdd, Nat.reduceMul, List.nil_append]
       apply Trc.stp rfl rfl rfl; apply s_move; exact rfl; dsimp only [Nat.reduceAdd, Nat.reduceMul, List.nil_append]
       apply Trc.stp rfl rfl rfl; apply s_ltn; exact rfl; exact rfl; dsimp only [Nat.reduceAdd, Nat.reduceMul, List.nil_append]
       exact Trc.done _ _ _; exact rfl; refine thn_n ?_)
      refine Gol.cond_t rfl (decide_eq_true hk') ?_
      rw [comp_lo S h2 hk', ← hd]
      (refine Gol.seq ?_; apply Gol.any; kernel_rfl; apply Trc.stp rfl rfl rfl; apply s_loadW
       exact rfl; exact rfl; exact rfl; exact agu_cuv _; dsimp only [Nat.reduceAdd, Nat.reduceMul, List.nil_append]
       apply Trc.stp rfl rfl rfl; apply s_move; exact rfl; dsimp only [Nat.reduceAdd, Nat.reduceMul, List.nil_append]
       apply Trc.stp rfl rfl rfl; apply s_move; exact rfl; dsimp only [Nat.reduceAdd, Nat.reduceMul, List.nil_append]
       apply Trc.stp rfl rfl rfl; apply s_move; exact rfl; dsimp only [Nat.reduceAdd, Nat.reduceMul, List.nil_append]
       apply Trc.stp rfl rfl rfl; apply s_move; exact rfl; dsimp only [Nat.reduceAdd, Nat.reduceMul, List.nil_append]
       apply Trc.stp rfl rfl rfl; apply s_slE; exact rfl; exact rfl; exact ⟨_, rfl⟩; omega; omega; simp only [byA_length, List.length_append, List.length_cons, List.length_nil, List.length_take, List.length_drop, List.length_replicate, List.length_map, Nat.mul_one, nameB_length, flat_length, List.length_set, inA_length] <;> omega
       dsimp only [Nat.reduceAdd, Nat.reduceMul, Nat.reduceSub, List.nil_append, List.cons_append, nbk, List.map_cons, List.map_nil]; apply Trc.stp rfl rfl rfl; apply s_call (f := 118) rfl; apply evs.cons rfl; apply evs.cons rfl; apply evs.cons rfl; apply evs.cons rfl
       exact evs.nil; apply ArgL.cons; exact arg_clo; apply ArgL.cons; exact arg_clo; apply ArgL.cons; exact arg_clo; apply ArgL.cons; exact arg_clo; exact ArgL.nil
       exact hlo _; exact Nat.le_of_ble_eq_true rfl; dsimp only [Nat.reduceAdd, Nat.reduceMul, Nat.reduceSub, List.nil_append, List.cons_append, nbk, List.map_cons, List.map_nil]
       apply Trc.stp rfl rfl rfl; apply s_move; exact rfl; dsimp only [Nat.reduceAdd, Nat.reduceMul, List.nil_append]
       apply Trc.stp rfl rfl rfl; apply s_move; exact rfl; dsimp only [Nat.reduceAdd, Nat.reduceMul, List.nil_append]
       apply Trc.stp rfl rfl rfl; apply s_ixe; exact rfl; exact rfl; omega; exact flat_ne (by omega); dsimp only [Nat.reduceAdd, Nat.reduceMul, List.nil_append]
       apply Trc.stp rfl rfl rfl; apply s_loadEN; exact rfl; simp only [byA_length, List.length_append, List.length_cons, List.length_nil, List.length_take, List.length_drop, List.length_replicate, List.length_map, Nat.mul_one, nameB_length, flat_length, List.length_set, inA_length] <;> omega
       exact agu_nm (by omega); dsimp only [Nat.reduceAdd, Nat.reduceMul, List.nil_append]
       apply Trc.stp rfl rfl rfl; apply s_call (f := 113) rfl; apply evs.cons rfl; apply evs.cons rfl; apply evs.cons rfl
       exact evs.nil; apply ArgL.cons; exact arg_clo; apply ArgL.cons; exact arg_clo; apply ArgL.cons; exact arg_clo; exact ArgL.nil; exact hS.pair 0x12 _ _
       exact Nat.le_of_ble_eq_true rfl; dsimp only [Nat.reduceAdd, Nat.reduceMul, Nat.reduceSub, List.nil_append, List.cons_append, nbk, List.map_cons, List.map_nil]
       apply Trc.stepN rfl rfl; exact wnt_n rfl; apply s_storeW; exact rfl; exact rfl; exact rfl; exact rfl; rfl; exact rfl; dsimp only [Nat.reduceAdd, Nat.reduceMul, Nat.reduceSub, List.nil_append, List.cons_append, nbk, List.map_cons, List.map_nil]
       exact Trc.done _ _ _; kernel_rfl; exact rfl; refine thn_n ?_; refine Gol.ret ?_; refine thn_r ?_)
      (apply RetQ.mk (by first | exact .inr rfl | exact .inl rfl); apply res_1 rfl; exact res_cell rfl rfl rfl (agu_cuv _); exact out_val)
    · have hdd := dep_hi h2 hk'
      have hhi : ∀ ff, Fresh Try.prog 118 [.v (.agg (nameC leaf)), .v (.int .i64 ((i - splitN n : Nat) : Int)), .v (.int .i64 ((n - splitN n : Nat) : Int)), .ex (d - 1 - 0) ff (List.take ((d - 1 - 0) * 8) (List.drop 0 (byA (flat p))))] (fun _ => .v (.agg (nameC (compN S leaf (i - splitN n) (n - splitN n) (p.take (d - 1)))))) [] := fun ff => by
        rw [seg_lo]; exact ih _ (by omega) _ _ ff _ (by omega) (by omega) (by omega) (by simp; omega) (by omega)
      (refine Gol.skip ?_; refine thn_n ?_; refine Gol.seq ?_; apply Gol.region; apply Trc.stp rfl rfl rfl; apply s_move; exact rfl; dsimp only [Nat.reduceAdd, Nat.reduceMul, List.nil_append]
       apply Trc.stp rfl rfl rfl; apply s_call (f := 112) rfl; apply evs.cons rfl; exact evs.nil; apply ArgL.cons; exact arg_clo
       exact ArgL.nil; exact split_ok n (by omega) (by omega); exact Nat.le_of_ble_eq_true rfl; dsimp only [Nat.reduceAdd, Nat.reduceMul, Nat.reduceSub, List.nil_append, List.cons_append, nbk, List.map_cons, List.map_nil]
       apply Trc.stp rfl rfl rfl; apply s_move; exact rfl; dsimp only [Nat.reduceAdd, Nat.reduceMul, List.nil_append]
       apply Trc.stp rfl rfl rfl; apply s_len; exact rfl; exact ln_ex; dsimp only [Nat.reduceAdd, Nat.reduceMul, List.nil_append]
       apply Trc.stp rfl rfl rfl; apply s_subn; exact rfl; exact rfl; simp <;> omega; omega; dsimp only [Nat.reduceAdd, Nat.reduceMul, Nat.reduceSub, List.nil_append, List.cons_append, nbk, List.map_cons, List.map_nil]
       apply Trc.stp rfl rfl rfl; apply s_assign; exact rfl; dsimp only [Nat.reduceAdd, Nat.reduceMul, List.nil_append]
       apply Trc.stp rfl rfl rfl; apply s_assign; exact rfl; dsimp only [Nat.reduceAdd, Nat.reduceMul, List.nil_append]
       exact Trc.done _ _ _; exact rfl; refine thn_n ?_; refine Gol.seq ?_; refine Gol.seq ?_; apply Gol.region
       apply Trc.stp rfl rfl rfl; apply s_move; exact rfl; dsimp only [Nat.reduceAdd, Nat.reduceMul, List.nil_append]
       apply Trc.stp rfl rfl rfl; apply s_move; exact rfl; dsimp only [Nat.reduceAdd, Nat.reduceMul, List.nil_append]
       apply Trc.stp rfl rfl rfl; apply s_ltn; exact rfl; exact rfl; dsimp only [Nat.reduceAdd, Nat.reduceMul, List.nil_append]
       exact Trc.done _ _ _; exact rfl; refine thn_n ?_)
      refine Gol.cond_f rfl (decide_eq_false hk') ?_
      rw [comp_hi S h2 hk', ← hd]
      (refine Gol.skip ?_; refine thn_n ?_; refine Gol.seq ?_; apply Gol.any; kernel_rfl
       apply Trc.stp rfl rfl rfl; apply s_move; exact rfl; dsimp only [Nat.reduceAdd, Nat.reduceMul, List.nil_append]
       apply Trc.stp rfl rfl rfl; apply s_move; exact rfl; dsimp only [Nat.reduceAdd, Nat.reduceMul, List.nil_append]
       apply Trc.stp rfl rfl rfl; apply s_ixe; exact rfl; exact rfl; omega; exact flat_ne (by omega); dsimp only [Nat.reduceAdd, Nat.reduceMul, List.nil_append]
       apply Trc.stp rfl rfl rfl; apply s_loadEN; exact rfl; simp only [byA_length, List.length_append, List.length_cons, List.length_nil, List.length_take, List.length_drop, List.length_replicate, List.length_map, Nat.mul_one, nameB_length, flat_length, List.length_set, inA_length] <;> omega
       exact agu_nm (by omega); dsimp only [Nat.reduceAdd, Nat.reduceMul, List.nil_append]
       apply Trc.stp rfl rfl rfl; apply s_loadW; exact rfl; exact rfl; exact rfl; exact agu_cuv _; dsimp only [Nat.reduceAdd, Nat.reduceMul, List.nil_append]
       apply Trc.stp rfl rfl rfl; apply s_move; exact rfl; dsimp only [Nat.reduceAdd, Nat.reduceMul, List.nil_append]
       apply Trc.stp rfl rfl rfl; apply s_move; exact rfl; dsimp only [Nat.reduceAdd, Nat.reduceMul, List.nil_append]
       apply Trc.stp rfl rfl rfl; apply s_subn; exact rfl; exact rfl; omega; omega; dsimp only [Nat.reduceAdd, Nat.reduceMul, Nat.reduceSub, List.nil_append, List.cons_append, nbk, List.map_cons, List.map_nil]
       apply Trc.stp rfl rfl rfl; apply s_move; exact rfl; dsimp only [Nat.reduceAdd, Nat.reduceMul, List.nil_append]
       apply Trc.stp rfl rfl rfl; apply s_move; exact rfl; dsimp only [Nat.reduceAdd, Nat.reduceMul, List.nil_append]
       apply Trc.stp rfl rfl rfl; apply s_subn; exact rfl; exact rfl; omega; omega; dsimp only [Nat.reduceAdd, Nat.reduceMul, Nat.reduceSub, List.nil_append, List.cons_append, nbk, List.map_cons, List.map_nil]
       apply Trc.stp rfl rfl rfl; apply s_move; exact rfl; dsimp only [Nat.reduceAdd, Nat.reduceMul, List.nil_append]
       apply Trc.stp rfl rfl rfl; apply s_move; exact rfl; dsimp only [Nat.reduceAdd, Nat.reduceMul, List.nil_append]
       apply Trc.stp rfl rfl rfl; apply s_slE; exact rfl; exact rfl; exact ⟨_, rfl⟩; omega; omega; simp only [byA_length, List.length_append, List.length_cons, List.length_nil, List.length_take, List.length_drop, List.length_replicate, List.length_map, Nat.mul_one, nameB_length, flat_length, List.length_set, inA_length] <;> omega
       dsimp only [Nat.reduceAdd, Nat.reduceMul, Nat.reduceSub, List.nil_append, List.cons_append, nbk, List.map_cons, List.map_nil]; apply Trc.stp rfl rfl rfl; apply s_call (f := 118) rfl; apply evs.cons rfl; apply evs.cons rfl; apply evs.cons rfl; apply evs.cons rfl
       exact evs.nil; apply ArgL.cons; exact arg_clo; apply ArgL.cons; exact arg_clo; apply ArgL.cons; exact arg_clo; apply ArgL.cons; exact arg_clo; exact ArgL.nil
       exact hhi _; exact Nat.le_of_ble_eq_true rfl; dsimp only [Nat.reduceAdd, Nat.reduceMul, Nat.reduceSub, List.nil_append, List.cons_append, nbk, List.map_cons, List.map_nil]
       apply Trc.stp rfl rfl rfl; apply s_call (f := 113) rfl; apply evs.cons rfl; apply evs.cons rfl; apply evs.cons rfl
       exact evs.nil; apply ArgL.cons; exact arg_clo; apply ArgL.cons; exact arg_clo; apply ArgL.cons; exact arg_clo; exact ArgL.nil; exact hS.pair 0x12 _ _
       exact Nat.le_of_ble_eq_true rfl; dsimp only [Nat.reduceAdd, Nat.reduceMul, Nat.reduceSub, List.nil_append, List.cons_append, nbk, List.map_cons, List.map_nil]
       apply Trc.stepN rfl rfl; exact wnt_n rfl; apply s_storeW; exact rfl; exact rfl; exact rfl; exact rfl; rfl; exact rfl; dsimp only [Nat.reduceAdd, Nat.reduceMul, Nat.reduceSub, List.nil_append, List.cons_append, nbk, List.map_cons, List.map_nil]
       exact Trc.done _ _ _; kernel_rfl; exact rfl; refine thn_n ?_; refine Gol.ret ?_)
      (apply RetQ.mk (by first | exact .inr rfl | exact .inl rfl); apply res_1 rfl; exact res_cell rfl rfl rfl (agu_cuv _); exact out_val)
end
end Go.Proofs.Ytkkeeokeihkagaa

/-
  The program logic: calls that hand back what they were given. No condition.
-/
namespace Go.Proofs.Ytkkeeokeihkagaa
open Go.RowKit
section
variable {P : Program} {k : Nat} {H : AH} {T : AT} {d : Option Tmp} {ty : TypeId} {ps : String} {af : Array Edge} {gd : Option (Nat × Bool)}
/-- a call whose result reads as v wherever its arguments read as us -/
theorem s_callI {f : FuncId} {fo : Operand} {ops : List Operand} {ts : Array TypeId} {us : List AV} {v : AV} [hF : FnI P f] (hf : ev T fo = some (.fn f [])) (hu : evs T ops us)
    (hc : ∀ (E : Env) (xs : List Value), RVs E us xs → ∃ x, RV E v x ∧ Calls P f xs.toArray E.w fun e w' => e = .returned x ∧ Ext E.w w') :
    StepU P ⟨d, .call { callee := .value fo, args := ops.toArray, argTypes := ts }, ty, ps, af, gd⟩ k [] H T v [] := by
  refine ⟨fun w0 M Hr E a hs hU hk0 hT K Q hK => ?_⟩
  have hfv := hT fo (by simp [Op.operands, Call.operands]) _ hf
  have hxs := evs_rvs (E := E) (a := a) hu (fun x hx => hT x (by simp [Op.operands, Call.operands, hx]))
  obtain ⟨x, hx, hcall⟩ := hc E _ hxs
  have hrun : (execOp a.eval ⟨d, .call { callee := .value fo, args := ops.toArray, argTypes := ts }, ty, ps, af, gd⟩).run P E.w = .ok (.enter f (ops.map a.eval).toArray) E.w := by
    generalize hfe : a.eval fo = fv at hfv
    cases hfv with
    | fn f cs xs hl h =>
      have : xs = #[] := Array.eq_empty_of_size_eq_zero (by simpa using hl)
      subst this
      simp only [execOp, resolve, hfe, Deferred.ofValue, invoke, Sem.run_bind, Sem.run_pure, Result.andThen_ok, Array.empty_append, Array.append_empty, hF.hc]
      simp
  unfold Oper.wp
  rw [hrun]
  simp only [Oper.upon]
  refine hcall.mono ?_
  rintro e w' ⟨rfl, h1⟩
  obtain ⟨E', e1, e2, e3, e4, e5, e6⟩ := hs.news (k := k) (bs := []) (fun b hb1 hb2 => by simp at hb2; omega) w' (fun _ => ⟨none, 0⟩) h1 (fun j g hj => by simp at hj) (fun i j g hi => by simp at hi) (fun E' _ _ _ j blk hj => by simp at hj)
  have := hK x E' e2 e3 (fun b hb => (e4 b hb).imp id (fun h => by simp at h; omega)) (hx.mono e3)
  rw [e1] at this
  exact this
end
/-- what a slice of memory that nobody changes is -/
theorem ex_slice {E : Env} {n : Nat} {f : Bool} {cs : List AV} {x : Value} (h : RV E (.ex n f cs) x) : ∃ A c, x = .slice A n c ∧ n ≤ c := by
  cases h with
  | ex0 n f A c hn hf => exact ⟨A, c, rfl, hn⟩
  | ex n f cs g o c xs hn hf hg hS hl hx h => exact ⟨_, c, rfl, hn⟩
/-- its head -/
theorem ex_head {E : Env} {n m j c : Nat} {f : Bool} {cs : List AV} {A : Option Addr} (h : RV E (.ex n f cs) (.slice A n c)) (hm : m ≤ n) : RV E (.ex m false (cs.take j)) (.slice A m c) := by
  cases h with
  | ex0 n f A c hn hf => rw [List.take_nil]; exact .ex0 _ _ _ _ (by omega) (fun h => by cases h)
  | ex n f cs g o c xs hn hf hg hS hl hx h =>
    have hR : RVs E (cs.take j) (xs.take j) := RVs.take ⟨hl, h⟩ j
    refine .ex _ _ _ g o _ (xs.take j) (by omega) (fun h => by cases h) hg hS hR.1 (fun i y hy => ?_) hR.2
    rw [List.getElem?_take] at hy
    split at hy
    · exact hx i y hy
    · cases hy
end Go.Proofs.Ytkkeeokeihkagaa

/-
  Layer 3, merkle, and the reference: Follow, Verify, and what the laws use. Conditions: lengths below 2^47.
-/
namespace Go.Proofs.Ytkkeeokeihkagaa
open Go.RowKit
section
variable (S : List UInt8 → UInt64) (hS : HashF S)
include hS
theorem refFollow_ok (leaf : UInt64) (n : Nat) : ∀ (i : Nat) (p : List UInt64) (f : Bool) (d : Nat), i < n → n ≤ 9223372036854775807 → d = depN i n → p.length = d → d ≤ 140737488355000 → Fresh Try.prog 120 [.v (.agg (nameC leaf)), .v (.int .i64 (i : Int)), .v (.int .i64 (n : Int)), .ex d f (byA (flat p))] (fun _ => .v (.agg (nameC (compN S leaf i n p)))) [] := by
  induction n using Nat.strongRecOn with
  | _ n ih =>
    intro i p f d hi hb hd hp hdb
    by_cases h1 : n = 1
    · subst h1
      rw [comp_one S (by decide)]
      refine Fresh.of (fn := Try.f120) Try.func120 rfl (Nat.le_of_ble_eq_true rfl) fun w => ?_
      (refine Gol.seq ?_; apply Gol.region; apply Trc.stp rfl rfl rfl; apply s_box; exact rfl
       exact rfl; dsimp only [Nat.reduceAdd, Nat.reduceMul, Nat.reduceSub, List.nil_append, List.cons_append, nbk, List.map_cons, List.map_nil]; apply Trc.stp rfl rfl rfl; apply s_alloc; dsimp only [Nat.reduceAdd, Nat.reduceMul, Nat.reduceSub, List.nil_append, List.cons_append, nbk, List.map_cons, List.map_nil]
       exact Trc.done _ _ _; exact rfl; refine thn_n ?_; refine Gol.seq ?_; refine Gol.seq ?_; apply Gol.region
       apply Trc.stp rfl rfl rfl; apply s_move; exact rfl; dsimp only [Nat.reduceAdd, Nat.reduceMul, List.nil_append]
       apply Trc.stp rfl rfl rfl; apply s_eqn; exact rfl; exact rfl; dsimp only [Nat.reduceAdd, Nat.reduceMul, List.nil_append]
       exact Trc.done _ _ _; exact rfl; refine thn_n ?_)
      refine Gol.cond_t rfl (by decide) ?_
      (refine Gol.seq ?_; apply Gol.region; apply Trc.stp rfl rfl rfl; apply s_slA; exact rfl
       exact rfl; exact rfl; exact rfl; simp; omega; omega; omega; dsimp only [Nat.reduceAdd, Nat.reduceMul, Nat.reduceSub, List.nil_append, List.cons_append, nbk, List.map_cons, List.map_nil]
       apply Trc.stp rfl rfl rfl; apply s_call (f := 101) rfl; apply evs.cons rfl; apply evs.cons rfl; exact evs.nil
       apply ArgL.cons; exact arg_clo; apply ArgL.cons; exact arg_name rfl rfl; exact ArgL.nil; exact hS.refTagged 0x11 (nameB leaf) _ _ rfl (by decide); exact Nat.le_of_ble_eq_true rfl
       dsimp only [Nat.reduceAdd, Nat.reduceMul, Nat.reduceSub, List.nil_append, List.cons_append, nbk, List.map_cons, List.map_nil]; apply Trc.stepN rfl rfl
       exact wnt_n rfl; apply s_storeW; exact rfl; exact rfl; exact rfl; exact rfl; rfl; exact rfl; dsimp only [Nat.reduceAdd, Nat.reduceMul, Nat.reduceSub, List.nil_append, List.cons_append, nbk, List.map_cons, List.map_nil]
       exact Trc.done _ _ _; exact rfl; refine thn_n ?_; refine Gol.ret ?_; refine thn_r ?_)
      (apply RetQ.mk (by first | exact .inr rfl | exact .inl rfl); apply res_1 rfl; exact res_cell rfl rfl rfl (agu_cuv _); exact out_val)
    have h2 : 2 ≤ n := by omega
    have hsp := split_bd n h2
    by_cases hk' : i < splitN n
    · have hdd := dep_lo h2 hk'
      have hlo : ∀ ff, Fresh Try.prog 120 [.v (.agg (nameC leaf)), .v (.int .i64 (i : Int)), .v (.int .i64 (splitN n : Int)), .ex (d - 1 - 0) ff (List.take ((d - 1 - 0) * 8) (List.drop 0 (byA (flat p))))] (fun _ => .v (.agg (nameC (compN S leaf i (splitN n) (p.take (d - 1)))))) [] := fun ff => by
        rw [seg_lo]; exact ih _ (by omega) i _ ff _ hk' (by omega) (by omega) (by simp; omega) (by omega)
      rw [comp_lo S h2 hk', ← hd]
      refine Fresh.of (fn := Try.f120) Try.func120 rfl (Nat.le_of_ble_eq_true rfl) fun w => ?_
      (refine Gol.seq ?_; apply Gol.region; apply Trc.stp rfl rfl rfl; apply s_box; exact rfl
       exact rfl; dsimp only [Nat.reduceAdd, Nat.reduceMul, Nat.reduceSub, List.nil_append, List.cons_append, nbk, List.map_cons, List.map_nil]; apply Trc.stp rfl rfl rfl; apply s_alloc; dsimp only [Nat.reduceAdd, Nat.reduceMul, Nat.reduceSub, List.nil_append, List.cons_append, nbk, List.map_cons, List.map_nil]
       exact Trc.done _ _ _; exact rfl; refine thn_n ?_; refine Gol.seq ?_; refine Gol.seq ?_; apply Gol.region
       apply Trc.stp rfl rfl rfl; apply s_move; exact rfl; dsimp only [Nat.reduceAdd, Nat.reduceMul, List.nil_append]
       apply Trc.stp rfl rfl rfl; apply s_eqn; exact rfl; exact rfl; dsimp only [Nat.reduceAdd, Nat.reduceMul, List.nil_append]
       exact Trc.done _ _ _; exact rfl; refine thn_n ?_)
      refine Gol.cond_f rfl (decide_eq_false h1) ?_
      (refine Gol.skip ?_; refine thn_n ?_; refine Gol.seq ?_; apply Gol.any; kernel_rfl
       apply Trc.stp rfl rfl rfl; apply s_move; exact rfl; dsimp only [Nat.reduceAdd, Nat.reduceMul, List.nil_append]
       apply Trc.stp rfl rfl rfl; apply s_call (f := 129) rfl; apply evs.cons rfl; exact evs.nil; apply ArgL.cons
       exact arg_clo; exact ArgL.nil; exact refSplit_ok n (by omega) (by omega); exact Nat.le_of_ble_eq_true rfl; dsimp only [Nat.reduceAdd, Nat.reduceMul, Nat.reduceSub, List.nil_append, List.cons_append, nbk, List.map_cons, List.map_nil]
       apply Trc.stp rfl rfl rfl; apply s_move; exact rfl; dsimp only [Nat.reduceAdd, Nat.reduceMul, List.nil_append]
       apply Trc.stp rfl rfl rfl; apply s_move; exact rfl; dsimp only [Nat.reduceAdd, Nat.reduceMul, List.nil_append]
       apply Trc.stp rfl rfl rfl; apply s_len; exact rfl; exact ln_ex; dsimp only [Nat.reduceAdd, Nat.reduceMul, List.nil_append]
       apply Trc.stp rfl rfl rfl; apply s_subn; exact rfl; exact rfl; simp <;> omega; omega; dsimp only [Nat.reduceAdd, Nat.reduceMul, Nat.reduceSub, List.nil_append, List.cons_append, nbk, List.map_cons, List.map_nil]
       apply Trc.stp rfl rfl rfl; apply s_ixe; exact rfl; exact rfl; omega; exact flat_ne (by omega); dsimp only [Nat.reduceAdd, Nat.reduceMul, List.nil_append]
       apply Trc.stp rfl rfl rfl; apply s_loadEN; exact rfl; simp only [byA_length, List.length_append, List.length_cons, List.length_nil, List.length_take, List.length_drop, List.length_replicate, List.length_map, Nat.mul_one, nameB_length, flat_length, List.length_set, inA_length] <;> omega
       exact agu_nm (by omega); dsimp only [Nat.reduceAdd, Nat.reduceMul, List.nil_append]
       apply Trc.stp rfl rfl rfl; apply s_alloc; dsimp only [Nat.reduceAdd, Nat.reduceMul, Nat.reduceSub, List.nil_append, List.cons_append, nbk, List.map_cons, List.map_nil]
       apply Trc.stp rfl rfl rfl; apply s_assign; exact rfl; dsimp only [Nat.reduceAdd, Nat.reduceMul, List.nil_append]
       apply Trc.stepN rfl rfl; exact wnt_n rfl; apply s_storeW; exact rfl; exact rfl; exact rfl; exact rfl; rfl; exact rfl; dsimp only [Nat.reduceAdd, Nat.reduceMul, Nat.reduceSub, List.nil_append, List.cons_append, nbk, List.map_cons, List.map_nil]
       exact Trc.done _ _ _; kernel_rfl; exact rfl; refine thn_n ?_; refine Gol.seq ?_; refine Gol.seq ?_
       apply Gol.region; apply Trc.stp rfl rfl rfl; apply s_move; exact rfl; dsimp only [Nat.reduceAdd, Nat.reduceMul, List.nil_append]
       apply Trc.stp rfl rfl rfl; apply s_move; exact rfl; dsimp only [Nat.reduceAdd, Nat.reduceMul, List.nil_append]
       apply Trc.stp rfl rfl rfl; apply s_ltn; exact rfl; exact rfl; dsimp only [Nat.reduceAdd, Nat.reduceMul, List.nil_append]
       exact Trc.done _ _ _; exact rfl; refine thn_n ?_)
      refine Gol.cond_t rfl (decide_eq_true hk') ?_
      (refine Gol.seq ?_; apply Gol.any; kernel_rfl; apply Trc.stp rfl rfl rfl; apply s_loadW
       exact rfl; exact rfl; exact rfl; exact agu_cuv _; dsimp only [Nat.reduceAdd, Nat.reduceMul, List.nil_append]
       apply Trc.stp rfl rfl rfl; apply s_move; exact rfl; dsimp only [Nat.reduceAdd, Nat.reduceMul, List.nil_append]
       apply Trc.stp rfl rfl rfl; apply s_move; exact rfl; dsimp only [Nat.reduceAdd, Nat.reduceMul, List.nil_append]
       apply Trc.stp rfl rfl rfl; apply s_move; exact rfl; dsimp only [Nat.reduceAdd, Nat.reduceMul, List.nil_append]
       apply Trc.stp rfl rfl rfl; apply s_move; exact rfl; dsimp only [Nat.reduceAdd, Nat.reduceMul, List.nil_append]
       apply Trc.stp rfl rfl rfl; apply s_len; exact rfl; exact ln_ex; dsimp only [Nat.reduceAdd, Nat.reduceMul, List.nil_append]
       apply Trc.stp rfl rfl rfl; apply s_subn; exact rfl; exact rfl; simp <;> omega; omega; dsimp only [Nat.reduceAdd, Nat.reduceMul, Nat.reduceSub, List.nil_append, List.cons_append, nbk, List.map_cons, List.map_nil]
       apply Trc.stp rfl rfl rfl; apply s_slE; exact rfl; exact rfl; exact ⟨_, rfl⟩; omega; omega; simp only [byA_length, List.length_append, List.length_cons, List.length_nil, List.length_take, List.length_drop, List.length_replicate, List.length_map, Nat.mul_one, nameB_length, flat_length, List.length_set, inA_length] <;> omega
       dsimp only [Nat.reduceAdd, Nat.reduceMul, Nat.reduceSub, List.nil_append, List.cons_append, nbk, List.map_cons, List.map_nil]; apply Trc.stp rfl rfl rfl; apply s_call (f := 120) rfl; apply evs.cons rfl; apply evs.cons rfl; apply evs.cons rfl; apply evs.cons rfl
       exact evs.nil; apply ArgL.cons; exact arg_clo; apply ArgL.cons; exact arg_clo; apply ArgL.cons; exact arg_clo; apply ArgL.cons; exact arg_clo; exact ArgL.nil
       exact hlo _; exact Nat.le_of_ble_eq_true rfl; dsimp only [Nat.reduceAdd, Nat.reduceMul, Nat.reduceSub, List.nil_append, List.cons_append, nbk, List.map_cons, List.map_nil]
       apply Trc.stp rfl rfl rfl; apply s_loadW; exact rfl; exact rfl; exact rfl; exact agu_cuv _; dsimp only [Nat.reduceAdd, Nat.reduceMul, List.nil_append]
       apply Trc.stp rfl rfl rfl; apply s_call (f := 130) rfl; apply evs.cons rfl; apply evs.cons rfl; apply evs.cons rfl
       exact evs.nil; apply ArgL.cons; exact arg_clo; apply ArgL.cons; exact arg_clo; apply ArgL.cons; exact arg_clo; exact ArgL.nil; exact refPair_ok S hS 0x12 _ _
       exact Nat.le_of_ble_eq_true rfl; dsimp only [Nat.reduceAdd, Nat.reduceMul, Nat.reduceSub, List.nil_append, List.cons_append, nbk, List.map_cons, List.map_nil]
       apply Trc.stepN rfl rfl; exact wnt_n rfl; apply s_storeW; exact rfl; exact rfl; exact rfl; exact rfl; rfl; exact rfl; dsimp only [Nat.reduceAdd, Nat.reduceMul, Nat.reduceSub, List.nil_append, List.cons_append, nbk, List.map_cons, List.map_nil]
       exact Trc.done _ _ _; kernel_rfl; exact rfl; refine thn_n ?_; refine Gol.ret ?_; refine thn_r ?_)
      (apply RetQ.mk (by first | exact .inr rfl | exact .inl rfl); apply res_1 rfl; exact res_cell rfl rfl rfl (agu_cuv _); exact out_val)
    · have hdd := dep_hi h2 hk'
      have hhi : ∀ ff, Fresh Try.prog 120 [.v (.agg (nameC leaf)), .v (.int .i64 ((i - splitN n : Nat) : Int)), .v (.int .i64 ((n - splitN n : Nat) : Int)), .ex (d - 1 - 0) ff (List.take ((d - 1 - 0) * 8) (List.drop 0 (byA (flat p))))] (fun _ => .v (.agg (nameC (compN S leaf (i - splitN n) (n - splitN n) (p.take (d - 1)))))) [] := fun ff => by
        rw [seg_lo]; exact ih _ (by omega) _ _ ff _ (by omega) (by omega) (by omega) (by simp; omega) (by omega)
      rw [comp_hi S h2 hk', ← hd]
      refine Fresh.of (fn := Try.f120) Try.func120 rfl (Nat.le_of_ble_eq_true rfl) fun w => ?_
      (refine Gol.seq ?_; apply Gol.region; apply Trc.stp rfl rfl rfl; apply s_box; exact rfl
       exact rfl; dsimp only [Nat.reduceAdd, Nat.reduceMul, Nat.reduceSub, List.nil_append, List.cons_append, nbk, List.map_cons, List.map_nil]; apply Trc.stp rfl rfl rfl; apply s_alloc; dsimp only [Nat.reduceAdd, Nat.reduceMul, Nat.reduceSub, List.nil_append, List.cons_append, nbk, List.map_cons, List.map_nil]
       exact Trc.done _ _ _; exact rfl; refine thn_n ?_; refine Gol.seq ?_; refine Gol.seq ?_; apply Gol.region
       apply Trc.stp rfl rfl rfl; apply s_move; exact rfl; dsimp only [Nat.reduceAdd, Nat.reduceMul, List.nil_append]
       apply Trc.stp rfl rfl rfl; apply s_eqn; exact rfl; exact rfl; dsimp only [Nat.reduceAdd, Nat.reduceMul, List.nil_append]
       exact Trc.done _ _ _; exact rfl; refine thn_n ?_)
      refine Gol.cond_f rfl (decide_eq_false h1) ?_
      (refine Gol.skip ?_; refine thn_n ?_; refine Gol.seq ?_; apply Gol.any; kernel_rfl
       apply Trc.stp rfl rfl rfl; apply s_move; exact rfl; dsimp only [Nat.reduceAdd, Nat.reduceMul, List.nil_append]
       apply Trc.stp rfl rfl rfl; apply s_call (f := 129) rfl; apply evs.cons rfl; exact evs.nil; apply ArgL.cons
       exact arg_clo; exact ArgL.nil; exact refSplit_ok n (by omega) (by omega); exact Nat.le_of_ble_eq_true rfl; dsimp only [Nat.reduceAdd, Nat.reduceMul, Nat.reduceSub, List.nil_append, List.cons_append, nbk, List.map_cons, List.map_nil]
       apply Trc.stp rfl rfl rfl; apply s_move; exact rfl; dsimp only [Nat.reduceAdd, Nat.reduceMul, List.nil_append]
       apply Trc.stp rfl rfl rfl; apply s_move; exact rfl; dsimp only [Nat.reduceAdd, Nat.reduceMul, List.nil_append]
       apply Trc.stp rfl rfl rfl; apply s_len; exact rfl; exact ln_ex; dsimp only [Nat.reduceAdd, Nat.reduceMul, List.nil_append]
       apply Trc.stp rfl rfl rfl; apply s_subn; exact rfl; exact rfl; simp <;> omega; omega; dsimp only [Nat.reduceAdd, Nat.reduceMul, Nat.reduceSub, List.nil_append, List.cons_append, nbk, List.map_cons, List.map_nil]
       apply Trc.stp rfl rfl rfl; apply s_ixe; exact rfl; exact rfl; omega; exact flat_ne (by omega); dsimp only [Nat.reduceAdd, Nat.reduceMul, List.nil_append]
       apply Trc.stp rfl rfl rfl; apply s_loadEN; exact rfl; simp only [byA_length, List.length_append, List.length_cons, List.length_nil, List.length_take, List.length_drop, List.length_replicate, List.length_map, Nat.mul_one, nameB_length, flat_length, List.length_set, inA_length] <;> omega
       exact agu_nm (by omega); dsimp only [Nat.reduceAdd, Nat.reduceMul, List.nil_append]
       apply Trc.stp rfl rfl rfl; apply s_alloc; dsimp only [Nat.reduceAdd, Nat.reduceMul, Nat.reduceSub, List.nil_append, List.cons_append, nbk, List.map_cons, List.map_nil]
       apply Trc.stp rfl rfl rfl; apply s_assign; exact rfl; dsimp only [Nat.reduceAdd, Nat.reduceMul, List.nil_append]
       apply Trc.stepN rfl rfl; exact wnt_n rfl; apply s_storeW; exact rfl; exact rfl; exact rfl; exact rfl; rfl; exact rfl; dsimp only [Nat.reduceAdd, Nat.reduceMul, Nat.reduceSub, List.nil_append, List.cons_append, nbk, List.map_cons, List.map_nil]
       exact Trc.done _ _ _; kernel_rfl; exact rfl; refine thn_n ?_; refine Gol.seq ?_; refine Gol.seq ?_
       apply Gol.region; apply Trc.stp rfl rfl rfl; apply s_move; exact rfl; dsimp only [Nat.reduceAdd, Nat.reduceMul, List.nil_append]
       apply Trc.stp rfl rfl rfl; apply s_move; exact rfl; dsimp only [Nat.reduceAdd, Nat.reduceMul, List.nil_append]
       apply Trc.stp rfl rfl rfl; apply s_ltn; exact rfl; exact rfl; dsimp only [Nat.reduceAdd, Nat.reduceMul, List.nil_append]
       exact Trc.done _ _ _; exact rfl; refine thn_n ?_)
      refine Gol.cond_f rfl (decide_eq_false hk') ?_
      (refine Gol.skip ?_; refine thn_n ?_; refine Gol.seq ?_; apply Gol.any; kernel_rfl
       apply Trc.stp rfl rfl rfl; apply s_loadW; exact rfl; exact rfl; exact rfl; exact agu_cuv _; dsimp only [Nat.reduceAdd, Nat.reduceMul, List.nil_append]
       apply Trc.stp rfl rfl rfl; apply s_loadW; exact rfl; exact rfl; exact rfl; exact agu_cuv _; dsimp only [Nat.reduceAdd, Nat.reduceMul, List.nil_append]
       apply Trc.stp rfl rfl rfl; apply s_move; exact rfl; dsimp only [Nat.reduceAdd, Nat.reduceMul, List.nil_append]
       apply Trc.stp rfl rfl rfl; apply s_move; exact rfl; dsimp only [Nat.reduceAdd, Nat.reduceMul, List.nil_append]
       apply Trc.stp rfl rfl rfl; apply s_subn; exact rfl; exact rfl; omega; omega; dsimp only [Nat.reduceAdd, Nat.reduceMul, Nat.reduceSub, List.nil_append, List.cons_append, nbk, List.map_cons, List.map_nil]
       apply Trc.stp rfl rfl rfl; apply s_move; exact rfl; dsimp only [Nat.reduceAdd, Nat.reduceMul, List.nil_append]
       apply Trc.stp rfl rfl rfl; apply s_move; exact rfl; dsimp only [Nat.reduceAdd, Nat.reduceMul, List.nil_append]
       apply Trc.stp rfl rfl rfl; apply s_subn; exact rfl; exact rfl; omega; omega; dsimp only [Nat.reduceAdd, Nat.reduceMul, Nat.reduceSub, List.nil_append, List.cons_append, nbk, List.map_cons, List.map_nil]
       apply Trc.stp rfl rfl rfl; apply s_move; exact rfl; dsimp only [Nat.reduceAdd, Nat.reduceMul, List.nil_append]
       apply Trc.stp rfl rfl rfl; apply s_move; exact rfl; dsimp only [Nat.reduceAdd, Nat.reduceMul, List.nil_append]
       apply Trc.stp rfl rfl rfl; apply s_len; exact rfl; exact ln_ex; dsimp only [Nat.reduceAdd, Nat.reduceMul, List.nil_append]
       apply Trc.stp rfl rfl rfl; apply s_subn; exact rfl; exact rfl; simp <;> omega; omega; dsimp only [Nat.reduceAdd, Nat.reduceMul, Nat.reduceSub, List.nil_append, List.cons_append, nbk, List.map_cons, List.map_nil]
       apply Trc.stp rfl rfl rfl; apply s_slE; exact rfl; exact rfl; exact ⟨_, rfl⟩; omega; omega; simp only [byA_length, List.length_append, List.length_cons, List.length_nil, List.length_take, List.length_drop, List.length_replicate, List.length_map, Nat.mul_one, nameB_length, flat_length, List.length_set, inA_length] <;> omega
       dsimp only [Nat.reduceAdd, Nat.reduceMul, Nat.reduceSub, List.nil_append, List.cons_append, nbk, List.map_cons, List.map_nil]; apply Trc.stp rfl rfl rfl; apply s_call (f := 120) rfl; apply evs.cons rfl; apply evs.cons rfl; apply evs.cons rfl; apply evs.cons rfl
       exact evs.nil; apply ArgL.cons; exact arg_clo; apply ArgL.cons; exact arg_clo; apply ArgL.cons; exact arg_clo; apply ArgL.cons; exact arg_clo; exact ArgL.nil
       exact hhi _; exact Nat.le_of_ble_eq_true rfl; dsimp only [Nat.reduceAdd, Nat.reduceMul, Nat.reduceSub, List.nil_append, List.cons_append, nbk, List.map_cons, List.map_nil]
       apply Trc.stp rfl rfl rfl; apply s_call (f := 130) rfl; apply evs.cons rfl; apply evs.cons rfl; apply evs.cons rfl
       exact evs.nil; apply ArgL.cons; exact arg_clo; apply ArgL.cons; exact arg_clo; apply ArgL.cons; exact arg_clo; exact ArgL.nil; exact refPair_ok S hS 0x12 _ _
       exact Nat.le_of_ble_eq_true rfl; dsimp only [Nat.reduceAdd, Nat.reduceMul, Nat.reduceSub, List.nil_append, List.cons_append, nbk, List.map_cons, List.map_nil]
       apply Trc.stepN rfl rfl; exact wnt_n rfl; apply s_storeW; exact rfl; exact rfl; exact rfl; exact rfl; rfl; exact rfl; dsimp only [Nat.reduceAdd, Nat.reduceMul, Nat.reduceSub, List.nil_append, List.cons_append, nbk, List.map_cons, List.map_nil]
       exact Trc.done _ _ _; kernel_rfl; exact rfl; refine thn_n ?_; refine Gol.ret ?_)
      (apply RetQ.mk (by first | exact .inr rfl | exact .inl rfl); apply res_1 rfl; exact res_cell rfl rfl rfl (agu_cuv _); exact out_val)
omit hS
def folO (i n : Int) (d : Nat) : Bool := decide (0 ≤ i ∧ i < n ∧ d = depN i.toNat n.toNat)
def folR (leaf : UInt64) (i n : Int) (p : List UInt64) : UInt64 := if folO i n p.length then compN S leaf i.toNat n.toNat p else 0
include hS
theorem follow_ok (leaf : UInt64) (i n : Int) (p : List UInt64) (f : Bool) (d : Nat) (hn : n ≤ 9223372036854775807) (hp : p.length = d) (hd : d ≤ 140737488355000) : Fresh Try.prog 99 [.v (.agg (nameC leaf)), .v (.int .i64 i), .v (.int .i64 n), .ex d f (byA (flat p))] (fun _ => .tp [.v (.agg (nameC (folR S leaf i n p))), .v (.bool (folO i n d))]) [] := by
  subst hp
  by_cases h : 0 ≤ i ∧ i < n
  rotate_left
  · have ho : folO i n p.length = false := by simp [folO]; omega
    rw [folR, ho]
    refine Fresh.of (fn := Try.f99) Try.func99 rfl (Nat.le_of_ble_eq_true rfl) fun w => ?_
    (refine Gol.seq ?_; apply Gol.region; apply Trc.stp rfl rfl rfl; apply s_box; exact rfl
     exact rfl; dsimp only [Nat.reduceAdd, Nat.reduceMul, Nat.reduceSub, List.nil_append, List.cons_append, nbk, List.map_cons, List.map_nil]; apply Trc.stp rfl rfl rfl; apply s_alloc; dsimp only [Nat.reduceAdd, Nat.reduceMul, Nat.reduceSub, List.nil_append, List.cons_append, nbk, List.map_cons, List.map_nil]
     apply Trc.stp rfl rfl rfl; apply s_assign; exact rfl; dsimp only [Nat.reduceAdd, Nat.reduceMul, List.nil_append]
     exact Trc.done _ _ _; exact rfl; refine thn_n ?_; refine Gol.seq ?_; refine Gol.seq ?_; apply Gol.region
     apply Trc.stp rfl rfl rfl; apply s_move; exact rfl; dsimp only [Nat.reduceAdd, Nat.reduceMul, List.nil_append]
     apply Trc.stp rfl rfl rfl; apply s_move; exact rfl; dsimp only [Nat.reduceAdd, Nat.reduceMul, List.nil_append]
     apply Trc.stp rfl rfl rfl; apply s_call (f := 117) rfl; apply evs.cons rfl; apply evs.cons rfl; exact evs.nil; apply ArgL.cons
     exact arg_clo; apply ArgL.cons; exact arg_clo; exact ArgL.nil; exact depth_no i n h; exact Nat.le_of_ble_eq_true rfl; dsimp only [Nat.reduceAdd, Nat.reduceMul, Nat.reduceSub, List.nil_append, List.cons_append, nbk, List.map_cons, List.map_nil]
     apply Trc.stp rfl rfl rfl; apply s_assign; exact rfl; dsimp only [Nat.reduceAdd, Nat.reduceMul, List.nil_append]
     exact Trc.done _ _ _; exact rfl; refine thn_n ?_; refine Gol.seq ?_; apply Gol.region; apply Trc.stp rfl rfl rfl; apply s_move; exact rfl; dsimp only [Nat.reduceAdd, Nat.reduceMul, List.nil_append]
     apply Trc.stp rfl rfl rfl; apply s_lt; exact rfl; exact rfl; dsimp only [Nat.reduceAdd, Nat.reduceMul, List.nil_append]
     apply Trc.stp rfl rfl rfl; apply s_move; exact rfl; dsimp only [Nat.reduceAdd, Nat.reduceMul, List.nil_append]
     apply Trc.skip rfl rfl; apply wnt_g; exact rfl; exact rfl; exact rfl; rfl; dsimp only [Nat.reduceAdd, Nat.reduceMul, List.nil_append]
     apply Trc.skip rfl rfl; apply wnt_g; exact rfl; exact rfl; exact rfl; rfl; dsimp only [Nat.reduceAdd, Nat.reduceMul, List.nil_append]
     apply Trc.skip rfl rfl; apply wnt_g; exact rfl; exact rfl; exact rfl; rfl; dsimp only [Nat.reduceAdd, Nat.reduceMul, List.nil_append]
     apply Trc.skip rfl rfl; apply wnt_g; exact rfl; exact rfl; exact rfl; rfl; dsimp only [Nat.reduceAdd, Nat.reduceMul, List.nil_append]
     apply Trc.stp rfl rfl rfl; apply s_pick_t; exact rfl; rfl; exact rfl; dsimp only [Nat.reduceAdd, Nat.reduceMul, List.nil_append]
     exact Trc.done _ _ _; exact rfl; refine thn_n ?_)
    refine Gol.cond_t rfl (by decide) ?_
    (refine Gol.seq ?_; apply Gol.region; apply Trc.stp rfl rfl rfl; apply s_zero; dsimp only [Nat.reduceAdd, Nat.reduceMul, Nat.reduceSub, List.nil_append, List.cons_append, nbk, List.map_cons, List.map_nil]
     apply Trc.stepN rfl rfl; exact wnt_n rfl; apply s_storeW; exact rfl; exact rfl; exact rfl; exact rfl; rfl; exact rfl; dsimp only [Nat.reduceAdd, Nat.reduceMul, Nat.reduceSub, List.nil_append, List.cons_append, nbk, List.map_cons, List.map_nil]
     apply Trc.stp rfl rfl rfl; apply s_assign; exact rfl; dsimp only [Nat.reduceAdd, Nat.reduceMul, List.nil_append]
     exact Trc.done _ _ _; exact rfl; refine thn_n ?_; refine Gol.ret ?_; refine thn_r ?_)
    (apply RetQ.mk (by first | exact .inr rfl | exact .inl rfl); apply res_2 rfl; exact res_cell rfl rfl rfl (agu_cuv _); exact res_tmp rfl; exact out_val)
  obtain ⟨j, rfl⟩ := Int.eq_ofNat_of_zero_le h.1
  obtain ⟨m, rfl⟩ := Int.eq_ofNat_of_zero_le (show 0 ≤ n by omega)
  have hjm : j < m := by omega
  have hg : ¬ ((depN j m : Int) < 0) := by omega
  by_cases he : p.length = depN j m
  · have ho : folO j m p.length = true := by simp [folO, he]; omega
    rw [folR, ho]
    refine Fresh.of (fn := Try.f99) Try.func99 rfl (Nat.le_of_ble_eq_true rfl) fun w => ?_
    (refine Gol.seq ?_; apply Gol.region; apply Trc.stp rfl rfl rfl; apply s_box; exact rfl
     exact rfl; dsimp only [Nat.reduceAdd, Nat.reduceMul, Nat.reduceSub, List.nil_append, List.cons_append, nbk, List.map_cons, List.map_nil]; apply Trc.stp rfl rfl rfl; apply s_alloc; dsimp only [Nat.reduceAdd, Nat.reduceMul, Nat.reduceSub, List.nil_append, List.cons_append, nbk, List.map_cons, List.map_nil]
     apply Trc.stp rfl rfl rfl; apply s_assign; exact rfl; dsimp only [Nat.reduceAdd, Nat.reduceMul, List.nil_append]
     exact Trc.done _ _ _; exact rfl; refine thn_n ?_; refine Gol.seq ?_; refine Gol.seq ?_; apply Gol.region
     apply Trc.stp rfl rfl rfl; apply s_move; exact rfl; dsimp only [Nat.reduceAdd, Nat.reduceMul, List.nil_append]
     apply Trc.stp rfl rfl rfl; apply s_move; exact rfl; dsimp only [Nat.reduceAdd, Nat.reduceMul, List.nil_append]
     apply Trc.stp rfl rfl rfl; apply s_call (f := 117) rfl; apply evs.cons rfl; apply evs.cons rfl; exact evs.nil; apply ArgL.cons
     exact arg_clo; apply ArgL.cons; exact arg_clo; exact ArgL.nil; exact depth_yes j m hjm (by omega); exact Nat.le_of_ble_eq_true rfl; dsimp only [Nat.reduceAdd, Nat.reduceMul, Nat.reduceSub, List.nil_append, List.cons_append, nbk, List.map_cons, List.map_nil]
     apply Trc.stp rfl rfl rfl; apply s_assign; exact rfl; dsimp only [Nat.reduceAdd, Nat.reduceMul, List.nil_append]
     exact Trc.done _ _ _; exact rfl; refine thn_n ?_; refine Gol.seq ?_; apply Gol.region; apply Trc.stp rfl rfl rfl; apply s_move; exact rfl; dsimp only [Nat.reduceAdd, Nat.reduceMul, List.nil_append]
     apply Trc.stp rfl rfl rfl; apply s_ltn; exact rfl; exact rfl; dsimp only [Nat.reduceAdd, Nat.reduceMul, List.nil_append]
     apply Trc.stp rfl rfl rfl; apply s_move; exact rfl; dsimp only [Nat.reduceAdd, Nat.reduceMul, List.nil_append]
     apply Trc.step rfl rfl; apply wnt_g; exact rfl; exact rfl; exact rfl; rfl; apply s_move; exact rfl; dsimp only [Nat.reduceAdd, Nat.reduceMul, List.nil_append]
     apply Trc.step rfl rfl; apply wnt_g; exact rfl; exact rfl; exact rfl; rfl; apply s_len; exact rfl; exact ln_ex; dsimp only [Nat.reduceAdd, Nat.reduceMul, List.nil_append]
     apply Trc.step rfl rfl; apply wnt_g; exact rfl; exact rfl; exact rfl; rfl; apply s_move; exact rfl; dsimp only [Nat.reduceAdd, Nat.reduceMul, List.nil_append]
     apply Trc.step rfl rfl; apply wnt_g; exact rfl; exact rfl; exact rfl; rfl; apply s_nen; exact rfl; exact rfl; dsimp only [Nat.reduceAdd, Nat.reduceMul, List.nil_append]
     apply Trc.stp rfl rfl rfl; apply s_pick_f; exact rfl; rfl; exact rfl; dsimp only [Nat.reduceAdd, Nat.reduceMul, List.nil_append]
     exact Trc.done _ _ _; exact rfl; refine thn_n ?_)
    refine Gol.cond_f rfl (by simp [he]) ?_
    (refine Gol.skip ?_; refine thn_n ?_; refine Gol.seq ?_; apply Gol.region; apply Trc.stp rfl rfl rfl; apply s_loadW; exact rfl; exact rfl; exact rfl; exact agu_cuv _; dsimp only [Nat.reduceAdd, Nat.reduceMul, List.nil_append]
     apply Trc.stp rfl rfl rfl; apply s_move; exact rfl; dsimp only [Nat.reduceAdd, Nat.reduceMul, List.nil_append]
     apply Trc.stp rfl rfl rfl; apply s_move; exact rfl; dsimp only [Nat.reduceAdd, Nat.reduceMul, List.nil_append]
     apply Trc.stp rfl rfl rfl; apply s_move; exact rfl; dsimp only [Nat.reduceAdd, Nat.reduceMul, List.nil_append]
     apply Trc.stp rfl rfl rfl; apply s_call (f := 118) rfl; apply evs.cons rfl; apply evs.cons rfl; apply evs.cons rfl
     apply evs.cons rfl; exact evs.nil; apply ArgL.cons; exact arg_clo; apply ArgL.cons; exact arg_clo; apply ArgL.cons; exact arg_clo; apply ArgL.cons; exact arg_clo
     exact ArgL.nil; exact computed_ok S hS leaf m j p _ _ hjm (by omega) he rfl hd; exact Nat.le_of_ble_eq_true rfl; dsimp only [Nat.reduceAdd, Nat.reduceMul, Nat.reduceSub, List.nil_append, List.cons_append, nbk, List.map_cons, List.map_nil]
     apply Trc.stepN rfl rfl; exact wnt_n rfl; apply s_storeW; exact rfl; exact rfl; exact rfl; exact rfl; rfl; exact rfl; dsimp only [Nat.reduceAdd, Nat.reduceMul, Nat.reduceSub, List.nil_append, List.cons_append, nbk, List.map_cons, List.map_nil]
     apply Trc.stp rfl rfl rfl; apply s_assign; exact rfl; dsimp only [Nat.reduceAdd, Nat.reduceMul, List.nil_append]
     exact Trc.done _ _ _; exact rfl; refine thn_n ?_; refine Gol.ret ?_)
    (apply RetQ.mk (by first | exact .inr rfl | exact .inl rfl); apply res_2 rfl; exact res_cell rfl rfl rfl (agu_cuv _); exact res_tmp rfl; exact out_val)
  · have ho : folO j m p.length = false := by simp [folO, he]
    rw [folR, ho]
    refine Fresh.of (fn := Try.f99) Try.func99 rfl (Nat.le_of_ble_eq_true rfl) fun w => ?_
    (refine Gol.seq ?_; apply Gol.region; apply Trc.stp rfl rfl rfl; apply s_box; exact rfl
     exact rfl; dsimp only [Nat.reduceAdd, Nat.reduceMul, Nat.reduceSub, List.nil_append, List.cons_append, nbk, List.map_cons, List.map_nil]; apply Trc.stp rfl rfl rfl; apply s_alloc; dsimp only [Nat.reduceAdd, Nat.reduceMul, Nat.reduceSub, List.nil_append, List.cons_append, nbk, List.map_cons, List.map_nil]
     apply Trc.stp rfl rfl rfl; apply s_assign; exact rfl; dsimp only [Nat.reduceAdd, Nat.reduceMul, List.nil_append]
     exact Trc.done _ _ _; exact rfl; refine thn_n ?_; refine Gol.seq ?_; refine Gol.seq ?_; apply Gol.region
     apply Trc.stp rfl rfl rfl; apply s_move; exact rfl; dsimp only [Nat.reduceAdd, Nat.reduceMul, List.nil_append]
     apply Trc.stp rfl rfl rfl; apply s_move; exact rfl; dsimp only [Nat.reduceAdd, Nat.reduceMul, List.nil_append]
     apply Trc.stp rfl rfl rfl; apply s_call (f := 117) rfl; apply evs.cons rfl; apply evs.cons rfl; exact evs.nil; apply ArgL.cons
     exact arg_clo; apply ArgL.cons; exact arg_clo; exact ArgL.nil; exact depth_yes j m hjm (by omega); exact Nat.le_of_ble_eq_true rfl; dsimp only [Nat.reduceAdd, Nat.reduceMul, Nat.reduceSub, List.nil_append, List.cons_append, nbk, List.map_cons, List.map_nil]
     apply Trc.stp rfl rfl rfl; apply s_assign; exact rfl; dsimp only [Nat.reduceAdd, Nat.reduceMul, List.nil_append]
     exact Trc.done _ _ _; exact rfl; refine thn_n ?_; refine Gol.seq ?_; apply Gol.region; apply Trc.stp rfl rfl rfl; apply s_move; exact rfl; dsimp only [Nat.reduceAdd, Nat.reduceMul, List.nil_append]
     apply Trc.stp rfl rfl rfl; apply s_ltn; exact rfl; exact rfl; dsimp only [Nat.reduceAdd, Nat.reduceMul, List.nil_append]
     apply Trc.stp rfl rfl rfl; apply s_move; exact rfl; dsimp only [Nat.reduceAdd, Nat.reduceMul, List.nil_append]
     apply Trc.step rfl rfl; apply wnt_g; exact rfl; exact rfl; exact rfl; rfl; apply s_move; exact rfl; dsimp only [Nat.reduceAdd, Nat.reduceMul, List.nil_append]
     apply Trc.step rfl rfl; apply wnt_g; exact rfl; exact rfl; exact rfl; rfl; apply s_len; exact rfl; exact ln_ex; dsimp only [Nat.reduceAdd, Nat.reduceMul, List.nil_append]
     apply Trc.step rfl rfl; apply wnt_g; exact rfl; exact rfl; exact rfl; rfl; apply s_move; exact rfl; dsimp only [Nat.reduceAdd, Nat.reduceMul, List.nil_append]
     apply Trc.step rfl rfl; apply wnt_g; exact rfl; exact rfl; exact rfl; rfl; apply s_nen; exact rfl; exact rfl; dsimp only [Nat.reduceAdd, Nat.reduceMul, List.nil_append]
     apply Trc.stp rfl rfl rfl; apply s_pick_f; exact rfl; rfl; exact rfl; dsimp only [Nat.reduceAdd, Nat.reduceMul, List.nil_append]
     exact Trc.done _ _ _; exact rfl; refine thn_n ?_)
    refine Gol.cond_t rfl (by simp [he]) ?_
    (refine Gol.seq ?_; apply Gol.region; apply Trc.stp rfl rfl rfl; apply s_zero; dsimp only [Nat.reduceAdd, Nat.reduceMul, Nat.reduceSub, List.nil_append, List.cons_append, nbk, List.map_cons, List.map_nil]
     apply Trc.stepN rfl rfl; exact wnt_n rfl; apply s_storeW; exact rfl; exact rfl; exact rfl; exact rfl; rfl; exact rfl; dsimp only [Nat.reduceAdd, Nat.reduceMul, Nat.reduceSub, List.nil_append, List.cons_append, nbk, List.map_cons, List.map_nil]
     apply Trc.stp rfl rfl rfl; apply s_assign; exact rfl; dsimp only [Nat.reduceAdd, Nat.reduceMul, List.nil_append]
     exact Trc.done _ _ _; exact rfl; refine thn_n ?_; refine Gol.ret ?_; refine thn_r ?_)
    (apply RetQ.mk (by first | exact .inr rfl | exact .inl rfl); apply res_2 rfl; exact res_cell rfl rfl rfl (agu_cuv _); exact res_tmp rfl; exact out_val)
theorem refFollowT_ok (leaf : UInt64) (i n : Int) (p : List UInt64) (f : Bool) (d : Nat) (hn : n ≤ 9223372036854775807) (hp : p.length = d) (hd : d ≤ 140737488355000) : Fresh Try.prog 100 [.v (.agg (nameC leaf)), .v (.int .i64 i), .v (.int .i64 n), .ex d f (byA (flat p))] (fun _ => .tp [.v (.agg (nameC (folR S leaf i n p))), .v (.bool (folO i n d))]) [] := by
  subst hp
  by_cases h : 0 ≤ i ∧ i < n
  rotate_left
  · have ho : folO i n p.length = false := by simp [folO]; omega
    rw [folR, ho]
    refine Fresh.of (fn := Try.f100) Try.func100 rfl (Nat.le_of_ble_eq_true rfl) fun w => ?_
    (refine Gol.seq ?_; apply Gol.region; apply Trc.stp rfl rfl rfl; apply s_box; exact rfl
     exact rfl; dsimp only [Nat.reduceAdd, Nat.reduceMul, Nat.reduceSub, List.nil_append, List.cons_append, nbk, List.map_cons, List.map_nil]; apply Trc.stp rfl rfl rfl; apply s_alloc; dsimp only [Nat.reduceAdd, Nat.reduceMul, Nat.reduceSub, List.nil_append, List.cons_append, nbk, List.map_cons, List.map_nil]
     apply Trc.stp rfl rfl rfl; apply s_assign; exact rfl; dsimp only [Nat.reduceAdd, Nat.reduceMul, List.nil_append]
     exact Trc.done _ _ _; exact rfl; refine thn_n ?_; refine Gol.seq ?_; refine Gol.seq ?_; apply Gol.region
     apply Trc.stp rfl rfl rfl; apply s_move; exact rfl; dsimp only [Nat.reduceAdd, Nat.reduceMul, List.nil_append]
     apply Trc.stp rfl rfl rfl; apply s_move; exact rfl; dsimp only [Nat.reduceAdd, Nat.reduceMul, List.nil_append]
     apply Trc.stp rfl rfl rfl; apply s_call (f := 119) rfl; apply evs.cons rfl; apply evs.cons rfl; exact evs.nil
     apply ArgL.cons; exact arg_clo; apply ArgL.cons; exact arg_clo; exact ArgL.nil; exact refDepth_no i n h; exact Nat.le_of_ble_eq_true rfl; dsimp only [Nat.reduceAdd, Nat.reduceMul, Nat.reduceSub, List.nil_append, List.cons_append, nbk, List.map_cons, List.map_nil]
     apply Trc.stp rfl rfl rfl; apply s_assign; exact rfl; dsimp only [Nat.reduceAdd, Nat.reduceMul, List.nil_append]
     exact Trc.done _ _ _; exact rfl; refine thn_n ?_; refine Gol.seq ?_; apply Gol.region; apply Trc.stp rfl rfl rfl; apply s_move; exact rfl; dsimp only [Nat.reduceAdd, Nat.reduceMul, List.nil_append]
     apply Trc.stp rfl rfl rfl; apply s_lt; exact rfl; exact rfl; dsimp only [Nat.reduceAdd, Nat.reduceMul, List.nil_append]
     apply Trc.stp rfl rfl rfl; apply s_move; exact rfl; dsimp only [Nat.reduceAdd, Nat.reduceMul, List.nil_append]
     apply Trc.skip rfl rfl; apply wnt_g; exact rfl; exact rfl; exact rfl; rfl; dsimp only [Nat.reduceAdd, Nat.reduceMul, List.nil_append]
     apply Trc.skip rfl rfl; apply wnt_g; exact rfl; exact rfl; exact rfl; rfl; dsimp only [Nat.reduceAdd, Nat.reduceMul, List.nil_append]
     apply Trc.skip rfl rfl; apply wnt_g; exact rfl; exact rfl; exact rfl; rfl; dsimp only [Nat.reduceAdd, Nat.reduceMul, List.nil_append]
     apply Trc.skip rfl rfl; apply wnt_g; exact rfl; exact rfl; exact rfl; rfl; dsimp only [Nat.reduceAdd, Nat.reduceMul, List.nil_append]
     apply Trc.stp rfl rfl rfl; apply s_pick_t; exact rfl; rfl; exact rfl; dsimp only [Nat.reduceAdd, Nat.reduceMul, List.nil_append]
     exact Trc.done _ _ _; exact rfl; refine thn_n ?_)
    refine Gol.cond_t rfl (by decide) ?_
    (refine Gol.seq ?_; apply Gol.region; apply Trc.stp rfl rfl rfl; apply s_zero; dsimp only [Nat.reduceAdd, Nat.reduceMul, Nat.reduceSub, List.nil_append, List.cons_append, nbk, List.map_cons, List.map_nil]
     apply Trc.stepN rfl rfl; exact wnt_n rfl; apply s_storeW; exact rfl; exact rfl; exact rfl; exact rfl; rfl; exact rfl; dsimp only [Nat.reduceAdd, Nat.reduceMul, Nat.reduceSub, List.nil_append, List.cons_append, nbk, List.map_cons, List.map_nil]
     apply Trc.stp rfl rfl rfl; apply s_assign; exact rfl; dsimp only [Nat.reduceAdd, Nat.reduceMul, List.nil_append]
     exact Trc.done _ _ _; exact rfl; refine thn_n ?_; refine Gol.ret ?_; refine thn_r ?_)
    (apply RetQ.mk (by first | exact .inr rfl | exact .inl rfl); apply res_2 rfl; exact res_cell rfl rfl rfl (agu_cuv _); exact res_tmp rfl; exact out_val)
  obtain ⟨j, rfl⟩ := Int.eq_ofNat_of_zero_le h.1
  obtain ⟨m, rfl⟩ := Int.eq_ofNat_of_zero_le (show 0 ≤ n by omega)
  have hjm : j < m := by omega
  have hg : ¬ ((depN j m : Int) < 0) := by omega
  by_cases he : p.length = depN j m
  · have ho : folO j m p.length = true := by simp [folO, he]; omega
    rw [folR, ho]
    refine Fresh.of (fn := Try.f100) Try.func100 rfl (Nat.le_of_ble_eq_true rfl) fun w => ?_
    (refine Gol.seq ?_; apply Gol.region; apply Trc.stp rfl rfl rfl; apply s_box; exact rfl
     exact rfl; dsimp only [Nat.reduceAdd, Nat.reduceMul, Nat.reduceSub, List.nil_append, List.cons_append, nbk, List.map_cons, List.map_nil]; apply Trc.stp rfl rfl rfl; apply s_alloc; dsimp only [Nat.reduceAdd, Nat.reduceMul, Nat.reduceSub, List.nil_append, List.cons_append, nbk, List.map_cons, List.map_nil]
     apply Trc.stp rfl rfl rfl; apply s_assign; exact rfl; dsimp only [Nat.reduceAdd, Nat.reduceMul, List.nil_append]
     exact Trc.done _ _ _; exact rfl; refine thn_n ?_; refine Gol.seq ?_; refine Gol.seq ?_; apply Gol.region
     apply Trc.stp rfl rfl rfl; apply s_move; exact rfl; dsimp only [Nat.reduceAdd, Nat.reduceMul, List.nil_append]
     apply Trc.stp rfl rfl rfl; apply s_move; exact rfl; dsimp only [Nat.reduceAdd, Nat.reduceMul, List.nil_append]
     apply Trc.stp rfl rfl rfl; apply s_call (f := 119) rfl; apply evs.cons rfl; apply evs.cons rfl; exact evs.nil
     apply ArgL.cons; exact arg_clo; apply ArgL.cons; exact arg_clo; exact ArgL.nil; exact refDepth_yes j m hjm (by omega); exact Nat.le_of_ble_eq_true rfl
     dsimp only [Nat.reduceAdd, Nat.reduceMul, Nat.reduceSub, List.nil_append, List.cons_append, nbk, List.map_cons, List.map_nil]; apply Trc.stp rfl rfl rfl; apply s_assign; exact rfl; dsimp only [Nat.reduceAdd, Nat.reduceMul, List.nil_append]
     exact Trc.done _ _ _; exact rfl; refine thn_n ?_; refine Gol.seq ?_; apply Gol.region; apply Trc.stp rfl rfl rfl; apply s_move; exact rfl; dsimp only [Nat.reduceAdd, Nat.reduceMul, List.nil_append]
     apply Trc.stp rfl rfl rfl; apply s_ltn; exact rfl; exact rfl; dsimp only [Nat.reduceAdd, Nat.reduceMul, List.nil_append]
     apply Trc.stp rfl rfl rfl; apply s_move; exact rfl; dsimp only [Nat.reduceAdd, Nat.reduceMul, List.nil_append]
     apply Trc.step rfl rfl; apply wnt_g; exact rfl; exact rfl; exact rfl; rfl; apply s_move; exact rfl; dsimp only [Nat.reduceAdd, Nat.reduceMul, List.nil_append]
     apply Trc.step rfl rfl; apply wnt_g; exact rfl; exact rfl; exact rfl; rfl; apply s_move; exact rfl; dsimp only [Nat.reduceAdd, Nat.reduceMul, List.nil_append]
     apply Trc.step rfl rfl; apply wnt_g; exact rfl; exact rfl; exact rfl; rfl; apply s_len; exact rfl; exact ln_ex; dsimp only [Nat.reduceAdd, Nat.reduceMul, List.nil_append]
     apply Trc.step rfl rfl; apply wnt_g; exact rfl; exact rfl; exact rfl; rfl; apply s_nen; exact rfl; exact rfl; dsimp only [Nat.reduceAdd, Nat.reduceMul, List.nil_append]
     apply Trc.stp rfl rfl rfl; apply s_pick_f; exact rfl; rfl; exact rfl; dsimp only [Nat.reduceAdd, Nat.reduceMul, List.nil_append]
     exact Trc.done _ _ _; exact rfl; refine thn_n ?_)
    refine Gol.cond_f rfl (by simp [he]) ?_
    (refine Gol.skip ?_; refine thn_n ?_; refine Gol.seq ?_; apply Gol.region; apply Trc.stp rfl rfl rfl; apply s_loadW; exact rfl; exact rfl; exact rfl; exact agu_cuv _; dsimp only [Nat.reduceAdd, Nat.reduceMul, List.nil_append]
     apply Trc.stp rfl rfl rfl; apply s_move; exact rfl; dsimp only [Nat.reduceAdd, Nat.reduceMul, List.nil_append]
     apply Trc.stp rfl rfl rfl; apply s_move; exact rfl; dsimp only [Nat.reduceAdd, Nat.reduceMul, List.nil_append]
     apply Trc.stp rfl rfl rfl; apply s_move; exact rfl; dsimp only [Nat.reduceAdd, Nat.reduceMul, List.nil_append]
     apply Trc.stp rfl rfl rfl; apply s_call (f := 120) rfl; apply evs.cons rfl; apply evs.cons rfl; apply evs.cons rfl
     apply evs.cons rfl; exact evs.nil; apply ArgL.cons; exact arg_clo; apply ArgL.cons; exact arg_clo; apply ArgL.cons; exact arg_clo; apply ArgL.cons; exact arg_clo
     exact ArgL.nil; exact refFollow_ok S hS leaf m j p _ _ hjm (by omega) he rfl hd; exact Nat.le_of_ble_eq_true rfl; dsimp only [Nat.reduceAdd, Nat.reduceMul, Nat.reduceSub, List.nil_append, List.cons_append, nbk, List.map_cons, List.map_nil]
     apply Trc.stepN rfl rfl; exact wnt_n rfl; apply s_storeW; exact rfl; exact rfl; exact rfl; exact rfl; rfl; exact rfl; dsimp only [Nat.reduceAdd, Nat.reduceMul, Nat.reduceSub, List.nil_append, List.cons_append, nbk, List.map_cons, List.map_nil]
     apply Trc.stp rfl rfl rfl; apply s_assign; exact rfl; dsimp only [Nat.reduceAdd, Nat.reduceMul, List.nil_append]
     exact Trc.done _ _ _; exact rfl; refine thn_n ?_; refine Gol.ret ?_)
    (apply RetQ.mk (by first | exact .inr rfl | exact .inl rfl); apply res_2 rfl; exact res_cell rfl rfl rfl (agu_cuv _); exact res_tmp rfl; exact out_val)
  · have ho : folO j m p.length = false := by simp [folO, he]
    rw [folR, ho]
    refine Fresh.of (fn := Try.f100) Try.func100 rfl (Nat.le_of_ble_eq_true rfl) fun w => ?_
    (refine Gol.seq ?_; apply Gol.region; apply Trc.stp rfl rfl rfl; apply s_box; exact rfl
     exact rfl; dsimp only [Nat.reduceAdd, Nat.reduceMul, Nat.reduceSub, List.nil_append, List.cons_append, nbk, List.map_cons, List.map_nil]; apply Trc.stp rfl rfl rfl; apply s_alloc; dsimp only [Nat.reduceAdd, Nat.reduceMul, Nat.reduceSub, List.nil_append, List.cons_append, nbk, List.map_cons, List.map_nil]
     apply Trc.stp rfl rfl rfl; apply s_assign; exact rfl; dsimp only [Nat.reduceAdd, Nat.reduceMul, List.nil_append]
     exact Trc.done _ _ _; exact rfl; refine thn_n ?_; refine Gol.seq ?_; refine Gol.seq ?_; apply Gol.region
     apply Trc.stp rfl rfl rfl; apply s_move; exact rfl; dsimp only [Nat.reduceAdd, Nat.reduceMul, List.nil_append]
     apply Trc.stp rfl rfl rfl; apply s_move; exact rfl; dsimp only [Nat.reduceAdd, Nat.reduceMul, List.nil_append]
     apply Trc.stp rfl rfl rfl; apply s_call (f := 119) rfl; apply evs.cons rfl; apply evs.cons rfl; exact evs.nil
     apply ArgL.cons; exact arg_clo; apply ArgL.cons; exact arg_clo; exact ArgL.nil; exact refDepth_yes j m hjm (by omega); exact Nat.le_of_ble_eq_true rfl
     dsimp only [Nat.reduceAdd, Nat.reduceMul, Nat.reduceSub, List.nil_append, List.cons_append, nbk, List.map_cons, List.map_nil]; apply Trc.stp rfl rfl rfl; apply s_assign; exact rfl; dsimp only [Nat.reduceAdd, Nat.reduceMul, List.nil_append]
     exact Trc.done _ _ _; exact rfl; refine thn_n ?_; refine Gol.seq ?_; apply Gol.region; apply Trc.stp rfl rfl rfl; apply s_move; exact rfl; dsimp only [Nat.reduceAdd, Nat.reduceMul, List.nil_append]
     apply Trc.stp rfl rfl rfl; apply s_ltn; exact rfl; exact rfl; dsimp only [Nat.reduceAdd, Nat.reduceMul, List.nil_append]
     apply Trc.stp rfl rfl rfl; apply s_move; exact rfl; dsimp only [Nat.reduceAdd, Nat.reduceMul, List.nil_append]
     apply Trc.step rfl rfl; apply wnt_g; exact rfl; exact rfl; exact rfl; rfl; apply s_move; exact rfl; dsimp only [Nat.reduceAdd, Nat.reduceMul, List.nil_append]
     apply Trc.step rfl rfl; apply wnt_g; exact rfl; exact rfl; exact rfl; rfl; apply s_move; exact rfl; dsimp only [Nat.reduceAdd, Nat.reduceMul, List.nil_append]
     apply Trc.step rfl rfl; apply wnt_g; exact rfl; exact rfl; exact rfl; rfl; apply s_len; exact rfl; exact ln_ex; dsimp only [Nat.reduceAdd, Nat.reduceMul, List.nil_append]
     apply Trc.step rfl rfl; apply wnt_g; exact rfl; exact rfl; exact rfl; rfl; apply s_nen; exact rfl; exact rfl; dsimp only [Nat.reduceAdd, Nat.reduceMul, List.nil_append]
     apply Trc.stp rfl rfl rfl; apply s_pick_f; exact rfl; rfl; exact rfl; dsimp only [Nat.reduceAdd, Nat.reduceMul, List.nil_append]
     exact Trc.done _ _ _; exact rfl; refine thn_n ?_)
    refine Gol.cond_t rfl (by simp; exact fun e => he e.symm) ?_
    (refine Gol.seq ?_; apply Gol.region; apply Trc.stp rfl rfl rfl; apply s_zero; dsimp only [Nat.reduceAdd, Nat.reduceMul, Nat.reduceSub, List.nil_append, List.cons_append, nbk, List.map_cons, List.map_nil]
     apply Trc.stepN rfl rfl; exact wnt_n rfl; apply s_storeW; exact rfl; exact rfl; exact rfl; exact rfl; rfl; exact rfl; dsimp only [Nat.reduceAdd, Nat.reduceMul, Nat.reduceSub, List.nil_append, List.cons_append, nbk, List.map_cons, List.map_nil]
     apply Trc.stp rfl rfl rfl; apply s_assign; exact rfl; dsimp only [Nat.reduceAdd, Nat.reduceMul, List.nil_append]
     exact Trc.done _ _ _; exact rfl; refine thn_n ?_; refine Gol.ret ?_; refine thn_r ?_)
    (apply RetQ.mk (by first | exact .inr rfl | exact .inl rfl); apply res_2 rfl; exact res_cell rfl rfl rfl (agu_cuv _); exact res_tmp rfl; exact out_val)
theorem verify_ok (root leaf : UInt64) (i n : Int) (p : List UInt64) (f : Bool) (d : Nat) (hn : n ≤ 9223372036854775807) (hp : p.length = d) (hd : d ≤ 140737488355000) : Fresh Try.prog 68 [.v (.agg (nameC root)), .v (.agg (nameC leaf)), .v (.int .i64 i), .v (.int .i64 n), .ex d f (byA (flat p))] (fun _ => .v (.bool (folO i n d && folR S leaf i n p == root))) [] := by
  cases ho : folO i n d
  · apply Fresh.bool
    · refine Fresh.of (fn := Try.f68) Try.func68 rfl (Nat.le_of_ble_eq_true rfl) fun w => ?_
      (refine Gol.seq ?_; apply Gol.region; apply Trc.stp rfl rfl rfl; apply s_box; exact rfl
       exact rfl; dsimp only [Nat.reduceAdd, Nat.reduceMul, Nat.reduceSub, List.nil_append, List.cons_append, nbk, List.map_cons, List.map_nil]; apply Trc.stp rfl rfl rfl; apply s_box; exact rfl; exact rfl; dsimp only [Nat.reduceAdd, Nat.reduceMul, Nat.reduceSub, List.nil_append, List.cons_append, nbk, List.map_cons, List.map_nil]
       apply Trc.stp rfl rfl rfl; apply s_assign; exact rfl; dsimp only [Nat.reduceAdd, Nat.reduceMul, List.nil_append]
       exact Trc.done _ _ _; exact rfl; refine thn_n ?_; refine Gol.seq ?_; apply Gol.region; apply Trc.stp rfl rfl rfl; apply s_loadW; exact rfl; exact rfl; exact rfl; exact agu_cuv _; dsimp only [Nat.reduceAdd, Nat.reduceMul, List.nil_append]
       apply Trc.stp rfl rfl rfl; apply s_move; exact rfl; dsimp only [Nat.reduceAdd, Nat.reduceMul, List.nil_append]
       apply Trc.stp rfl rfl rfl; apply s_move; exact rfl; dsimp only [Nat.reduceAdd, Nat.reduceMul, List.nil_append]
       apply Trc.stp rfl rfl rfl; apply s_move; exact rfl; dsimp only [Nat.reduceAdd, Nat.reduceMul, List.nil_append]
       apply Trc.stp rfl rfl rfl; apply s_call (f := 99) rfl; apply evs.cons rfl; apply evs.cons rfl; apply evs.cons rfl
       apply evs.cons rfl; exact evs.nil; apply ArgL.cons; exact arg_clo; apply ArgL.cons; exact arg_clo; apply ArgL.cons; exact arg_clo; apply ArgL.cons; exact arg_clo
       exact ArgL.nil; exact follow_ok S hS leaf i n p _ d hn hp hd; exact Nat.le_of_ble_eq_true rfl; dsimp only [Nat.reduceAdd, Nat.reduceMul, Nat.reduceSub, List.nil_append, List.cons_append, nbk, List.map_cons, List.map_nil]
       apply Trc.stp rfl rfl rfl; apply s_move; exact rfl; dsimp only [Nat.reduceAdd, Nat.reduceMul, List.nil_append]
       apply Trc.stp rfl rfl rfl; apply s_extract; exact rfl; exact rfl; dsimp only [Nat.reduceAdd, Nat.reduceMul, List.nil_append]
       apply Trc.stp rfl rfl rfl; apply s_extract; exact rfl; exact rfl; dsimp only [Nat.reduceAdd, Nat.reduceMul, List.nil_append]
       apply Trc.stp rfl rfl rfl; apply s_alloc; dsimp only [Nat.reduceAdd, Nat.reduceMul, Nat.reduceSub, List.nil_append, List.cons_append, nbk, List.map_cons, List.map_nil]
       apply Trc.stepN rfl rfl; exact wnt_n rfl; apply s_storeW; exact rfl; exact rfl; exact rfl; exact rfl; rfl; exact rfl; dsimp only [Nat.reduceAdd, Nat.reduceMul, Nat.reduceSub, List.nil_append, List.cons_append, nbk, List.map_cons, List.map_nil]
       apply Trc.stp rfl rfl rfl; apply s_assign; exact rfl; dsimp only [Nat.reduceAdd, Nat.reduceMul, List.nil_append]
       exact Trc.done _ _ _; exact rfl; refine thn_n ?_; refine Gol.seq ?_; apply Gol.region; apply Trc.stp rfl rfl rfl; apply s_move; exact rfl; dsimp only [Nat.reduceAdd, Nat.reduceMul, List.nil_append]
       apply Trc.stp rfl rfl rfl; apply s_move; exact rfl; dsimp only [Nat.reduceAdd, Nat.reduceMul, List.nil_append]
       apply Trc.skip rfl rfl; apply wnt_g; exact rfl; exact rfl; exact rfl; (focus (simp only [*]; rfl)); dsimp only [Nat.reduceAdd, Nat.reduceMul, List.nil_append]
       apply Trc.skip rfl rfl; apply wnt_g; exact rfl; exact rfl; exact rfl; (focus (simp only [*]; rfl)); dsimp only [Nat.reduceAdd, Nat.reduceMul, List.nil_append]
       apply Trc.skip rfl rfl; apply wnt_g; exact rfl; exact rfl; exact rfl; (focus (simp only [*]; rfl)); dsimp only [Nat.reduceAdd, Nat.reduceMul, List.nil_append]
       apply Trc.stp rfl rfl rfl; apply s_pick_f; exact rfl; assumption; exact rfl; dsimp only [Nat.reduceAdd, Nat.reduceMul, List.nil_append]
       apply Trc.stp rfl rfl rfl; apply s_assign; exact rfl; dsimp only [Nat.reduceAdd, Nat.reduceMul, List.nil_append]
       exact Trc.done _ _ _; exact rfl; refine thn_n ?_; refine Gol.ret ?_)
      (apply RetQ.mk (by first | exact .inr rfl | exact .inl rfl); apply res_1 rfl; exact res_tmp rfl; exact out_val)
    · rfl
  · apply Fresh.bool
    · refine Fresh.of (fn := Try.f68) Try.func68 rfl (Nat.le_of_ble_eq_true rfl) fun w => ?_
      (refine Gol.seq ?_; apply Gol.region; apply Trc.stp rfl rfl rfl; apply s_box; exact rfl
       exact rfl; dsimp only [Nat.reduceAdd, Nat.reduceMul, Nat.reduceSub, List.nil_append, List.cons_append, nbk, List.map_cons, List.map_nil]; apply Trc.stp rfl rfl rfl; apply s_box; exact rfl; exact rfl; dsimp only [Nat.reduceAdd, Nat.reduceMul, Nat.reduceSub, List.nil_append, List.cons_append, nbk, List.map_cons, List.map_nil]
       apply Trc.stp rfl rfl rfl; apply s_assign; exact rfl; dsimp only [Nat.reduceAdd, Nat.reduceMul, List.nil_append]
       exact Trc.done _ _ _; exact rfl; refine thn_n ?_; refine Gol.seq ?_; apply Gol.region; apply Trc.stp rfl rfl rfl; apply s_loadW; exact rfl; exact rfl; exact rfl; exact agu_cuv _; dsimp only [Nat.reduceAdd, Nat.reduceMul, List.nil_append]
       apply Trc.stp rfl rfl rfl; apply s_move; exact rfl; dsimp only [Nat.reduceAdd, Nat.reduceMul, List.nil_append]
       apply Trc.stp rfl rfl rfl; apply s_move; exact rfl; dsimp only [Nat.reduceAdd, Nat.reduceMul, List.nil_append]
       apply Trc.stp rfl rfl rfl; apply s_move; exact rfl; dsimp only [Nat.reduceAdd, Nat.reduceMul, List.nil_append]
       apply Trc.stp rfl rfl rfl; apply s_call (f := 99) rfl; apply evs.cons rfl; apply evs.cons rfl; apply evs.cons rfl
       apply evs.cons rfl; exact evs.nil; apply ArgL.cons; exact arg_clo; apply ArgL.cons; exact arg_clo; apply ArgL.cons; exact arg_clo; apply ArgL.cons; exact arg_clo
       exact ArgL.nil; exact follow_ok S hS leaf i n p _ d hn hp hd; exact Nat.le_of_ble_eq_true rfl; dsimp only [Nat.reduceAdd, Nat.reduceMul, Nat.reduceSub, List.nil_append, List.cons_append, nbk, List.map_cons, List.map_nil]
       apply Trc.stp rfl rfl rfl; apply s_move; exact rfl; dsimp only [Nat.reduceAdd, Nat.reduceMul, List.nil_append]
       apply Trc.stp rfl rfl rfl; apply s_extract; exact rfl; exact rfl; dsimp only [Nat.reduceAdd, Nat.reduceMul, List.nil_append]
       apply Trc.stp rfl rfl rfl; apply s_extract; exact rfl; exact rfl; dsimp only [Nat.reduceAdd, Nat.reduceMul, List.nil_append]
       apply Trc.stp rfl rfl rfl; apply s_alloc; dsimp only [Nat.reduceAdd, Nat.reduceMul, Nat.reduceSub, List.nil_append, List.cons_append, nbk, List.map_cons, List.map_nil]
       apply Trc.stepN rfl rfl; exact wnt_n rfl; apply s_storeW; exact rfl; exact rfl; exact rfl; exact rfl; rfl; exact rfl; dsimp only [Nat.reduceAdd, Nat.reduceMul, Nat.reduceSub, List.nil_append, List.cons_append, nbk, List.map_cons, List.map_nil]
       apply Trc.stp rfl rfl rfl; apply s_assign; exact rfl; dsimp only [Nat.reduceAdd, Nat.reduceMul, List.nil_append]
       exact Trc.done _ _ _; exact rfl; refine thn_n ?_; refine Gol.seq ?_; apply Gol.region; apply Trc.stp rfl rfl rfl; apply s_move; exact rfl; dsimp only [Nat.reduceAdd, Nat.reduceMul, List.nil_append]
       apply Trc.stp rfl rfl rfl; apply s_move; exact rfl; dsimp only [Nat.reduceAdd, Nat.reduceMul, List.nil_append]
       apply Trc.step rfl rfl; apply wnt_g; exact rfl; exact rfl; exact rfl; (focus (simp only [*]; rfl)); apply s_loadW; exact rfl; exact rfl
       exact rfl; exact agu_cuv _; dsimp only [Nat.reduceAdd, Nat.reduceMul, List.nil_append]
       apply Trc.step rfl rfl; apply wnt_g; exact rfl; exact rfl; exact rfl; (focus (simp only [*]; rfl)); apply s_loadW; exact rfl; exact rfl
       exact rfl; exact agu_cuv _; dsimp only [Nat.reduceAdd, Nat.reduceMul, List.nil_append]
       apply Trc.step rfl rfl; apply wnt_g; exact rfl; exact rfl; exact rfl; (focus (simp only [*]; rfl)); apply s_eqN; exact rfl; exact rfl
       dsimp only [Nat.reduceAdd, Nat.reduceMul, List.nil_append]; apply Trc.stp rfl rfl rfl; apply s_pick_t; exact rfl; assumption; exact rfl; dsimp only [Nat.reduceAdd, Nat.reduceMul, List.nil_append]
       apply Trc.stp rfl rfl rfl; apply s_assign; exact rfl; dsimp only [Nat.reduceAdd, Nat.reduceMul, List.nil_append]
       exact Trc.done _ _ _; exact rfl; refine thn_n ?_; refine Gol.ret ?_)
      (apply RetQ.mk (by first | exact .inr rfl | exact .inl rfl); apply res_1 rfl; exact res_tmp rfl; exact out_val)
    · rfl
theorem refVerify_ok (root leaf : UInt64) (i n : Int) (p : List UInt64) (f : Bool) (d : Nat) (hn : n ≤ 9223372036854775807) (hp : p.length = d) (hd : d ≤ 140737488355000) : Fresh Try.prog 70 [.v (.agg (nameC root)), .v (.agg (nameC leaf)), .v (.int .i64 i), .v (.int .i64 n), .ex d f (byA (flat p))] (fun _ => .v (.bool (folO i n d && folR S leaf i n p == root))) [] := by
  cases ho : folO i n d
  · apply Fresh.bool
    · refine Fresh.of (fn := Try.f70) Try.func70 rfl (Nat.le_of_ble_eq_true rfl) fun w => ?_
      (refine Gol.seq ?_; apply Gol.region; apply Trc.stp rfl rfl rfl; apply s_box; exact rfl
       exact rfl; dsimp only [Nat.reduceAdd, Nat.reduceMul, Nat.reduceSub, List.nil_append, List.cons_append, nbk, List.map_cons, List.map_nil]; apply Trc.stp rfl rfl rfl; apply s_box; exact rfl; exact rfl; dsimp only [Nat.reduceAdd, Nat.reduceMul, Nat.reduceSub, List.nil_append, List.cons_append, nbk, List.map_cons, List.map_nil]
       apply Trc.stp rfl rfl rfl; apply s_assign; exact rfl; dsimp only [Nat.reduceAdd, Nat.reduceMul, List.nil_append]
       exact Trc.done _ _ _; exact rfl; refine thn_n ?_; refine Gol.seq ?_; apply Gol.region; apply Trc.stp rfl rfl rfl; apply s_loadW; exact rfl; exact rfl; exact rfl; exact agu_cuv _; dsimp only [Nat.reduceAdd, Nat.reduceMul, List.nil_append]
       apply Trc.stp rfl rfl rfl; apply s_move; exact rfl; dsimp only [Nat.reduceAdd, Nat.reduceMul, List.nil_append]
       apply Trc.stp rfl rfl rfl; apply s_move; exact rfl; dsimp only [Nat.reduceAdd, Nat.reduceMul, List.nil_append]
       apply Trc.stp rfl rfl rfl; apply s_move; exact rfl; dsimp only [Nat.reduceAdd, Nat.reduceMul, List.nil_append]
       apply Trc.stp rfl rfl rfl; apply s_call (f := 100) rfl; apply evs.cons rfl; apply evs.cons rfl; apply evs.cons rfl
       apply evs.cons rfl; exact evs.nil; apply ArgL.cons; exact arg_clo; apply ArgL.cons; exact arg_clo; apply ArgL.cons; exact arg_clo; apply ArgL.cons; exact arg_clo
       exact ArgL.nil; exact refFollowT_ok S hS leaf i n p _ d hn hp hd; exact Nat.le_of_ble_eq_true rfl; dsimp only [Nat.reduceAdd, Nat.reduceMul, Nat.reduceSub, List.nil_append, List.cons_append, nbk, List.map_cons, List.map_nil]
       apply Trc.stp rfl rfl rfl; apply s_move; exact rfl; dsimp only [Nat.reduceAdd, Nat.reduceMul, List.nil_append]
       apply Trc.stp rfl rfl rfl; apply s_extract; exact rfl; exact rfl; dsimp only [Nat.reduceAdd, Nat.reduceMul, List.nil_append]
       apply Trc.stp rfl rfl rfl; apply s_extract; exact rfl; exact rfl; dsimp only [Nat.reduceAdd, Nat.reduceMul, List.nil_append]
       apply Trc.stp rfl rfl rfl; apply s_alloc; dsimp only [Nat.reduceAdd, Nat.reduceMul, Nat.reduceSub, List.nil_append, List.cons_append, nbk, List.map_cons, List.map_nil]
       apply Trc.stepN rfl rfl; exact wnt_n rfl; apply s_storeW; exact rfl; exact rfl; exact rfl; exact rfl; rfl; exact rfl; dsimp only [Nat.reduceAdd, Nat.reduceMul, Nat.reduceSub, List.nil_append, List.cons_append, nbk, List.map_cons, List.map_nil]
       apply Trc.stp rfl rfl rfl; apply s_assign; exact rfl; dsimp only [Nat.reduceAdd, Nat.reduceMul, List.nil_append]
       exact Trc.done _ _ _; exact rfl; refine thn_n ?_; refine Gol.seq ?_; apply Gol.region; apply Trc.stp rfl rfl rfl; apply s_move; exact rfl; dsimp only [Nat.reduceAdd, Nat.reduceMul, List.nil_append]
       apply Trc.stp rfl rfl rfl; apply s_move; exact rfl; dsimp only [Nat.reduceAdd, Nat.reduceMul, List.nil_append]
       apply Trc.skip rfl rfl; apply wnt_g; exact rfl; exact rfl; exact rfl; (focus (simp only [*]; rfl)); dsimp only [Nat.reduceAdd, Nat.reduceMul, List.nil_append]
       apply Trc.skip rfl rfl; apply wnt_g; exact rfl; exact rfl; exact rfl; (focus (simp only [*]; rfl)); dsimp only [Nat.reduceAdd, Nat.reduceMul, List.nil_append]
       apply Trc.skip rfl rfl; apply wnt_g; exact rfl; exact rfl; exact rfl; (focus (simp only [*]; rfl)); dsimp only [Nat.reduceAdd, Nat.reduceMul, List.nil_append]
       apply Trc.stp rfl rfl rfl; apply s_pick_f; exact rfl; assumption; exact rfl; dsimp only [Nat.reduceAdd, Nat.reduceMul, List.nil_append]
       apply Trc.stp rfl rfl rfl; apply s_assign; exact rfl; dsimp only [Nat.reduceAdd, Nat.reduceMul, List.nil_append]
       exact Trc.done _ _ _; exact rfl; refine thn_n ?_; refine Gol.ret ?_)
      (apply RetQ.mk (by first | exact .inr rfl | exact .inl rfl); apply res_1 rfl; exact res_tmp rfl; exact out_val)
    · rfl
  · apply Fresh.bool
    · refine Fresh.of (fn := Try.f70) Try.func70 rfl (Nat.le_of_ble_eq_true rfl) fun w => ?_
      (refine Gol.seq ?_; apply Gol.region; apply Trc.stp rfl rfl rfl; apply s_box; exact rfl
       exact rfl; dsimp only [Nat.reduceAdd, Nat.reduceMul, Nat.reduceSub, List.nil_append, List.cons_append, nbk, List.map_cons, List.map_nil]; apply Trc.stp rfl rfl rfl; apply s_box; exact rfl; exact rfl; dsimp only [Nat.reduceAdd, Nat.reduceMul, Nat.reduceSub, List.nil_append, List.cons_append, nbk, List.map_cons, List.map_nil]
       apply Trc.stp rfl rfl rfl; apply s_assign; exact rfl; dsimp only [Nat.reduceAdd, Nat.reduceMul, List.nil_append]
       exact Trc.done _ _ _; exact rfl; refine thn_n ?_; refine Gol.seq ?_; apply Gol.region; apply Trc.stp rfl rfl rfl; apply s_loadW; exact rfl; exact rfl; exact rfl; exact agu_cuv _; dsimp only [Nat.reduceAdd, Nat.reduceMul, List.nil_append]
       apply Trc.stp rfl rfl rfl; apply s_move; exact rfl; dsimp only [Nat.reduceAdd, Nat.reduceMul, List.nil_append]
       apply Trc.stp rfl rfl rfl; apply s_move; exact rfl; dsimp only [Nat.reduceAdd, Nat.reduceMul, List.nil_append]
       apply Trc.stp rfl rfl rfl; apply s_move; exact rfl; dsimp only [Nat.reduceAdd, Nat.reduceMul, List.nil_append]
       apply Trc.stp rfl rfl rfl; apply s_call (f := 100) rfl; apply evs.cons rfl; apply evs.cons rfl; apply evs.cons rfl
       apply evs.cons rfl; exact evs.nil; apply ArgL.cons; exact arg_clo; apply ArgL.cons; exact arg_clo; apply ArgL.cons; exact arg_clo; apply ArgL.cons; exact arg_clo
       exact ArgL.nil; exact refFollowT_ok S hS leaf i n p _ d hn hp hd; exact Nat.le_of_ble_eq_true rfl; dsimp only [Nat.reduceAdd, Nat.reduceMul, Nat.reduceSub, List.nil_append, List.cons_append, nbk, List.map_cons, List.map_nil]
       apply Trc.stp rfl rfl rfl; apply s_move; exact rfl; dsimp only [Nat.reduceAdd, Nat.reduceMul, List.nil_append]
       apply Trc.stp rfl rfl rfl; apply s_extract; exact rfl; exact rfl; dsimp only [Nat.reduceAdd, Nat.reduceMul, List.nil_append]
       apply Trc.stp rfl rfl rfl; apply s_extract; exact rfl; exact rfl; dsimp only [Nat.reduceAdd, Nat.reduceMul, List.nil_append]
       apply Trc.stp rfl rfl rfl; apply s_alloc; dsimp only [Nat.reduceAdd, Nat.reduceMul, Nat.reduceSub, List.nil_append, List.cons_append, nbk, List.map_cons, List.map_nil]
       apply Trc.stepN rfl rfl; exact wnt_n rfl; apply s_storeW; exact rfl; exact rfl; exact rfl; exact rfl; rfl; exact rfl; dsimp only [Nat.reduceAdd, Nat.reduceMul, Nat.reduceSub, List.nil_append, List.cons_append, nbk, List.map_cons, List.map_nil]
       apply Trc.stp rfl rfl rfl; apply s_assign; exact rfl; dsimp only [Nat.reduceAdd, Nat.reduceMul, List.nil_append]
       exact Trc.done _ _ _; exact rfl; refine thn_n ?_; refine Gol.seq ?_; apply Gol.region; apply Trc.stp rfl rfl rfl; apply s_move; exact rfl; dsimp only [Nat.reduceAdd, Nat.reduceMul, List.nil_append]
       apply Trc.stp rfl rfl rfl; apply s_move; exact rfl; dsimp only [Nat.reduceAdd, Nat.reduceMul, List.nil_append]
       apply Trc.step rfl rfl; apply wnt_g; exact rfl; exact rfl; exact rfl; (focus (simp only [*]; rfl)); apply s_loadW; exact rfl; exact rfl
       exact rfl; exact agu_cuv _; dsimp only [Nat.reduceAdd, Nat.reduceMul, List.nil_append]
       apply Trc.step rfl rfl; apply wnt_g; exact rfl; exact rfl; exact rfl; (focus (simp only [*]; rfl)); apply s_loadW; exact rfl; exact rfl
       exact rfl; exact agu_cuv _; dsimp only [Nat.reduceAdd, Nat.reduceMul, List.nil_append]
       apply Trc.step rfl rfl; apply wnt_g; exact rfl; exact rfl; exact rfl; (focus (simp only [*]; rfl)); apply s_eqN; exact rfl; exact rfl
       dsimp only [Nat.reduceAdd, Nat.reduceMul, List.nil_append]; apply Trc.stp rfl rfl rfl; apply s_pick_t; exact rfl; assumption; exact rfl; dsimp only [Nat.reduceAdd, Nat.reduceMul, List.nil_append]
       apply Trc.stp rfl rfl rfl; apply s_assign; exact rfl; dsimp only [Nat.reduceAdd, Nat.reduceMul, List.nil_append]
       exact Trc.done _ _ _; exact rfl; refine thn_n ?_; refine Gol.ret ?_)
      (apply RetQ.mk (by first | exact .inr rfl | exact .inl rfl); apply res_1 rfl; exact res_tmp rfl; exact out_val)
    · rfl
omit hS
theorem root_one {l : List UInt64} (h : l.length = 1) : rootN S l = S (0x11 :: nameB (l.getD 0 0)) := by rw [rootN, dif_neg (by omega), if_pos h]
theorem root_two {l : List UInt64} {n : Nat} (hl : l.length = n) (h : 2 ≤ n) : rootN S l = S (0x12 :: (nameB (rootN S (l.take (splitN n))) ++ nameB (rootN S (l.drop (splitN n))))) := by subst hl; rw [rootN, dif_pos h]
theorem comp_path : ∀ (n : Nat) (l : List UInt64) (i : Nat), l.length = n → i < n → compN S (l.getD i 0) i n (pathN S l i) = rootN S l := by
  intro n
  induction n using Nat.strongRecOn with
  | _ n ih =>
    intro l i hl hi
    by_cases h2 : 2 ≤ n
    · have hsp := split_bd n h2
      by_cases hk : i < splitN n
      · have hpl := path_len S (splitN n) (l.take (splitN n)) i (by simp; omega)
        have e1 : (l.take (splitN n)).getD i 0 = l.getD i 0 := by simp [List.getD_eq_getElem?_getD, List.getElem?_take, hk]
        rw [comp_lo S h2 hk, path_lo S hl h2 hk, dep_lo h2 hk, root_two S hl h2, Nat.add_sub_cancel]
        have e2 : (pathN S (l.take (splitN n)) i ++ [rootN S (l.drop (splitN n))]).take (depN i (splitN n)) = pathN S (l.take (splitN n)) i := List.take_left' hpl
        have e3 : (pathN S (l.take (splitN n)) i ++ [rootN S (l.drop (splitN n))]).getD (depN i (splitN n)) 0 = rootN S (l.drop (splitN n)) := by rw [← hpl]; simp [List.getD_eq_getElem?_getD]
        rw [e2, e3, ← e1, ih _ hsp.2.1 _ i (by simp; omega) hk]
      · have hpl := path_len S (n - splitN n) (l.drop (splitN n)) (i - splitN n) (by simp; omega)
        have e1 : (l.drop (splitN n)).getD (i - splitN n) 0 = l.getD i 0 := by simp [List.getD_eq_getElem?_getD, List.getElem?_drop]; rw [show splitN n + (i - splitN n) = i by omega]
        rw [comp_hi S h2 hk, path_hi S hl h2 hk, dep_hi h2 hk, root_two S hl h2, Nat.add_sub_cancel]
        have e2 : (pathN S (l.drop (splitN n)) (i - splitN n) ++ [rootN S (l.take (splitN n))]).take (depN (i - splitN n) (n - splitN n)) = pathN S (l.drop (splitN n)) (i - splitN n) := List.take_left' hpl
        have e3 : (pathN S (l.drop (splitN n)) (i - splitN n) ++ [rootN S (l.take (splitN n))]).getD (depN (i - splitN n) (n - splitN n)) 0 = rootN S (l.take (splitN n)) := by rw [← hpl]; simp [List.getD_eq_getElem?_getD]
        rw [e2, e3, ← e1, ih (n - splitN n) (by omega) _ (i - splitN n) (by simp; omega) (by omega)]
    · obtain rfl : i = 0 := by omega
      rw [comp_one S h2, root_one S (by omega)]
theorem fol_path (n : Nat) (l : List UInt64) (i : Nat) (hl : l.length = n) (hi : i < n) : folR S (l.getD i 0) i n (pathN S l i) = rootN S l ∧ folO i n (depN i n) = true := by
  have ho : folO i n (depN i n) = true := by simp [folO]; omega
  refine ⟨?_, ho⟩
  rw [folR, path_len S n l i hl, ho]
  simp only [Int.toNat_natCast, if_true]
  exact comp_path S n l i hl hi
theorem dep05 : depN 0 5 = 3 := by simp [depN, splitN, spl2]
theorem dep45 : depN 4 5 = 1 := by simp [depN, splitN, spl2]
theorem sub_nil5 {f : Bool} {a b c d : AV} {us : List AV} (E : Env) (xs : List Value) (h : RVs E (a :: b :: c :: d :: .v (.slice none 0 0) :: us) xs) : RVs E (a :: b :: c :: d :: .ex 0 f [] :: us) xs := by
  obtain ⟨x, ys, rfl, h1, h⟩ := h.cons_inv
  obtain ⟨y, ys, rfl, h2, h⟩ := h.cons_inv
  obtain ⟨z, ys, rfl, h3, h⟩ := h.cons_inv
  obtain ⟨u, ys, rfl, h4, h⟩ := h.cons_inv
  exact RVs.cons h1 (RVs.cons h2 (RVs.cons h3 (RVs.cons h4 (sub_nil E ys h))))
include hS
end
end Go.Proofs.Ytkkeeokeihkagaa

/-
  Go's slices.Clone at the element types of layer 21. Conditions: lengths below 2^27.
-/
namespace Go.Proofs.Ytkkeeokeihkagaa
open Go.RowKit

section
variable {P : Program} {t e : TypeId} {size bytes : Nat} {z : Value} {k : Nat} {H : AH} {T : AT} {d : Option Tmp} {ty t' : TypeId} {ps : String} {af : Array Edge} {gd : Option (Nat × Bool)}
theorem guard_sl (op : BinOp) (x y : Operand) (A B : Option Addr) (n c m c' : Nat) (hS : SI P t e size bytes z) (w : World) : (eqGuard op t x y (.slice A n c) (.slice B m c')).run P w = .ok () w := by
  cases op <;> simp [eqGuard]
theorem run_eqsl (n : Nat) (hS : SI P t e size bytes z) (A : Option Addr) (m c : Nat) (w : World) : (Op.equalIn (n + 1) t (.slice A m c) (.slice none 0 0)).run P w = .ok A.isNone w := by
  cases A <;> simp only [Op.equalIn, Sem.run_bind, run_underlying hS.under, Result.andThen_ok, Sem.run_pure] <;> rfl
theorem run_eqsl' (hS : SI P t e size bytes z) (x y : Operand) (A : Option Addr) (m c : Nat) (w : World) : (do eqGuard .eql t x y (.slice A m c) (.slice none 0 0); binOp .eql t (.slice A m c) (.slice none 0 0) : Sem Value).run P w = .ok (.bool A.isNone) w := by
  have h : (Op.equal t (.slice A m c) (.slice none 0 0)).run P w = .ok A.isNone w := run_eqsl 9999 hS A m c w
  simp only [guard_sl (P := P) (t := t) .eql _ _ _ _ _ _ _ _ hS, binOp, Sem.run_bind, Result.andThen_ok, h, Sem.run_pure]
/-- s == nil -/
theorem s_eqNilV {x : Operand} {A : Option Addr} {n c : Nat} [hS : SI P t e size bytes z] (hx : ev T x = some (.v (.slice A n c))) :
    StepU P ⟨d, .binOp .eql t x (.const (.slice none 0 0)) t', ty, ps, af, gd⟩ k [] H T (.v (.bool A.isNone)) [] :=
  s_bin hx rfl fun w => run_eqsl' hS _ _ A n c w
theorem s_eqNilE {x : Operand} {n : Nat} {f : Bool} {cs : List AV} [hS : SI P t e size bytes z] (hx : ev T x = some (.ex n f cs)) (hne : cs ≠ []) :
    StepU P ⟨d, .binOp .eql t x (.const (.slice none 0 0)) t', ty, ps, af, gd⟩ k [] H T (.v (.bool false)) [] :=
  .of_pure fun _ _ _ E a hs hU hT => by
    have hv := hT x (by simp [Op.operands]) _ hx
    generalize hxv : a.eval x = v at hv
    cases hv with
    | ex0 => exact absurd rfl hne
    | ex n f cs g o c xs hn hf hg hS' hl hx' h =>
      refine ⟨.bool false, ?_, .v _⟩
      have hc : a.eval (.const (.slice none 0 0)) = .slice none 0 0 := rfl
      have hr := run_eqsl' hS x (.const (.slice none 0 0)) (some ⟨g, o, none⟩) n c E.w
      simp only [execOp, hxv, hc]
      rw [Sem.run_bind, hr]
      rfl
end
theorem rd_empty {H : AH} {sz : Nat} {A : Option Addr} {c : Nat} : Rdv H sz (.v (.slice A 0 c)) 0 [] [] := fun _ _ _ E x _ _ h => by
  have := h.v_inv; subst this; exact ⟨A, c, [], rfl, Nat.zero_le _, RVs.nil E, by simp, .inl rfl⟩
theorem ex_nil_split {P : Program} {f : FuncId} {fl : Bool} {v : Nat → AV} {bs : List ABlk} (h : ∀ A c, Fresh P f [.v (.slice A 0 c)] v bs) : Fresh P f [.ex 0 fl []] v bs := fun E0 xs hS hD hx => by
  obtain ⟨x, rfl, h1⟩ := arg1 hx
  obtain ⟨A, c, rfl, _⟩ := ex_slice h1
  exact h A c E0 _ hS hD (RVs.cons (.v _) (RVs.nil E0))
theorem nsA_length (l : List UInt64) : (byA (flat l)).length = l.length * 8 := by rw [byA_length, flat_length]
theorem nsA_ones (l : List UInt64) : (byA (flat l)).all AV.one = true := byA_ones _
theorem nsA_append (a b : List UInt64) : byA (flat (a ++ b)) = byA (flat a) ++ byA (flat b) := by rw [flat_append, byA_append]
theorem nsA_cons (x : UInt64) (l : List UInt64) : byA (flat (x :: l)) = byA (nameB x) ++ byA (flat l) := by rw [flat_cons, byA_append]
theorem nsA_take (l : List UInt64) (i : Nat) : (byA (flat l)).take (i * 8) = byA (flat (l.take i)) := by rw [byA_take, flat_take8]
theorem nsA_drop (l : List UInt64) (i : Nat) : (byA (flat l)).drop (i * 8) = byA (flat (l.drop i)) := by rw [byA_drop, flat_drop8]
theorem nA_length (x : UInt64) : (byA (nameB x)).length = 8 := by rw [byA_length, nameB_length]
theorem nA_ones (x : UInt64) : (byA (nameB x)).all AV.one = true := byA_ones _
theorem inA_length1 (l : List Int) : (inA l).length = l.length * 1 := by rw [inA_length, Nat.mul_one]
theorem zeroA_len {z : Value} {n s : Nat} (h : z.cells.size = s) : (zeroA z n).length = n * s := by rw [zeroA_length, h]
theorem spl_mid {A Z ds : List AV} {a x : Nat} (ha : A.length = a) (hx : ds.length = x) : spl (A ++ Z) a ds = A ++ ds ++ Z.drop x := by
  subst ha hx
  unfold spl
  rw [List.take_left, List.drop_length_add_append]
theorem spl_end {A Z ds : List AV} {a : Nat} (ha : A.length = a) (hz : Z.length = ds.length) : spl (A ++ Z) a ds = A ++ ds := by
  rw [spl_mid ha rfl, ← hz, List.drop_length, List.append_nil]
theorem spl_room {cs Z X : List AV} {a b s : Nat} (hX : X.length = s) (hZ : Z.length = s) (ha : a ≤ cs.length) (hb : b = a + s) : spl (spl (cs ++ Z) b (cs.drop a)) a X = cs.take a ++ X ++ cs.drop a := by
  subst hb
  have h1 : spl (cs ++ Z) (a + s) (cs.drop a) = (cs ++ Z).take (a + s) ++ cs.drop a := by
    unfold spl
    rw [List.drop_of_length_le (l := cs ++ Z) (by rw [List.length_append, List.length_drop]; omega), List.append_nil]
  have hl : ((cs ++ Z).take (a + s)).length = a + s := by rw [List.length_take, List.length_append]; omega
  rw [h1]
  unfold spl
  rw [hX, List.drop_left' hl, List.take_append_of_le_length (by omega), List.take_take, Nat.min_eq_left (by omega), List.take_append_of_le_length ha]
theorem take_mid {cs Z : List AV} {a p q : Nat} (ha : a ≤ cs.length) (hq : q = cs.length - a) (hp : q ≤ p) : (((cs ++ Z).drop a).take p).take q = cs.drop a := by
  rw [List.take_take, Nat.min_eq_left hp, List.drop_append_of_le_length ha, List.take_append_of_le_length (by rw [List.length_drop]; omega), List.take_of_length_le (by rw [List.length_drop]; omega)]
theorem take_all {cs : List AV} {p q : Nat} (hq : cs.length ≤ q) (hp : cs.length ≤ p) : (cs.take p).take q = cs := by
  rw [List.take_take, List.take_of_length_le (by omega)]
theorem zeroA_ones {z : Value} {n : Nat} (h : z.cells.toList.all (·.oneCell') = true) : (zeroA z n).all AV.one = true := by
  refine List.all_eq_true.2 fun y hy => ?_
  obtain ⟨x, hx, rfl⟩ := List.mem_map.1 hy
  show x.oneCell' = true
  simp only [Builtin.zeroCells, Array.toList_map, List.mem_map, Array.mem_toList_iff, Array.mem_range] at hx
  obtain ⟨i, hi, rfl⟩ := hx
  have hp : 0 < z.cells.size := by
    rcases Nat.eq_zero_or_pos z.cells.size with h0 | h0
    · rw [h0] at hi; omega
    · exact h0
  have hlt : i % z.cells.size < z.cells.size := Nat.mod_lt _ hp
  have hm : z.cells[i % z.cells.size]! ∈ z.cells.toList := by
    rw [getElem!_pos z.cells _ hlt]; exact Array.getElem_mem_toList hlt
  exact List.all_eq_true.1 h _ hm
theorem del_cells {cs D Z : List AV} {a b m : Nat} (ha : a ≤ cs.length) (hb : b = a + D.length) (hX : b ≤ cs.length) (hm : m = b) : (spl (spl cs a D) b Z).take m = cs.take a ++ D := by
  subst hm
  have hl : (spl cs a D).length = cs.length := spl_length _ _ _ (by omega)
  have h1 : (spl (spl cs a D) m Z).take m = (spl cs a D).take m := by
    show ((spl cs a D).take m ++ Z ++ _).take m = _
    rw [List.append_assoc, List.take_left' (by rw [List.length_take]; omega)]
  rw [h1]
  show (cs.take a ++ D ++ _).take m = _
  rw [List.take_left' (by rw [List.length_append, List.length_take]; omega)]
theorem cloneD_v (A : Option Addr) (c : Nat) : Fresh Try.prog 87 [.v (.slice A 0 c)] (fun k => .sl k 0) [⟨dsA [], 43, 11⟩] := by
  cases A with
  | none =>
    apply Fresh.nilV
    refine Fresh.of (fn := Try.f87) Try.func87 rfl (Nat.le_of_ble_eq_true rfl) fun w => ?_
    (refine Gol.seq ?_; apply Gol.region; apply Trc.stp rfl rfl rfl; apply s_assign; exact rfl
     dsimp only [Nat.reduceAdd, Nat.reduceMul, List.nil_append]; exact Trc.done _ _ _; exact rfl
     refine thn_n ?_; refine Gol.seq ?_; refine Gol.seq ?_; apply Gol.region; apply Trc.stp rfl rfl rfl; apply s_move; exact rfl; dsimp only [Nat.reduceAdd, Nat.reduceMul, List.nil_append]
     apply Trc.stp rfl rfl rfl; apply s_eqNilV; exact rfl; dsimp only [Nat.reduceAdd, Nat.reduceMul, Nat.reduceSub, List.nil_append, List.cons_append, nbk, List.map_cons, List.map_nil]
     exact Trc.done _ _ _; exact rfl; refine thn_n ?_)
    refine Gol.cond_t rfl rfl ?_
    (refine Gol.seq ?_; apply Gol.region; apply Trc.stp rfl rfl rfl; apply s_assign; exact rfl
     dsimp only [Nat.reduceAdd, Nat.reduceMul, List.nil_append]; exact Trc.done _ _ _; exact rfl
     refine thn_n ?_; refine Gol.ret ?_; refine thn_r ?_)
    (apply RetQ.mk (by first | exact .inr rfl | exact .inl rfl); apply res_1 rfl; exact res_tmp rfl; exact out_val)
  | some a =>
    refine Fresh.of (fn := Try.f87) Try.func87 rfl (Nat.le_of_ble_eq_true rfl) fun w => ?_
    (refine Gol.seq ?_; apply Gol.region; apply Trc.stp rfl rfl rfl; apply s_assign; exact rfl
     dsimp only [Nat.reduceAdd, Nat.reduceMul, List.nil_append]; exact Trc.done _ _ _; exact rfl
     refine thn_n ?_; refine Gol.seq ?_; refine Gol.seq ?_; apply Gol.region; apply Trc.stp rfl rfl rfl; apply s_move; exact rfl; dsimp only [Nat.reduceAdd, Nat.reduceMul, List.nil_append]
     apply Trc.stp rfl rfl rfl; apply s_eqNilV; exact rfl; dsimp only [Nat.reduceAdd, Nat.reduceMul, Nat.reduceSub, List.nil_append, List.cons_append, nbk, List.map_cons, List.map_nil]
     exact Trc.done _ _ _; exact rfl; refine thn_n ?_)
    refine Gol.cond_f rfl rfl ?_
    (refine Gol.skip ?_; refine thn_n ?_; refine Gol.seq ?_; apply Gol.region; apply Trc.stp rfl rfl rfl; apply s_lit; exact PA.nil; exact rfl; omega; dsimp only [Nat.reduceAdd, Nat.reduceMul, Nat.reduceSub, List.nil_append, List.cons_append, nbk, List.map_cons, List.map_nil]
     apply Trc.stp rfl rfl rfl; apply s_move; exact rfl; dsimp only [Nat.reduceAdd, Nat.reduceMul, List.nil_append]
     apply Trc.stp rfl rfl rfl; apply s_app; exact rfl; exact rfl; exact rfl; exact rd_empty; exact rfl; exact rfl; exact rfl; exact rfl; exact Nat.le_of_ble_eq_true rfl
     dsimp only [Nat.reduceAdd, Nat.reduceMul, Nat.reduceSub, List.nil_append, List.cons_append, nbk, List.map_cons, List.map_nil]; apply Trc.stp rfl rfl rfl; apply s_assign; exact rfl; dsimp only [Nat.reduceAdd, Nat.reduceMul, List.nil_append]
     exact Trc.done _ _ _; exact rfl; refine thn_n ?_; refine Gol.ret ?_)
    (apply RetQ.mk (by first | exact .inr rfl | exact .inl rfl); apply res_1 rfl; exact res_tmp rfl; exact out_sl rfl)
theorem cloneD_ok (l : List Dl) (fl : Bool) (hl : l.length ≤ 100000000) : Fresh Try.prog 87 [.ex l.length fl (dsA l)] (fun k => .sl k l.length) [⟨dsA l, 43, 11⟩] := by
  by_cases h : l = []
  · subst h
    exact ex_nil_split (fun A c => cloneD_v A c)
  · have hll : 0 < l.length := List.length_pos_iff.2 h
    have hlen : (dsA l).length = l.length * 11 := dsA_length l
    have hne : dsA l ≠ [] := fun e => by rw [e] at hlen; simp at hlen; omega
    refine Fresh.of (fn := Try.f87) Try.func87 rfl (Nat.le_of_ble_eq_true rfl) fun w => ?_
    (refine Gol.seq ?_; apply Gol.region; apply Trc.stp rfl rfl rfl; apply s_assign; exact rfl
     dsimp only [Nat.reduceAdd, Nat.reduceMul, List.nil_append]; exact Trc.done _ _ _; exact rfl
     refine thn_n ?_; refine Gol.seq ?_; refine Gol.seq ?_; apply Gol.region; apply Trc.stp rfl rfl rfl; apply s_move; exact rfl; dsimp only [Nat.reduceAdd, Nat.reduceMul, List.nil_append]
     apply Trc.stp rfl rfl rfl; apply s_eqNilE; exact rfl; exact hne; dsimp only [Nat.reduceAdd, Nat.reduceMul, Nat.reduceSub, List.nil_append, List.cons_append, nbk, List.map_cons, List.map_nil]
     exact Trc.done _ _ _; exact rfl; refine thn_n ?_)
    refine Gol.cond_f rfl rfl ?_
    (refine Gol.skip ?_; refine thn_n ?_; refine Gol.seq ?_; apply Gol.region; apply Trc.stp rfl rfl rfl; apply s_lit; exact PA.nil; exact rfl; omega; dsimp only [Nat.reduceAdd, Nat.reduceMul, Nat.reduceSub, List.nil_append, List.cons_append, nbk, List.map_cons, List.map_nil]
     apply Trc.stp rfl rfl rfl; apply s_move; exact rfl; dsimp only [Nat.reduceAdd, Nat.reduceMul, List.nil_append]
     apply Trc.stp rfl rfl rfl; apply s_app; exact rfl; exact rfl; exact rfl; apply rd_ex; assumption; rfl; exact rfl; exact rfl
     exact OneL.one; omega; dsimp only [Nat.reduceAdd, Nat.reduceMul, Nat.reduceSub, List.nil_append, List.cons_append, nbk, List.map_cons, List.map_nil]; apply Trc.stp rfl rfl rfl; apply s_assign; exact rfl; dsimp only [Nat.reduceAdd, Nat.reduceMul, List.nil_append]
     exact Trc.done _ _ _; exact rfl; refine thn_n ?_; refine Gol.ret ?_)
    simp only [Nat.zero_add, List.nil_append]
    (apply RetQ.mk (by first | exact .inr rfl | exact .inl rfl); apply res_1 rfl; exact res_tmp rfl; exact out_sl rfl)
theorem cloneL_v (A : Option Addr) (c : Nat) : Fresh Try.prog 89 [.v (.slice A 0 c)] (fun k => .sl k 0) [⟨lsA [], 77, 19⟩] := by
  cases A with
  | none =>
    apply Fresh.nilV
    refine Fresh.of (fn := Try.f89) Try.func89 rfl (Nat.le_of_ble_eq_true rfl) fun w => ?_
    (refine Gol.seq ?_; apply Gol.region; apply Trc.stp rfl rfl rfl; apply s_assign; exact rfl
     dsimp only [Nat.reduceAdd, Nat.reduceMul, List.nil_append]; exact Trc.done _ _ _; exact rfl
     refine thn_n ?_; refine Gol.seq ?_; refine Gol.seq ?_; apply Gol.region; apply Trc.stp rfl rfl rfl; apply s_move; exact rfl; dsimp only [Nat.reduceAdd, Nat.reduceMul, List.nil_append]
     apply Trc.stp rfl rfl rfl; apply s_eqNilV; exact rfl; dsimp only [Nat.reduceAdd, Nat.reduceMul, Nat.reduceSub, List.nil_append, List.cons_append, nbk, List.map_cons, List.map_nil]
     exact Trc.done _ _ _; exact rfl; refine thn_n ?_)
    refine Gol.cond_t rfl rfl ?_
    (refine Gol.seq ?_; apply Gol.region; apply Trc.stp rfl rfl rfl; apply s_assign; exact rfl
     dsimp only [Nat.reduceAdd, Nat.reduceMul, List.nil_append]; exact Trc.done _ _ _; exact rfl
     refine thn_n ?_; refine Gol.ret ?_; refine thn_r ?_)
    (apply RetQ.mk (by first | exact .inr rfl | exact .inl rfl); apply res_1 rfl; exact res_tmp rfl; exact out_val)
  | some a =>
    refine Fresh.of (fn := Try.f89) Try.func89 rfl (Nat.le_of_ble_eq_true rfl) fun w => ?_
    (refine Gol.seq ?_; apply Gol.region; apply Trc.stp rfl rfl rfl; apply s_assign; exact rfl
     dsimp only [Nat.reduceAdd, Nat.reduceMul, List.nil_append]; exact Trc.done _ _ _; exact rfl
     refine thn_n ?_; refine Gol.seq ?_; refine Gol.seq ?_; apply Gol.region; apply Trc.stp rfl rfl rfl; apply s_move; exact rfl; dsimp only [Nat.reduceAdd, Nat.reduceMul, List.nil_append]
     apply Trc.stp rfl rfl rfl; apply s_eqNilV; exact rfl; dsimp only [Nat.reduceAdd, Nat.reduceMul, Nat.reduceSub, List.nil_append, List.cons_append, nbk, List.map_cons, List.map_nil]
     exact Trc.done _ _ _; exact rfl; refine thn_n ?_)
    refine Gol.cond_f rfl rfl ?_
    (refine Gol.skip ?_; refine thn_n ?_; refine Gol.seq ?_; apply Gol.region; apply Trc.stp rfl rfl rfl; apply s_lit; exact PA.nil; exact rfl; omega; dsimp only [Nat.reduceAdd, Nat.reduceMul, Nat.reduceSub, List.nil_append, List.cons_append, nbk, List.map_cons, List.map_nil]
     apply Trc.stp rfl rfl rfl; apply s_move; exact rfl; dsimp only [Nat.reduceAdd, Nat.reduceMul, List.nil_append]
     apply Trc.stp rfl rfl rfl; apply s_app; exact rfl; exact rfl; exact rfl; exact rd_empty; exact rfl; exact rfl; exact rfl; exact rfl; exact Nat.le_of_ble_eq_true rfl
     dsimp only [Nat.reduceAdd, Nat.reduceMul, Nat.reduceSub, List.nil_append, List.cons_append, nbk, List.map_cons, List.map_nil]; apply Trc.stp rfl rfl rfl; apply s_assign; exact rfl; dsimp only [Nat.reduceAdd, Nat.reduceMul, List.nil_append]
     exact Trc.done _ _ _; exact rfl; refine thn_n ?_; refine Gol.ret ?_)
    (apply RetQ.mk (by first | exact .inr rfl | exact .inl rfl); apply res_1 rfl; exact res_tmp rfl; exact out_sl rfl)
theorem cloneL_ok (l : List Lk) (fl : Bool) (hl : l.length ≤ 100000000) : Fresh Try.prog 89 [.ex l.length fl (lsA l)] (fun k => .sl k l.length) [⟨lsA l, 77, 19⟩] := by
  by_cases h : l = []
  · subst h
    exact ex_nil_split (fun A c => cloneL_v A c)
  · have hll : 0 < l.length := List.length_pos_iff.2 h
    have hlen : (lsA l).length = l.length * 19 := lsA_length l
    have hne : lsA l ≠ [] := fun e => by rw [e] at hlen; simp at hlen; omega
    refine Fresh.of (fn := Try.f89) Try.func89 rfl (Nat.le_of_ble_eq_true rfl) fun w => ?_
    (refine Gol.seq ?_; apply Gol.region; apply Trc.stp rfl rfl rfl; apply s_assign; exact rfl
     dsimp only [Nat.reduceAdd, Nat.reduceMul, List.nil_append]; exact Trc.done _ _ _; exact rfl
     refine thn_n ?_; refine Gol.seq ?_; refine Gol.seq ?_; apply Gol.region; apply Trc.stp rfl rfl rfl; apply s_move; exact rfl; dsimp only [Nat.reduceAdd, Nat.reduceMul, List.nil_append]
     apply Trc.stp rfl rfl rfl; apply s_eqNilE; exact rfl; exact hne; dsimp only [Nat.reduceAdd, Nat.reduceMul, Nat.reduceSub, List.nil_append, List.cons_append, nbk, List.map_cons, List.map_nil]
     exact Trc.done _ _ _; exact rfl; refine thn_n ?_)
    refine Gol.cond_f rfl rfl ?_
    (refine Gol.skip ?_; refine thn_n ?_; refine Gol.seq ?_; apply Gol.region; apply Trc.stp rfl rfl rfl; apply s_lit; exact PA.nil; exact rfl; omega; dsimp only [Nat.reduceAdd, Nat.reduceMul, Nat.reduceSub, List.nil_append, List.cons_append, nbk, List.map_cons, List.map_nil]
     apply Trc.stp rfl rfl rfl; apply s_move; exact rfl; dsimp only [Nat.reduceAdd, Nat.reduceMul, List.nil_append]
     apply Trc.stp rfl rfl rfl; apply s_app; exact rfl; exact rfl; exact rfl; apply rd_ex; assumption; rfl; exact rfl; exact rfl
     exact OneL.one; omega; dsimp only [Nat.reduceAdd, Nat.reduceMul, Nat.reduceSub, List.nil_append, List.cons_append, nbk, List.map_cons, List.map_nil]; apply Trc.stp rfl rfl rfl; apply s_assign; exact rfl; dsimp only [Nat.reduceAdd, Nat.reduceMul, List.nil_append]
     exact Trc.done _ _ _; exact rfl; refine thn_n ?_; refine Gol.ret ?_)
    simp only [Nat.zero_add, List.nil_append]
    (apply RetQ.mk (by first | exact .inr rfl | exact .inl rfl); apply res_1 rfl; exact res_tmp rfl; exact out_sl rfl)
theorem cloneN_v (A : Option Addr) (c : Nat) : Fresh Try.prog 90 [.v (.slice A 0 c)] (fun k => .sl k 0) [⟨byA (flat []), 23, 8⟩] := by
  cases A with
  | none =>
    apply Fresh.nilV
    refine Fresh.of (fn := Try.f90) Try.func90 rfl (Nat.le_of_ble_eq_true rfl) fun w => ?_
    (refine Gol.seq ?_; apply Gol.region; apply Trc.stp rfl rfl rfl; apply s_assign; exact rfl
     dsimp only [Nat.reduceAdd, Nat.reduceMul, List.nil_append]; exact Trc.done _ _ _; exact rfl
     refine thn_n ?_; refine Gol.seq ?_; refine Gol.seq ?_; apply Gol.region; apply Trc.stp rfl rfl rfl; apply s_move; exact rfl; dsimp only [Nat.reduceAdd, Nat.reduceMul, List.nil_append]
     apply Trc.stp rfl rfl rfl; apply s_eqNilV; exact rfl; dsimp only [Nat.reduceAdd, Nat.reduceMul, Nat.reduceSub, List.nil_append, List.cons_append, nbk, List.map_cons, List.map_nil]
     exact Trc.done _ _ _; exact rfl; refine thn_n ?_)
    refine Gol.cond_t rfl rfl ?_
    (refine Gol.seq ?_; apply Gol.region; apply Trc.stp rfl rfl rfl; apply s_assign; exact rfl
     dsimp only [Nat.reduceAdd, Nat.reduceMul, List.nil_append]; exact Trc.done _ _ _; exact rfl
     refine thn_n ?_; refine Gol.ret ?_; refine thn_r ?_)
    (apply RetQ.mk (by first | exact .inr rfl | exact .inl rfl); apply res_1 rfl; exact res_tmp rfl; exact out_val)
  | some a =>
    refine Fresh.of (fn := Try.f90) Try.func90 rfl (Nat.le_of_ble_eq_true rfl) fun w => ?_
    (refine Gol.seq ?_; apply Gol.region; apply Trc.stp rfl rfl rfl; apply s_assign; exact rfl
     dsimp only [Nat.reduceAdd, Nat.reduceMul, List.nil_append]; exact Trc.done _ _ _; exact rfl
     refine thn_n ?_; refine Gol.seq ?_; refine Gol.seq ?_; apply Gol.region; apply Trc.stp rfl rfl rfl; apply s_move; exact rfl; dsimp only [Nat.reduceAdd, Nat.reduceMul, List.nil_append]
     apply Trc.stp rfl rfl rfl; apply s_eqNilV; exact rfl; dsimp only [Nat.reduceAdd, Nat.reduceMul, Nat.reduceSub, List.nil_append, List.cons_append, nbk, List.map_cons, List.map_nil]
     exact Trc.done _ _ _; exact rfl; refine thn_n ?_)
    refine Gol.cond_f rfl rfl ?_
    (refine Gol.skip ?_; refine thn_n ?_; refine Gol.seq ?_; apply Gol.region; apply Trc.stp rfl rfl rfl; apply s_lit; exact PA.nil; exact rfl; omega; dsimp only [Nat.reduceAdd, Nat.reduceMul, Nat.reduceSub, List.nil_append, List.cons_append, nbk, List.map_cons, List.map_nil]
     apply Trc.stp rfl rfl rfl; apply s_move; exact rfl; dsimp only [Nat.reduceAdd, Nat.reduceMul, List.nil_append]
     apply Trc.stp rfl rfl rfl; apply s_app; exact rfl; exact rfl; exact rfl; exact rd_empty; exact rfl; exact rfl; exact rfl; exact rfl; exact Nat.le_of_ble_eq_true rfl
     dsimp only [Nat.reduceAdd, Nat.reduceMul, Nat.reduceSub, List.nil_append, List.cons_append, nbk, List.map_cons, List.map_nil]; apply Trc.stp rfl rfl rfl; apply s_assign; exact rfl; dsimp only [Nat.reduceAdd, Nat.reduceMul, List.nil_append]
     exact Trc.done _ _ _; exact rfl; refine thn_n ?_; refine Gol.ret ?_)
    (apply RetQ.mk (by first | exact .inr rfl | exact .inl rfl); apply res_1 rfl; exact res_tmp rfl; exact out_sl rfl)
theorem cloneN_ok (l : List UInt64) (fl : Bool) (hl : l.length ≤ 100000000) : Fresh Try.prog 90 [.ex l.length fl (byA (flat l))] (fun k => .sl k l.length) [⟨byA (flat l), 23, 8⟩] := by
  by_cases h : l = []
  · subst h
    exact ex_nil_split (fun A c => cloneN_v A c)
  · have hll : 0 < l.length := List.length_pos_iff.2 h
    have hlen : (byA (flat l)).length = l.length * 8 := nsA_length l
    have hne : byA (flat l) ≠ [] := fun e => by rw [e] at hlen; simp at hlen; omega
    refine Fresh.of (fn := Try.f90) Try.func90 rfl (Nat.le_of_ble_eq_true rfl) fun w => ?_
    (refine Gol.seq ?_; apply Gol.region; apply Trc.stp rfl rfl rfl; apply s_assign; exact rfl
     dsimp only [Nat.reduceAdd, Nat.reduceMul, List.nil_append]; exact Trc.done _ _ _; exact rfl
     refine thn_n ?_; refine Gol.seq ?_; refine Gol.seq ?_; apply Gol.region; apply Trc.stp rfl rfl rfl; apply s_move; exact rfl; dsimp only [Nat.reduceAdd, Nat.reduceMul, List.nil_append]
     apply Trc.stp rfl rfl rfl; apply s_eqNilE; exact rfl; exact hne; dsimp only [Nat.reduceAdd, Nat.reduceMul, Nat.reduceSub, List.nil_append, List.cons_append, nbk, List.map_cons, List.map_nil]
     exact Trc.done _ _ _; exact rfl; refine thn_n ?_)
    refine Gol.cond_f rfl rfl ?_
    (refine Gol.skip ?_; refine thn_n ?_; refine Gol.seq ?_; apply Gol.region; apply Trc.stp rfl rfl rfl; apply s_lit; exact PA.nil; exact rfl; omega; dsimp only [Nat.reduceAdd, Nat.reduceMul, Nat.reduceSub, List.nil_append, List.cons_append, nbk, List.map_cons, List.map_nil]
     apply Trc.stp rfl rfl rfl; apply s_move; exact rfl; dsimp only [Nat.reduceAdd, Nat.reduceMul, List.nil_append]
     apply Trc.stp rfl rfl rfl; apply s_app; exact rfl; exact rfl; exact rfl; apply rd_ex; assumption; rfl; exact rfl; exact rfl
     exact OneL.one; omega; dsimp only [Nat.reduceAdd, Nat.reduceMul, Nat.reduceSub, List.nil_append, List.cons_append, nbk, List.map_cons, List.map_nil]; apply Trc.stp rfl rfl rfl; apply s_assign; exact rfl; dsimp only [Nat.reduceAdd, Nat.reduceMul, List.nil_append]
     exact Trc.done _ _ _; exact rfl; refine thn_n ?_; refine Gol.ret ?_)
    simp only [Nat.zero_add, List.nil_append]
    (apply RetQ.mk (by first | exact .inr rfl | exact .inl rfl); apply res_1 rfl; exact res_tmp rfl; exact out_sl rfl)
theorem cloneI_v (A : Option Addr) (c : Nat) : Fresh Try.prog 88 [.v (.slice A 0 c)] (fun k => .sl k 0) [⟨inA [], 3, 1⟩] := by
  cases A with
  | none =>
    apply Fresh.nilV
    refine Fresh.of (fn := Try.f88) Try.func88 rfl (Nat.le_of_ble_eq_true rfl) fun w => ?_
    (refine Gol.seq ?_; apply Gol.region; apply Trc.stp rfl rfl rfl; apply s_assign; exact rfl
     dsimp only [Nat.reduceAdd, Nat.reduceMul, List.nil_append]; exact Trc.done _ _ _; exact rfl
     refine thn_n ?_; refine Gol.seq ?_; refine Gol.seq ?_; apply Gol.region; apply Trc.stp rfl rfl rfl; apply s_move; exact rfl; dsimp only [Nat.reduceAdd, Nat.reduceMul, List.nil_append]
     apply Trc.stp rfl rfl rfl; apply s_eqNilV; exact rfl; dsimp only [Nat.reduceAdd, Nat.reduceMul, Nat.reduceSub, List.nil_append, List.cons_append, nbk, List.map_cons, List.map_nil]
     exact Trc.done _ _ _; exact rfl; refine thn_n ?_)
    refine Gol.cond_t rfl rfl ?_
    (refine Gol.seq ?_; apply Gol.region; apply Trc.stp rfl rfl rfl; apply s_assign; exact rfl
     dsimp only [Nat.reduceAdd, Nat.reduceMul, List.nil_append]; exact Trc.done _ _ _; exact rfl
     refine thn_n ?_; refine Gol.ret ?_; refine thn_r ?_)
    (apply RetQ.mk (by first | exact .inr rfl | exact .inl rfl); apply res_1 rfl; exact res_tmp rfl; exact out_val)
  | some a =>
    refine Fresh.of (fn := Try.f88) Try.func88 rfl (Nat.le_of_ble_eq_true rfl) fun w => ?_
    (refine Gol.seq ?_; apply Gol.region; apply Trc.stp rfl rfl rfl; apply s_assign; exact rfl
     dsimp only [Nat.reduceAdd, Nat.reduceMul, List.nil_append]; exact Trc.done _ _ _; exact rfl
     refine thn_n ?_; refine Gol.seq ?_; refine Gol.seq ?_; apply Gol.region; apply Trc.stp rfl rfl rfl; apply s_move; exact rfl; dsimp only [Nat.reduceAdd, Nat.reduceMul, List.nil_append]
     apply Trc.stp rfl rfl rfl; apply s_eqNilV; exact rfl; dsimp only [Nat.reduceAdd, Nat.reduceMul, Nat.reduceSub, List.nil_append, List.cons_append, nbk, List.map_cons, List.map_nil]
     exact Trc.done _ _ _; exact rfl; refine thn_n ?_)
    refine Gol.cond_f rfl rfl ?_
    (refine Gol.skip ?_; refine thn_n ?_; refine Gol.seq ?_; apply Gol.region; apply Trc.stp rfl rfl rfl; apply s_bytesP; exact PV.nil; exact rfl; omega; dsimp only [Nat.reduceAdd, Nat.reduceMul, Nat.reduceSub, List.nil_append, List.cons_append, nbk, List.map_cons, List.map_nil]
     apply Trc.stp rfl rfl rfl; apply s_move; exact rfl; dsimp only [Nat.reduceAdd, Nat.reduceMul, List.nil_append]
     apply Trc.stp rfl rfl rfl; apply s_app; exact rfl; exact rfl; exact rfl; exact rd_empty; exact rfl; exact rfl; exact rfl; exact rfl; exact Nat.le_of_ble_eq_true rfl
     dsimp only [Nat.reduceAdd, Nat.reduceMul, Nat.reduceSub, List.nil_append, List.cons_append, nbk, List.map_cons, List.map_nil]; apply Trc.stp rfl rfl rfl; apply s_assign; exact rfl; dsimp only [Nat.reduceAdd, Nat.reduceMul, List.nil_append]
     exact Trc.done _ _ _; exact rfl; refine thn_n ?_; refine Gol.ret ?_)
    (apply RetQ.mk (by first | exact .inr rfl | exact .inl rfl); apply res_1 rfl; exact res_tmp rfl; exact out_sl rfl)
theorem cloneI_ok (l : List Int) (fl : Bool) (hl : l.length ≤ 100000000) : Fresh Try.prog 88 [.ex l.length fl (inA l)] (fun k => .sl k l.length) [⟨inA l, 3, 1⟩] := by
  by_cases h : l = []
  · subst h
    exact ex_nil_split (fun A c => cloneI_v A c)
  · have hll : 0 < l.length := List.length_pos_iff.2 h
    have hlen : (inA l).length = l.length * 1 := inA_length1 l
    have hne : inA l ≠ [] := fun e => by rw [e] at hlen; simp at hlen; omega
    refine Fresh.of (fn := Try.f88) Try.func88 rfl (Nat.le_of_ble_eq_true rfl) fun w => ?_
    (refine Gol.seq ?_; apply Gol.region; apply Trc.stp rfl rfl rfl; apply s_assign; exact rfl
     dsimp only [Nat.reduceAdd, Nat.reduceMul, List.nil_append]; exact Trc.done _ _ _; exact rfl
     refine thn_n ?_; refine Gol.seq ?_; refine Gol.seq ?_; apply Gol.region; apply Trc.stp rfl rfl rfl; apply s_move; exact rfl; dsimp only [Nat.reduceAdd, Nat.reduceMul, List.nil_append]
     apply Trc.stp rfl rfl rfl; apply s_eqNilE; exact rfl; exact hne; dsimp only [Nat.reduceAdd, Nat.reduceMul, Nat.reduceSub, List.nil_append, List.cons_append, nbk, List.map_cons, List.map_nil]
     exact Trc.done _ _ _; exact rfl; refine thn_n ?_)
    refine Gol.cond_f rfl rfl ?_
    (refine Gol.skip ?_; refine thn_n ?_; refine Gol.seq ?_; apply Gol.region; apply Trc.stp rfl rfl rfl; apply s_bytesP; exact PV.nil; exact rfl; omega; dsimp only [Nat.reduceAdd, Nat.reduceMul, Nat.reduceSub, List.nil_append, List.cons_append, nbk, List.map_cons, List.map_nil]
     apply Trc.stp rfl rfl rfl; apply s_move; exact rfl; dsimp only [Nat.reduceAdd, Nat.reduceMul, List.nil_append]
     apply Trc.stp rfl rfl rfl; apply s_app; exact rfl; exact rfl; exact rfl; apply rd_ex; assumption; rfl; exact rfl; exact rfl
     exact OneL.one; omega; dsimp only [Nat.reduceAdd, Nat.reduceMul, Nat.reduceSub, List.nil_append, List.cons_append, nbk, List.map_cons, List.map_nil]; apply Trc.stp rfl rfl rfl; apply s_assign; exact rfl; dsimp only [Nat.reduceAdd, Nat.reduceMul, List.nil_append]
     exact Trc.done _ _ _; exact rfl; refine thn_n ?_; refine Gol.ret ?_)
    simp only [Nat.zero_add, List.nil_append]
    (apply RetQ.mk (by first | exact .inr rfl | exact .inl rfl); apply res_1 rfl; exact res_tmp rfl; exact out_sl rfl)
end Go.Proofs.Ytkkeeokeihkagaa

/-
  Go's slices.Insert and Delete at an element type of layer 21. Conditions: lengths below 2^27.
-/
namespace Go.Proofs.Ytkkeeokeihkagaa
open Go.RowKit

instance ovD : OvI Try.prog 93 29 := ⟨⟨4, fun args w => run_callFunc_extern Try.func93 (by kernel_rfl) (by kernel_rfl) (by kernel_rfl) (e := Extern.SlicesOverlaps.overlaps #[29, 29] #[4]) (by kernel_rfl) args w⟩⟩
theorem insD_cells (l : List Dl) (x : Dl) (i : Nat) (hi : i ≤ l.length) : dsA (l.take i ++ x :: l.drop i) = (dsA l).take (i * 11) ++ dA x ++ (dsA l).drop (i * 11) := by
  rw [dsA_append, dsA_cons, dsA_take, dsA_drop, List.append_assoc]
theorem insD_ok (l : List Dl) (x : Dl) (i : Nat) (hi : i ≤ l.length) (hl : l.length ≤ 100000000) : Turns Try.prog 46 [⟨dsA l, 43, 11⟩, ⟨dA x, 43, 11⟩] [.sl 0 l.length, .v (.int .i64 (i : Int)), .sl 1 1] (fun k => .sl k (l.length + 1)) [⟨dsA (l.take i ++ x :: l.drop i), 43, 11⟩] := by
  rw [insD_cells l x i hi]
  have hlen : (dsA l).length = l.length * 11 := dsA_length l
  have hones : (dsA l).all AV.one = true := dsA_ones l
  have hV : CloL (dsA l) := inferInstance
  have hW : ValL (dsA l) := inferInstance
  have hWt : ValL ((dsA l).take (i * 11)) := by rw [dsA_take]; infer_instance
  have hWd : ValL ((dsA l).drop (i * 11)) := by rw [dsA_drop]; infer_instance
  generalize dsA l = cs at hlen hones hV hW hWt hWd
  generalize l.length = n at hlen hi hl
  have he : (dA x).length = 11 := dA_length x
  have hd1 : (cs.drop (i * 11)).all AV.one = true := List.all_eq_true.2 fun y hy => List.all_eq_true.1 hones y (List.mem_of_mem_drop hy)
  have hd1l : (cs.drop (i * 11)).length = (n - i) * 11 := by rw [List.length_drop, hlen, ← Nat.sub_mul]
  refine Turns.of (fn := Try.f46) Try.func46 rfl (Nat.le_of_ble_eq_true rfl) (Nat.le_of_ble_eq_true rfl) fun w M => ?_
  dsimp only [nbk, Nat.reduceAdd]
  (refine Gol.seq ?_; apply Gol.region; apply Trc.stp rfl rfl rfl; apply s_assign; exact rfl
   dsimp only [Nat.reduceAdd, Nat.reduceMul, List.nil_append]; exact Trc.done _ _ _; exact rfl
   refine thn_n ?_; refine Gol.seq ?_; apply Gol.region; apply Trc.stp rfl rfl rfl; apply s_move
   exact rfl; dsimp only [Nat.reduceAdd, Nat.reduceMul, List.nil_append]; apply Trc.stp rfl rfl rfl; apply s_move; exact rfl; dsimp only [Nat.reduceAdd, Nat.reduceMul, List.nil_append]
   apply Trc.stp rfl rfl rfl; apply s_slL; exact rfl; exact ⟨_, rfl⟩; exact rfl; omega; omega; exact rfl; dsimp only [Nat.reduceAdd, Nat.reduceMul, Nat.reduceSub, List.nil_append, List.cons_append, nbk, List.map_cons, List.map_nil]
   exact Trc.done _ _ _; exact rfl; refine thn_n ?_; refine Gol.seq ?_; apply Gol.region; apply Trc.stp rfl rfl rfl; apply s_move; exact rfl; dsimp only [Nat.reduceAdd, Nat.reduceMul, List.nil_append]
   apply Trc.stp rfl rfl rfl; apply s_len; exact rfl; exact ln_sl; dsimp only [Nat.reduceAdd, Nat.reduceMul, List.nil_append]
   apply Trc.stp rfl rfl rfl; apply s_assign; exact rfl; dsimp only [Nat.reduceAdd, Nat.reduceMul, List.nil_append]
   exact Trc.done _ _ _; exact rfl; refine thn_n ?_; refine Gol.seq ?_; refine Gol.seq ?_; apply Gol.region
   apply Trc.stp rfl rfl rfl; apply s_move; exact rfl; dsimp only [Nat.reduceAdd, Nat.reduceMul, List.nil_append]
   apply Trc.stp rfl rfl rfl; apply s_eqn; exact rfl; exact rfl; dsimp only [Nat.reduceAdd, Nat.reduceMul, List.nil_append]
   exact Trc.done _ _ _; exact rfl; refine thn_n ?_)
  refine Gol.cond_f rfl (by decide) ?_
  (refine Gol.skip ?_; refine thn_n ?_; refine Gol.seq ?_; apply Gol.region; apply Trc.stp rfl rfl rfl; apply s_move; exact rfl; dsimp only [Nat.reduceAdd, Nat.reduceMul, List.nil_append]
   apply Trc.stp rfl rfl rfl; apply s_len; exact rfl; exact ln_sl; dsimp only [Nat.reduceAdd, Nat.reduceMul, List.nil_append]
   apply Trc.stp rfl rfl rfl; apply s_assign; exact rfl; dsimp only [Nat.reduceAdd, Nat.reduceMul, List.nil_append]
   exact Trc.done _ _ _; exact rfl; refine thn_n ?_; refine Gol.seq ?_; refine Gol.seq ?_; apply Gol.region
   apply Trc.stp rfl rfl rfl; apply s_move; exact rfl; dsimp only [Nat.reduceAdd, Nat.reduceMul, List.nil_append]
   apply Trc.stp rfl rfl rfl; apply s_move; exact rfl; dsimp only [Nat.reduceAdd, Nat.reduceMul, List.nil_append]
   apply Trc.stp rfl rfl rfl; apply s_eqn; exact rfl; exact rfl; dsimp only [Nat.reduceAdd, Nat.reduceMul, List.nil_append]
   exact Trc.done _ _ _; exact rfl; refine thn_n ?_)
  refine Gol.cond rfl (fun h => ?_) (fun h => ?_)
  · have e : i = n := of_decide_eq_true h
    subst e
    rw [List.take_of_length_le (by omega), List.drop_of_length_le (by omega), List.append_nil]
    (refine Gol.seq ?_; apply Gol.region; apply Trc.stp rfl rfl rfl; apply s_move; exact rfl
     dsimp only [Nat.reduceAdd, Nat.reduceMul, List.nil_append]; apply Trc.stp rfl rfl rfl; apply s_move; exact rfl; dsimp only [Nat.reduceAdd, Nat.reduceMul, List.nil_append]
     apply Trc.stp rfl rfl rfl; apply s_app; exact rfl; exact rfl; exact rfl; apply rd_sl rfl; rfl; assumption; exact rfl; exact rfl
     rfl; omega; dsimp only [Nat.reduceAdd, Nat.reduceMul, Nat.reduceSub, List.nil_append, List.cons_append, nbk, List.map_cons, List.map_nil]; apply Trc.stp rfl rfl rfl; apply s_assign; exact rfl; dsimp only [Nat.reduceAdd, Nat.reduceMul, List.nil_append]
     exact Trc.done _ _ _; exact rfl; refine thn_n ?_; refine Gol.ret ?_; refine thn_r ?_)
    (apply RetT.mk (by first | exact .inr rfl | exact .inl rfl); apply res_1 rfl; exact res_tmp rfl; apply out_ids [144] rfl; apply OBs.cons; exact rfl; exact inferInstance
     exact OBs.nil; intro k; exact Ot.sl (j := 0) rfl)
  have hin : ¬ i = n := of_decide_eq_false h
  have hlt : i < n := by omega
  refine Gol.cap (i := 0) rfl fun cc hcc => ?_
  (refine Gol.skip ?_; refine thn_n ?_; refine Gol.seq ?_; refine Gol.seq ?_; apply Gol.region
   apply Trc.stp rfl rfl rfl; apply s_move; exact rfl; dsimp only [Nat.reduceAdd, Nat.reduceMul, List.nil_append]
   apply Trc.stp rfl rfl rfl; apply s_move; exact rfl; dsimp only [Nat.reduceAdd, Nat.reduceMul, List.nil_append]
   apply Trc.stp rfl rfl rfl; apply s_addn; exact rfl; exact rfl; omega; dsimp only [Nat.reduceAdd, Nat.reduceMul, List.nil_append]
   apply Trc.stp rfl rfl rfl; apply s_move; exact rfl; dsimp only [Nat.reduceAdd, Nat.reduceMul, List.nil_append]
   apply Trc.stp rfl rfl rfl; apply s_cap; exact rfl; dsimp only [Nat.reduceAdd, Nat.reduceMul, Nat.reduceSub, List.nil_append, List.cons_append, nbk, List.map_cons, List.map_nil]
   apply Trc.stp rfl rfl rfl; apply s_gtn; exact rfl; exact rfl; dsimp only [Nat.reduceAdd, Nat.reduceMul, List.nil_append]
   exact Trc.done _ _ _; exact rfl; refine thn_n ?_)
  refine Gol.cond rfl (fun h => ?_) (fun h => ?_)
  · have hroom : cc < n + 1 := of_decide_eq_true h
    (refine Gol.seq ?_; apply Gol.region; apply Trc.stp rfl rfl rfl; apply s_move; exact rfl
     dsimp only [Nat.reduceAdd, Nat.reduceMul, List.nil_append]; apply Trc.stp rfl rfl rfl; apply s_move; exact rfl; dsimp only [Nat.reduceAdd, Nat.reduceMul, List.nil_append]
     apply Trc.stp rfl rfl rfl; apply s_slC; exact rfl; exact ⟨_, rfl⟩; omega; exact rfl; dsimp only [Nat.reduceAdd, Nat.reduceMul, Nat.reduceSub, List.nil_append, List.cons_append, nbk, List.map_cons, List.map_nil]
     apply Trc.stp rfl rfl rfl; apply s_move; exact rfl; dsimp only [Nat.reduceAdd, Nat.reduceMul, List.nil_append]
     apply Trc.stp rfl rfl rfl; apply s_move; exact rfl; dsimp only [Nat.reduceAdd, Nat.reduceMul, List.nil_append]
     apply Trc.stp rfl rfl rfl; apply s_addn; exact rfl; exact rfl; omega; dsimp only [Nat.reduceAdd, Nat.reduceMul, List.nil_append]
     apply Trc.stp rfl rfl rfl; apply s_move; exact rfl; dsimp only [Nat.reduceAdd, Nat.reduceMul, List.nil_append]
     apply Trc.stp rfl rfl rfl; apply s_subn; exact rfl; exact rfl; omega; omega; dsimp only [Nat.reduceAdd, Nat.reduceMul, Nat.reduceSub, List.nil_append, List.cons_append, nbk, List.map_cons, List.map_nil]
     apply Trc.stp rfl rfl rfl; apply s_appZ; exact rfl; exact rfl; exact rfl; omega; dsimp only; omega; omega; omega; dsimp only [Nat.reduceAdd, Nat.reduceMul, Nat.reduceSub, List.nil_append, List.cons_append, nbk, List.map_cons, List.map_nil]
     apply Trc.stp rfl rfl rfl; apply s_assign; exact rfl; dsimp only [Nat.reduceAdd, Nat.reduceMul, List.nil_append]
     exact Trc.done _ _ _; exact rfl; refine thn_n ?_; refine Gol.seq ?_)
    have hz := zeroA_len (n := n + 1 - i) (s := 11) (z := (.agg #[.int .i64 0, .int .i64 0, .int .u8 0, .int .u8 0, .int .u8 0, .int .u8 0, .int .u8 0, .int .u8 0, .int .u8 0, .int .u8 0, .int .i64 0])) rfl
    generalize zeroA (.agg #[.int .i64 0, .int .i64 0, .int .u8 0, .int .u8 0, .int .u8 0, .int .u8 0, .int .u8 0, .int .u8 0, .int .u8 0, .int .u8 0, .int .i64 0]) (n + 1 - i) = Z at hz
    have hA : (cs.take (i * 11)).length = i * 11 := by rw [List.length_take]; omega
    (apply Gol.region; apply Trc.stp rfl rfl rfl; apply s_move; exact rfl; dsimp only [Nat.reduceAdd, Nat.reduceMul, List.nil_append]
     apply Trc.stp rfl rfl rfl; apply s_move; exact rfl; dsimp only [Nat.reduceAdd, Nat.reduceMul, List.nil_append]
     apply Trc.stp rfl rfl rfl; apply s_slL; exact rfl; exact ⟨_, rfl⟩; exact rfl; omega; omega; exact rfl; dsimp only [Nat.reduceAdd, Nat.reduceMul, Nat.reduceSub, List.nil_append, List.cons_append, nbk, List.map_cons, List.map_nil]
     apply Trc.stp rfl rfl rfl; apply s_move; exact rfl; dsimp only [Nat.reduceAdd, Nat.reduceMul, List.nil_append]
     apply Trc.stp rfl rfl rfl; apply s_copyN (ds := dA x); exact rfl; exact rfl; exact rfl; apply rd_sl rfl; exact he.trans rfl; omega; exact List.take_of_length_le (by dsimp only; rw [he]; omega)
     dsimp only; rw [List.length_append, hA, he, hz]; omega; exact dA_ones x; dsimp only [Nat.reduceAdd, Nat.reduceMul, Nat.reduceSub, List.nil_append, List.cons_append, nbk, List.map_cons, List.map_nil]
     exact Trc.done _ _ _; exact rfl; refine thn_n ?_; refine Gol.seq ?_)
    rw [spl_mid hA he]
    (apply Gol.any; kernel_rfl; apply Trc.stp rfl rfl rfl; apply s_move; exact rfl; dsimp only [Nat.reduceAdd, Nat.reduceMul, List.nil_append]
     apply Trc.stp rfl rfl rfl; apply s_move; exact rfl; dsimp only [Nat.reduceAdd, Nat.reduceMul, List.nil_append]
     apply Trc.stp rfl rfl rfl; apply s_move; exact rfl; dsimp only [Nat.reduceAdd, Nat.reduceMul, List.nil_append]
     apply Trc.stp rfl rfl rfl; apply s_addn; exact rfl; exact rfl; omega; dsimp only [Nat.reduceAdd, Nat.reduceMul, List.nil_append]
     apply Trc.stp rfl rfl rfl; apply s_slL; exact rfl; exact ⟨_, rfl⟩; exact rfl; omega; omega; exact rfl; dsimp only [Nat.reduceAdd, Nat.reduceMul, Nat.reduceSub, List.nil_append, List.cons_append, nbk, List.map_cons, List.map_nil]
     apply Trc.stp rfl rfl rfl; apply s_move; exact rfl; dsimp only [Nat.reduceAdd, Nat.reduceMul, List.nil_append]
     apply Trc.stp rfl rfl rfl; apply s_move; exact rfl; dsimp only [Nat.reduceAdd, Nat.reduceMul, List.nil_append]
     apply Trc.stp rfl rfl rfl; apply s_slS; exact rfl; exact ⟨_, rfl⟩; exact rfl; omega; omega; exact rfl; dsimp only [Nat.reduceAdd, Nat.reduceMul, Nat.reduceSub, List.nil_append, List.cons_append, nbk, List.map_cons, List.map_nil]
     apply Trc.stp rfl rfl rfl; apply s_copyN (ds := cs.drop (i * 11)); exact rfl; exact rfl; exact rfl; apply rd_sb rfl; dsimp only; omega; omega
     exact take_all (by rw [hd1l]; omega) (by rw [hd1l]; omega); dsimp only; rw [List.length_append, List.length_append, hA, he, hd1l, List.length_drop, hz]
     omega; exact hd1; dsimp only [Nat.reduceAdd, Nat.reduceMul, Nat.reduceSub, List.nil_append, List.cons_append, nbk, List.map_cons, List.map_nil]; exact Trc.done _ _ _
     kernel_rfl; exact rfl; refine thn_n ?_; refine Gol.seq ?_; apply Gol.region; apply Trc.stp rfl rfl rfl; apply s_move; exact rfl; dsimp only [Nat.reduceAdd, Nat.reduceMul, List.nil_append]
     apply Trc.stp rfl rfl rfl; apply s_assign; exact rfl; dsimp only [Nat.reduceAdd, Nat.reduceMul, List.nil_append]
     exact Trc.done _ _ _; exact rfl; refine thn_n ?_; refine Gol.ret ?_; refine thn_r ?_)
    rw [spl_end (by rw [List.length_append, hA, he]; omega) (by rw [List.length_drop, hz, hd1l]; omega), show i + (n + 1 - i) = n + 1 by omega]
    (apply RetT.mk (by first | exact .inr rfl | exact .inl rfl); apply res_1 rfl; exact res_tmp rfl; apply out_ids [240] rfl; apply OBs.cons; exact rfl; exact inferInstance
     exact OBs.nil; intro k; exact Ot.sl (j := 0) rfl)
  · have hroom : ¬ cc < n + 1 := of_decide_eq_false h
    (refine Gol.skip ?_; refine thn_n ?_; refine Gol.seq ?_; apply Gol.region; apply Trc.stp rfl rfl rfl; apply s_move; exact rfl; dsimp only [Nat.reduceAdd, Nat.reduceMul, List.nil_append]
     apply Trc.stp rfl rfl rfl; apply s_move; exact rfl; dsimp only [Nat.reduceAdd, Nat.reduceMul, List.nil_append]
     apply Trc.stp rfl rfl rfl; apply s_move; exact rfl; dsimp only [Nat.reduceAdd, Nat.reduceMul, List.nil_append]
     apply Trc.stp rfl rfl rfl; apply s_addn; exact rfl; exact rfl; omega; dsimp only [Nat.reduceAdd, Nat.reduceMul, List.nil_append]
     apply Trc.stp rfl rfl rfl; apply s_slC; exact rfl; exact ⟨_, rfl⟩; omega; exact rfl; dsimp only [Nat.reduceAdd, Nat.reduceMul, Nat.reduceSub, List.nil_append, List.cons_append, nbk, List.map_cons, List.map_nil]
     apply Trc.stp rfl rfl rfl; apply s_assign; exact rfl; dsimp only [Nat.reduceAdd, Nat.reduceMul, List.nil_append]
     exact Trc.done _ _ _; exact rfl; refine thn_n ?_; refine Gol.seq ?_; refine Gol.seq ?_)
    refine Gol.tail (i := 0) rfl rfl 11 (by dsimp only; omega) fun tail htl => ?_
    dsimp only
    have hZ : (tail.map AV.v).length = 11 := by rw [List.length_map]; exact htl
    have hZc : CloL (tail.map AV.v) := inferInstance
    have hZv : ValL (tail.map AV.v) := inferInstance
    generalize tail.map AV.v = Z at hZ hZc hZv
    (apply Gol.region; apply Trc.stp rfl rfl rfl; apply s_move; exact rfl; dsimp only [Nat.reduceAdd, Nat.reduceMul, List.nil_append]
     apply Trc.stp rfl rfl rfl; apply s_move; exact rfl; dsimp only [Nat.reduceAdd, Nat.reduceMul, List.nil_append]
     apply Trc.stp rfl rfl rfl; apply s_move; exact rfl; dsimp only [Nat.reduceAdd, Nat.reduceMul, List.nil_append]
     apply Trc.stp rfl rfl rfl; apply s_move; exact rfl; dsimp only [Nat.reduceAdd, Nat.reduceMul, List.nil_append]
     apply Trc.stp rfl rfl rfl; apply s_addn; exact rfl; exact rfl; omega; dsimp only [Nat.reduceAdd, Nat.reduceMul, List.nil_append]
     apply Trc.stp rfl rfl rfl; apply s_slS; exact rfl; exact ⟨_, rfl⟩; exact rfl; omega; omega; exact rfl; dsimp only [Nat.reduceAdd, Nat.reduceMul, Nat.reduceSub, List.nil_append, List.cons_append, nbk, List.map_cons, List.map_nil]
     apply Trc.stp rfl rfl rfl; apply s_ovl (f := 93); exact rfl; exact rfl; exact rfl; exact rfl; exact rfl
     exact rfl; dsimp only; omega; dsimp only; rw [List.length_append]; omega; omega; dsimp only [Nat.reduceAdd, Nat.reduceMul, Nat.reduceSub, List.nil_append, List.cons_append, nbk, List.map_cons, List.map_nil]
     apply Trc.stp rfl rfl rfl; apply s_not; exact rfl; dsimp only [Nat.reduceAdd, Nat.reduceMul, List.nil_append]
     exact Trc.done _ _ _; exact rfl; refine thn_n ?_)
    refine Gol.cond_t rfl rfl ?_
    (refine Gol.seq ?_; apply Gol.any; kernel_rfl; apply Trc.stp rfl rfl rfl; apply s_move
     exact rfl; dsimp only [Nat.reduceAdd, Nat.reduceMul, List.nil_append]; apply Trc.stp rfl rfl rfl; apply s_move; exact rfl; dsimp only [Nat.reduceAdd, Nat.reduceMul, List.nil_append]
     apply Trc.stp rfl rfl rfl; apply s_move; exact rfl; dsimp only [Nat.reduceAdd, Nat.reduceMul, List.nil_append]
     apply Trc.stp rfl rfl rfl; apply s_addn; exact rfl; exact rfl; omega; dsimp only [Nat.reduceAdd, Nat.reduceMul, List.nil_append]
     apply Trc.stp rfl rfl rfl; apply s_slS; exact rfl; exact ⟨_, rfl⟩; exact rfl; omega; omega; exact rfl; dsimp only [Nat.reduceAdd, Nat.reduceMul, Nat.reduceSub, List.nil_append, List.cons_append, nbk, List.map_cons, List.map_nil]
     apply Trc.stp rfl rfl rfl; apply s_move; exact rfl; dsimp only [Nat.reduceAdd, Nat.reduceMul, List.nil_append]
     apply Trc.stp rfl rfl rfl; apply s_move; exact rfl; dsimp only [Nat.reduceAdd, Nat.reduceMul, List.nil_append]
     apply Trc.stp rfl rfl rfl; apply s_slS; exact rfl; exact ⟨_, rfl⟩; exact rfl; omega; omega; exact rfl; dsimp only [Nat.reduceAdd, Nat.reduceMul, Nat.reduceSub, List.nil_append, List.cons_append, nbk, List.map_cons, List.map_nil]
     apply Trc.stp rfl rfl rfl; apply s_copyN (ds := cs.drop (i * 11)); exact rfl; exact rfl; exact rfl; apply rd_sb rfl; dsimp only; rw [List.length_append]
     omega; omega; exact take_mid (by omega) (by omega) (by omega); dsimp only; rw [List.length_append, hd1l]; omega; exact hd1; dsimp only [Nat.reduceAdd, Nat.reduceMul, Nat.reduceSub, List.nil_append, List.cons_append, nbk, List.map_cons, List.map_nil]
     exact Trc.done _ _ _; kernel_rfl; exact rfl; refine thn_n ?_; refine Gol.seq ?_)
    (apply Gol.region; apply Trc.stp rfl rfl rfl; apply s_move; exact rfl; dsimp only [Nat.reduceAdd, Nat.reduceMul, List.nil_append]
     apply Trc.stp rfl rfl rfl; apply s_move; exact rfl; dsimp only [Nat.reduceAdd, Nat.reduceMul, List.nil_append]
     apply Trc.stp rfl rfl rfl; apply s_slS; exact rfl; exact ⟨_, rfl⟩; exact rfl; omega; omega; exact rfl; dsimp only [Nat.reduceAdd, Nat.reduceMul, Nat.reduceSub, List.nil_append, List.cons_append, nbk, List.map_cons, List.map_nil]
     apply Trc.stp rfl rfl rfl; apply s_move; exact rfl; dsimp only [Nat.reduceAdd, Nat.reduceMul, List.nil_append]
     apply Trc.stp rfl rfl rfl; apply s_copyN (ds := dA x); exact rfl; exact rfl; exact rfl; apply rd_sl rfl; exact he.trans rfl; omega; exact List.take_of_length_le (by dsimp only; rw [he]; omega)
     dsimp only; rw [spl_length _ _ _ (by rw [List.length_append, hd1l]; omega), List.length_append, he]; omega; exact dA_ones x; dsimp only [Nat.reduceAdd, Nat.reduceMul, Nat.reduceSub, List.nil_append, List.cons_append, nbk, List.map_cons, List.map_nil]
     exact Trc.done _ _ _; exact rfl; refine thn_n ?_; refine Gol.seq ?_; apply Gol.region; apply Trc.stp rfl rfl rfl; apply s_move; exact rfl; dsimp only [Nat.reduceAdd, Nat.reduceMul, List.nil_append]
     apply Trc.stp rfl rfl rfl; apply s_assign; exact rfl; dsimp only [Nat.reduceAdd, Nat.reduceMul, List.nil_append]
     exact Trc.done _ _ _; exact rfl; refine thn_n ?_; refine Gol.ret ?_; refine thn_r ?_)
    rw [spl_room he hZ (by omega) (by omega)]
    (apply RetT.mk (by first | exact .inr rfl | exact .inl rfl); apply res_1 rfl; exact res_tmp rfl; apply out_ids [0] rfl; apply OBs.cons; exact rfl; exact inferInstance
     exact OBs.nil; intro k; exact Ot.sc (j := 0) rfl)
theorem delD_ok (l : List Dl) (i : Nat) (hi : i < l.length) (hl : l.length ≤ 100000000) : Turns Try.prog 45 [⟨dsA l, 43, 11⟩] [.sl 0 l.length, .v (.int .i64 (i : Int)), .v (.int .i64 ((i + 1 : Nat) : Int))] (fun k => .sl k (l.length - 1)) [⟨dsA (l.take i ++ l.drop (i + 1)), 43, 11⟩] := by
  rw [dsA_append, ← dsA_take, ← dsA_drop]
  have hlen : (dsA l).length = l.length * 11 := dsA_length l
  have hones : (dsA l).all AV.one = true := dsA_ones l
  have hWt : ValL ((dsA l).take (i * 11)) := by rw [dsA_take]; infer_instance
  have hWd : ValL ((dsA l).drop ((i + 1) * 11)) := by rw [dsA_drop]; infer_instance
  generalize dsA l = cs at hlen hones hWt hWd
  generalize l.length = n at hlen hi hl
  have hdl : (cs.drop ((i + 1) * 11)).length = (n - (i + 1)) * 11 := by rw [List.length_drop, hlen, ← Nat.sub_mul]
  have hd1 : (cs.drop ((i + 1) * 11)).all AV.one = true := List.all_eq_true.2 fun y hy => List.all_eq_true.1 hones y (List.mem_of_mem_drop hy)
  have hde : List.take ((n - (i + 1)) * 11) (cs.drop ((i + 1) * 11)) = cs.drop ((i + 1) * 11) := List.take_of_length_le (by omega)
  refine Turns.of (fn := Try.f45) Try.func45 rfl (Nat.le_of_ble_eq_true rfl) (Nat.le_of_ble_eq_true rfl) fun w M => ?_
  dsimp only [nbk, Nat.reduceAdd]
  (refine Gol.seq ?_; apply Gol.region; apply Trc.stp rfl rfl rfl; apply s_assign; exact rfl
   dsimp only [Nat.reduceAdd, Nat.reduceMul, List.nil_append]; exact Trc.done _ _ _; exact rfl
   refine thn_n ?_; refine Gol.seq ?_; apply Gol.region; apply Trc.stp rfl rfl rfl; apply s_move
   exact rfl; dsimp only [Nat.reduceAdd, Nat.reduceMul, List.nil_append]; apply Trc.stp rfl rfl rfl; apply s_move; exact rfl; dsimp only [Nat.reduceAdd, Nat.reduceMul, List.nil_append]
   apply Trc.stp rfl rfl rfl; apply s_move; exact rfl; dsimp only [Nat.reduceAdd, Nat.reduceMul, List.nil_append]
   apply Trc.stp rfl rfl rfl; apply s_move; exact rfl; dsimp only [Nat.reduceAdd, Nat.reduceMul, List.nil_append]
   apply Trc.stp rfl rfl rfl; apply s_len; exact rfl; exact ln_sl; dsimp only [Nat.reduceAdd, Nat.reduceMul, List.nil_append]
   apply Trc.stp rfl rfl rfl; apply s_slLM; exact rfl; exact ⟨_, rfl⟩; exact ⟨_, rfl⟩; exact ⟨_, rfl⟩; exact rfl; omega; omega
   omega; exact rfl; dsimp only [Nat.reduceAdd, Nat.reduceMul, Nat.reduceSub, List.nil_append, List.cons_append, nbk, List.map_cons, List.map_nil]; exact Trc.done _ _ _
   exact rfl; refine thn_n ?_; refine Gol.seq ?_; refine Gol.seq ?_; apply Gol.region
   apply Trc.stp rfl rfl rfl; apply s_move; exact rfl; dsimp only [Nat.reduceAdd, Nat.reduceMul, List.nil_append]
   apply Trc.stp rfl rfl rfl; apply s_move; exact rfl; dsimp only [Nat.reduceAdd, Nat.reduceMul, List.nil_append]
   apply Trc.stp rfl rfl rfl; apply s_eqn; exact rfl; exact rfl; dsimp only [Nat.reduceAdd, Nat.reduceMul, List.nil_append]
   exact Trc.done _ _ _; exact rfl; refine thn_n ?_)
  refine Gol.cond_f rfl (by simp) ?_
  (refine Gol.skip ?_; refine thn_n ?_; refine Gol.seq ?_; apply Gol.region; apply Trc.stp rfl rfl rfl; apply s_move; exact rfl; dsimp only [Nat.reduceAdd, Nat.reduceMul, List.nil_append]
   apply Trc.stp rfl rfl rfl; apply s_len; exact rfl; exact ln_sl; dsimp only [Nat.reduceAdd, Nat.reduceMul, List.nil_append]
   apply Trc.stp rfl rfl rfl; apply s_assign; exact rfl; dsimp only [Nat.reduceAdd, Nat.reduceMul, List.nil_append]
   exact Trc.done _ _ _; exact rfl; refine thn_n ?_; refine Gol.seq ?_)
  refine Gol.cap (i := 0) rfl fun cc hcc => ?_
  (apply Gol.any; kernel_rfl; apply Trc.stp rfl rfl rfl; apply s_move; exact rfl; dsimp only [Nat.reduceAdd, Nat.reduceMul, List.nil_append]
   apply Trc.stp rfl rfl rfl; apply s_move; exact rfl; dsimp only [Nat.reduceAdd, Nat.reduceMul, List.nil_append]
   apply Trc.stp rfl rfl rfl; apply s_slC; exact rfl; exact ⟨_, rfl⟩; omega; exact rfl; dsimp only [Nat.reduceAdd, Nat.reduceMul, Nat.reduceSub, List.nil_append, List.cons_append, nbk, List.map_cons, List.map_nil]
   apply Trc.stp rfl rfl rfl; apply s_move; exact rfl; dsimp only [Nat.reduceAdd, Nat.reduceMul, List.nil_append]
   apply Trc.stp rfl rfl rfl; apply s_move; exact rfl; dsimp only [Nat.reduceAdd, Nat.reduceMul, List.nil_append]
   apply Trc.stp rfl rfl rfl; apply s_slS; exact rfl; exact ⟨_, rfl⟩; exact rfl; omega; omega; exact rfl; dsimp only [Nat.reduceAdd, Nat.reduceMul, Nat.reduceSub, List.nil_append, List.cons_append, nbk, List.map_cons, List.map_nil]
   apply Trc.stp rfl rfl rfl; apply s_appIn; exact rfl; exact rfl; exact rfl; apply rd_sb rfl; dsimp only; omega; dsimp only; rw [hde, hdl]
   dsimp only; omega; dsimp only; rw [hde]; exact hd1; omega; omega; dsimp only [Nat.reduceAdd, Nat.reduceMul, Nat.reduceSub, List.nil_append, List.cons_append, nbk, List.map_cons, List.map_nil]
   apply Trc.stp rfl rfl rfl; apply s_assign; exact rfl; dsimp only [Nat.reduceAdd, Nat.reduceMul, List.nil_append]
   exact Trc.done _ _ _; kernel_rfl; exact rfl; refine thn_n ?_; refine Gol.seq ?_)
  rw [hde, show i + (n - (i + 1)) = n - 1 by omega]
  (apply Gol.region; apply Trc.stp rfl rfl rfl; apply s_move; exact rfl; dsimp only [Nat.reduceAdd, Nat.reduceMul, List.nil_append]
   apply Trc.stp rfl rfl rfl; apply s_move; exact rfl; dsimp only [Nat.reduceAdd, Nat.reduceMul, List.nil_append]
   apply Trc.stp rfl rfl rfl; apply s_len; exact rfl; exact ln_sc; dsimp only [Nat.reduceAdd, Nat.reduceMul, List.nil_append]
   apply Trc.stp rfl rfl rfl; apply s_move; exact rfl; dsimp only [Nat.reduceAdd, Nat.reduceMul, List.nil_append]
   apply Trc.stp rfl rfl rfl; apply s_slS; exact rfl; exact ⟨_, rfl⟩; exact ⟨_, rfl⟩; omega; omega; exact rfl; dsimp only [Nat.reduceAdd, Nat.reduceMul, Nat.reduceSub, List.nil_append, List.cons_append, nbk, List.map_cons, List.map_nil]
   apply Trc.stepN rfl rfl; exact wnt_n rfl; apply s_clear; exact rfl; exact rfl; omega; dsimp only; rw [spl_length _ _ _ (by omega)]; omega; exact zeroA_ones rfl
   dsimp only [Nat.reduceAdd, Nat.reduceMul, Nat.reduceSub, List.nil_append, List.cons_append, nbk, List.map_cons, List.map_nil]; exact Trc.done _ _ _; exact rfl
   refine thn_n ?_; refine Gol.seq ?_; apply Gol.region; apply Trc.stp rfl rfl rfl; apply s_move
   exact rfl; dsimp only [Nat.reduceAdd, Nat.reduceMul, List.nil_append]; apply Trc.stp rfl rfl rfl; apply s_assign; exact rfl; dsimp only [Nat.reduceAdd, Nat.reduceMul, List.nil_append]
   exact Trc.done _ _ _; exact rfl; refine thn_n ?_; refine Gol.ret ?_)
  refine RetT.mk (.inr rfl) (res_1 rfl (res_tmp rfl)) (out_ids [0] rfl (.cut rfl rfl rfl ?_ inferInstance .nil) fun k => Ot.sc (j := 0) rfl)
  dsimp only
  refine del_cells (by omega) (by omega) (by omega) ?_
  rw [List.length_append, List.length_take, hdl]
  omega
end Go.Proofs.Ytkkeeokeihkagaa

/-
  Go's slices.Insert and Delete at an element type of layer 21. Conditions: lengths below 2^27.
-/
namespace Go.Proofs.Ytkkeeokeihkagaa
open Go.RowKit

instance ovN : OvI Try.prog 104 32 := ⟨⟨4, fun args w => run_callFunc_extern Try.func104 (by kernel_rfl) (by kernel_rfl) (by kernel_rfl) (e := Extern.SlicesOverlaps.overlaps #[32, 32] #[4]) (by kernel_rfl) args w⟩⟩
theorem insN_cells (l : List UInt64) (x : UInt64) (i : Nat) (hi : i ≤ l.length) : byA (flat (l.take i ++ x :: l.drop i)) = (byA (flat l)).take (i * 8) ++ byA (nameB x) ++ (byA (flat l)).drop (i * 8) := by
  rw [nsA_append, nsA_cons, nsA_take, nsA_drop, List.append_assoc]
theorem insN_ok (l : List UInt64) (x : UInt64) (i : Nat) (hi : i ≤ l.length) (hl : l.length ≤ 100000000) : Turns Try.prog 74 [⟨byA (flat l), 23, 8⟩, ⟨byA (nameB x), 23, 8⟩] [.sl 0 l.length, .v (.int .i64 (i : Int)), .sl 1 1] (fun k => .sl k (l.length + 1)) [⟨byA (flat (l.take i ++ x :: l.drop i)), 23, 8⟩] := by
  rw [insN_cells l x i hi]
  have hlen : (byA (flat l)).length = l.length * 8 := nsA_length l
  have hones : (byA (flat l)).all AV.one = true := nsA_ones l
  have hV : CloL (byA (flat l)) := inferInstance
  have hW : ValL (byA (flat l)) := inferInstance
  have hWt : ValL ((byA (flat l)).take (i * 8)) := by rw [nsA_take]; infer_instance
  have hWd : ValL ((byA (flat l)).drop (i * 8)) := by rw [nsA_drop]; infer_instance
  generalize byA (flat l) = cs at hlen hones hV hW hWt hWd
  generalize l.length = n at hlen hi hl
  have he : (byA (nameB x)).length = 8 := nA_length x
  have hd1 : (cs.drop (i * 8)).all AV.one = true := List.all_eq_true.2 fun y hy => List.all_eq_true.1 hones y (List.mem_of_mem_drop hy)
  have hd1l : (cs.drop (i * 8)).length = (n - i) * 8 := by rw [List.length_drop, hlen, ← Nat.sub_mul]
  refine Turns.of (fn := Try.f74) Try.func74 rfl (Nat.le_of_ble_eq_true rfl) (Nat.le_of_ble_eq_true rfl) fun w M => ?_
  dsimp only [nbk, Nat.reduceAdd]
  (refine Gol.seq ?_; apply Gol.region; apply Trc.stp rfl rfl rfl; apply s_assign; exact rfl
   dsimp only [Nat.reduceAdd, Nat.reduceMul, List.nil_append]; exact Trc.done _ _ _; exact rfl
   refine thn_n ?_; refine Gol.seq ?_; apply Gol.region; apply Trc.stp rfl rfl rfl; apply s_move
   exact rfl; dsimp only [Nat.reduceAdd, Nat.reduceMul, List.nil_append]; apply Trc.stp rfl rfl rfl; apply s_move; exact rfl; dsimp only [Nat.reduceAdd, Nat.reduceMul, List.nil_append]
   apply Trc.stp rfl rfl rfl; apply s_slL; exact rfl; exact ⟨_, rfl⟩; exact rfl; omega; omega; exact rfl; dsimp only [Nat.reduceAdd, Nat.reduceMul, Nat.reduceSub, List.nil_append, List.cons_append, nbk, List.map_cons, List.map_nil]
   exact Trc.done _ _ _; exact rfl; refine thn_n ?_; refine Gol.seq ?_; apply Gol.region; apply Trc.stp rfl rfl rfl; apply s_move; exact rfl; dsimp only [Nat.reduceAdd, Nat.reduceMul, List.nil_append]
   apply Trc.stp rfl rfl rfl; apply s_len; exact rfl; exact ln_sl; dsimp only [Nat.reduceAdd, Nat.reduceMul, List.nil_append]
   apply Trc.stp rfl rfl rfl; apply s_assign; exact rfl; dsimp only [Nat.reduceAdd, Nat.reduceMul, List.nil_append]
   exact Trc.done _ _ _; exact rfl; refine thn_n ?_; refine Gol.seq ?_; refine Gol.seq ?_; apply Gol.region
   apply Trc.stp rfl rfl rfl; apply s_move; exact rfl; dsimp only [Nat.reduceAdd, Nat.reduceMul, List.nil_append]
   apply Trc.stp rfl rfl rfl; apply s_eqn; exact rfl; exact rfl; dsimp only [Nat.reduceAdd, Nat.reduceMul, List.nil_append]
   exact Trc.done _ _ _; exact rfl; refine thn_n ?_)
  refine Gol.cond_f rfl (by decide) ?_
  (refine Gol.skip ?_; refine thn_n ?_; refine Gol.seq ?_; apply Gol.region; apply Trc.stp rfl rfl rfl; apply s_move; exact rfl; dsimp only [Nat.reduceAdd, Nat.reduceMul, List.nil_append]
   apply Trc.stp rfl rfl rfl; apply s_len; exact rfl; exact ln_sl; dsimp only [Nat.reduceAdd, Nat.reduceMul, List.nil_append]
   apply Trc.stp rfl rfl rfl; apply s_assign; exact rfl; dsimp only [Nat.reduceAdd, Nat.reduceMul, List.nil_append]
   exact Trc.done _ _ _; exact rfl; refine thn_n ?_; refine Gol.seq ?_; refine Gol.seq ?_; apply Gol.region
   apply Trc.stp rfl rfl rfl; apply s_move; exact rfl; dsimp only [Nat.reduceAdd, Nat.reduceMul, List.nil_append]
   apply Trc.stp rfl rfl rfl; apply s_move; exact rfl; dsimp only [Nat.reduceAdd, Nat.reduceMul, List.nil_append]
   apply Trc.stp rfl rfl rfl; apply s_eqn; exact rfl; exact rfl; dsimp only [Nat.reduceAdd, Nat.reduceMul, List.nil_append]
   exact Trc.done _ _ _; exact rfl; refine thn_n ?_)
  refine Gol.cond rfl (fun h => ?_) (fun h => ?_)
  · have e : i = n := of_decide_eq_true h
    subst e
    rw [List.take_of_length_le (by omega), List.drop_of_length_le (by omega), List.append_nil]
    (refine Gol.seq ?_; apply Gol.region; apply Trc.stp rfl rfl rfl; apply s_move; exact rfl
     dsimp only [Nat.reduceAdd, Nat.reduceMul, List.nil_append]; apply Trc.stp rfl rfl rfl; apply s_move; exact rfl; dsimp only [Nat.reduceAdd, Nat.reduceMul, List.nil_append]
     apply Trc.stp rfl rfl rfl; apply s_app; exact rfl; exact rfl; exact rfl; apply rd_sl rfl; rfl; assumption; exact rfl; exact rfl
     exact OneL.one; omega; dsimp only [Nat.reduceAdd, Nat.reduceMul, Nat.reduceSub, List.nil_append, List.cons_append, nbk, List.map_cons, List.map_nil]; apply Trc.stp rfl rfl rfl; apply s_assign; exact rfl; dsimp only [Nat.reduceAdd, Nat.reduceMul, List.nil_append]
     exact Trc.done _ _ _; exact rfl; refine thn_n ?_; refine Gol.ret ?_; refine thn_r ?_)
    (apply RetT.mk (by first | exact .inr rfl | exact .inl rfl); apply res_1 rfl; exact res_tmp rfl; apply out_ids [144] rfl; apply OBs.cons; exact rfl; exact inferInstance
     exact OBs.nil; intro k; exact Ot.sl (j := 0) rfl)
  have hin : ¬ i = n := of_decide_eq_false h
  have hlt : i < n := by omega
  refine Gol.cap (i := 0) rfl fun cc hcc => ?_
  (refine Gol.skip ?_; refine thn_n ?_; refine Gol.seq ?_; refine Gol.seq ?_; apply Gol.region
   apply Trc.stp rfl rfl rfl; apply s_move; exact rfl; dsimp only [Nat.reduceAdd, Nat.reduceMul, List.nil_append]
   apply Trc.stp rfl rfl rfl; apply s_move; exact rfl; dsimp only [Nat.reduceAdd, Nat.reduceMul, List.nil_append]
   apply Trc.stp rfl rfl rfl; apply s_addn; exact rfl; exact rfl; omega; dsimp only [Nat.reduceAdd, Nat.reduceMul, List.nil_append]
   apply Trc.stp rfl rfl rfl; apply s_move; exact rfl; dsimp only [Nat.reduceAdd, Nat.reduceMul, List.nil_append]
   apply Trc.stp rfl rfl rfl; apply s_cap; exact rfl; dsimp only [Nat.reduceAdd, Nat.reduceMul, Nat.reduceSub, List.nil_append, List.cons_append, nbk, List.map_cons, List.map_nil]
   apply Trc.stp rfl rfl rfl; apply s_gtn; exact rfl; exact rfl; dsimp only [Nat.reduceAdd, Nat.reduceMul, List.nil_append]
   exact Trc.done _ _ _; exact rfl; refine thn_n ?_)
  refine Gol.cond rfl (fun h => ?_) (fun h => ?_)
  · have hroom : cc < n + 1 := of_decide_eq_true h
    (refine Gol.seq ?_; apply Gol.region; apply Trc.stp rfl rfl rfl; apply s_move; exact rfl
     dsimp only [Nat.reduceAdd, Nat.reduceMul, List.nil_append]; apply Trc.stp rfl rfl rfl; apply s_move; exact rfl; dsimp only [Nat.reduceAdd, Nat.reduceMul, List.nil_append]
     apply Trc.stp rfl rfl rfl; apply s_slC; exact rfl; exact ⟨_, rfl⟩; omega; exact rfl; dsimp only [Nat.reduceAdd, Nat.reduceMul, Nat.reduceSub, List.nil_append, List.cons_append, nbk, List.map_cons, List.map_nil]
     apply Trc.stp rfl rfl rfl; apply s_move; exact rfl; dsimp only [Nat.reduceAdd, Nat.reduceMul, List.nil_append]
     apply Trc.stp rfl rfl rfl; apply s_move; exact rfl; dsimp only [Nat.reduceAdd, Nat.reduceMul, List.nil_append]
     apply Trc.stp rfl rfl rfl; apply s_addn; exact rfl; exact rfl; omega; dsimp only [Nat.reduceAdd, Nat.reduceMul, List.nil_append]
     apply Trc.stp rfl rfl rfl; apply s_move; exact rfl; dsimp only [Nat.reduceAdd, Nat.reduceMul, List.nil_append]
     apply Trc.stp rfl rfl rfl; apply s_subn; exact rfl; exact rfl; omega; omega; dsimp only [Nat.reduceAdd, Nat.reduceMul, Nat.reduceSub, List.nil_append, List.cons_append, nbk, List.map_cons, List.map_nil]
     apply Trc.stp rfl rfl rfl; apply s_appZ; exact rfl; exact rfl; exact rfl; omega; dsimp only; omega; omega; omega; dsimp only [Nat.reduceAdd, Nat.reduceMul, Nat.reduceSub, List.nil_append, List.cons_append, nbk, List.map_cons, List.map_nil]
     apply Trc.stp rfl rfl rfl; apply s_assign; exact rfl; dsimp only [Nat.reduceAdd, Nat.reduceMul, List.nil_append]
     exact Trc.done _ _ _; exact rfl; refine thn_n ?_; refine Gol.seq ?_)
    have hz := zeroA_len (n := n + 1 - i) (s := 8) (z := (.agg (nameC 0))) rfl
    generalize zeroA (.agg (nameC 0)) (n + 1 - i) = Z at hz
    have hA : (cs.take (i * 8)).length = i * 8 := by rw [List.length_take]; omega
    (apply Gol.region; apply Trc.stp rfl rfl rfl; apply s_move; exact rfl; dsimp only [Nat.reduceAdd, Nat.reduceMul, List.nil_append]
     apply Trc.stp rfl rfl rfl; apply s_move; exact rfl; dsimp only [Nat.reduceAdd, Nat.reduceMul, List.nil_append]
     apply Trc.stp rfl rfl rfl; apply s_slL; exact rfl; exact ⟨_, rfl⟩; exact rfl; omega; omega; exact rfl; dsimp only [Nat.reduceAdd, Nat.reduceMul, Nat.reduceSub, List.nil_append, List.cons_append, nbk, List.map_cons, List.map_nil]
     apply Trc.stp rfl rfl rfl; apply s_move; exact rfl; dsimp only [Nat.reduceAdd, Nat.reduceMul, List.nil_append]
     apply Trc.stp rfl rfl rfl; apply s_copyN (ds := byA (nameB x)); exact rfl; exact rfl; exact rfl; apply rd_sl rfl; exact he.trans rfl; omega
     exact List.take_of_length_le (by dsimp only; rw [he]; omega); dsimp only; rw [List.length_append, hA, he, hz]; omega; exact nA_ones x; dsimp only [Nat.reduceAdd, Nat.reduceMul, Nat.reduceSub, List.nil_append, List.cons_append, nbk, List.map_cons, List.map_nil]
     exact Trc.done _ _ _; exact rfl; refine thn_n ?_; refine Gol.seq ?_)
    rw [spl_mid hA he]
    (apply Gol.any; kernel_rfl; apply Trc.stp rfl rfl rfl; apply s_move; exact rfl; dsimp only [Nat.reduceAdd, Nat.reduceMul, List.nil_append]
     apply Trc.stp rfl rfl rfl; apply s_move; exact rfl; dsimp only [Nat.reduceAdd, Nat.reduceMul, List.nil_append]
     apply Trc.stp rfl rfl rfl; apply s_move; exact rfl; dsimp only [Nat.reduceAdd, Nat.reduceMul, List.nil_append]
     apply Trc.stp rfl rfl rfl; apply s_addn; exact rfl; exact rfl; omega; dsimp only [Nat.reduceAdd, Nat.reduceMul, List.nil_append]
     apply Trc.stp rfl rfl rfl; apply s_slL; exact rfl; exact ⟨_, rfl⟩; exact rfl; omega; omega; exact rfl; dsimp only [Nat.reduceAdd, Nat.reduceMul, Nat.reduceSub, List.nil_append, List.cons_append, nbk, List.map_cons, List.map_nil]
     apply Trc.stp rfl rfl rfl; apply s_move; exact rfl; dsimp only [Nat.reduceAdd, Nat.reduceMul, List.nil_append]
     apply Trc.stp rfl rfl rfl; apply s_move; exact rfl; dsimp only [Nat.reduceAdd, Nat.reduceMul, List.nil_append]
     apply Trc.stp rfl rfl rfl; apply s_slS; exact rfl; exact ⟨_, rfl⟩; exact rfl; omega; omega; exact rfl; dsimp only [Nat.reduceAdd, Nat.reduceMul, Nat.reduceSub, List.nil_append, List.cons_append, nbk, List.map_cons, List.map_nil]
     apply Trc.stp rfl rfl rfl; apply s_copyN (ds := cs.drop (i * 8)); exact rfl; exact rfl; exact rfl; apply rd_sb rfl; dsimp only; omega; omega
     exact take_all (by rw [hd1l]; omega) (by rw [hd1l]; omega); dsimp only; rw [List.length_append, List.length_append, hA, he, hd1l, List.length_drop, hz]
     omega; exact hd1; dsimp only [Nat.reduceAdd, Nat.reduceMul, Nat.reduceSub, List.nil_append, List.cons_append, nbk, List.map_cons, List.map_nil]; exact Trc.done _ _ _
     kernel_rfl; exact rfl; refine thn_n ?_; refine Gol.seq ?_; apply Gol.region; apply Trc.stp rfl rfl rfl; apply s_move; exact rfl; dsimp only [Nat.reduceAdd, Nat.reduceMul, List.nil_append]
     apply Trc.stp rfl rfl rfl; apply s_assign; exact rfl; dsimp only [Nat.reduceAdd, Nat.reduceMul, List.nil_append]
     exact Trc.done _ _ _; exact rfl; refine thn_n ?_; refine Gol.ret ?_; refine thn_r ?_)
    rw [spl_end (by rw [List.length_append, hA, he]; omega) (by rw [List.length_drop, hz, hd1l]; omega), show i + (n + 1 - i) = n + 1 by omega]
    (apply RetT.mk (by first | exact .inr rfl | exact .inl rfl); apply res_1 rfl; exact res_tmp rfl; apply out_ids [240] rfl; apply OBs.cons; exact rfl; exact inferInstance
     exact OBs.nil; intro k; exact Ot.sl (j := 0) rfl)
  · have hroom : ¬ cc < n + 1 := of_decide_eq_false h
    (refine Gol.skip ?_; refine thn_n ?_; refine Gol.seq ?_; apply Gol.region; apply Trc.stp rfl rfl rfl; apply s_move; exact rfl; dsimp only [Nat.reduceAdd, Nat.reduceMul, List.nil_append]
     apply Trc.stp rfl rfl rfl; apply s_move; exact rfl; dsimp only [Nat.reduceAdd, Nat.reduceMul, List.nil_append]
     apply Trc.stp rfl rfl rfl; apply s_move; exact rfl; dsimp only [Nat.reduceAdd, Nat.reduceMul, List.nil_append]
     apply Trc.stp rfl rfl rfl; apply s_addn; exact rfl; exact rfl; omega; dsimp only [Nat.reduceAdd, Nat.reduceMul, List.nil_append]
     apply Trc.stp rfl rfl rfl; apply s_slC; exact rfl; exact ⟨_, rfl⟩; omega; exact rfl; dsimp only [Nat.reduceAdd, Nat.reduceMul, Nat.reduceSub, List.nil_append, List.cons_append, nbk, List.map_cons, List.map_nil]
     apply Trc.stp rfl rfl rfl; apply s_assign; exact rfl; dsimp only [Nat.reduceAdd, Nat.reduceMul, List.nil_append]
     exact Trc.done _ _ _; exact rfl; refine thn_n ?_; refine Gol.seq ?_; refine Gol.seq ?_)
    refine Gol.tail (i := 0) rfl rfl 8 (by dsimp only; omega) fun tail htl => ?_
    dsimp only
    have hZ : (tail.map AV.v).length = 8 := by rw [List.length_map]; exact htl
    have hZc : CloL (tail.map AV.v) := inferInstance
    have hZv : ValL (tail.map AV.v) := inferInstance
    generalize tail.map AV.v = Z at hZ hZc hZv
    (apply Gol.region; apply Trc.stp rfl rfl rfl; apply s_move; exact rfl; dsimp only [Nat.reduceAdd, Nat.reduceMul, List.nil_append]
     apply Trc.stp rfl rfl rfl; apply s_move; exact rfl; dsimp only [Nat.reduceAdd, Nat.reduceMul, List.nil_append]
     apply Trc.stp rfl rfl rfl; apply s_move; exact rfl; dsimp only [Nat.reduceAdd, Nat.reduceMul, List.nil_append]
     apply Trc.stp rfl rfl rfl; apply s_move; exact rfl; dsimp only [Nat.reduceAdd, Nat.reduceMul, List.nil_append]
     apply Trc.stp rfl rfl rfl; apply s_addn; exact rfl; exact rfl; omega; dsimp only [Nat.reduceAdd, Nat.reduceMul, List.nil_append]
     apply Trc.stp rfl rfl rfl; apply s_slS; exact rfl; exact ⟨_, rfl⟩; exact rfl; omega; omega; exact rfl; dsimp only [Nat.reduceAdd, Nat.reduceMul, Nat.reduceSub, List.nil_append, List.cons_append, nbk, List.map_cons, List.map_nil]
     apply Trc.stp rfl rfl rfl; apply s_ovl (f := 104); exact rfl; exact rfl; exact rfl; exact rfl; exact rfl
     exact rfl; dsimp only; omega; dsimp only; rw [List.length_append]; omega; omega; dsimp only [Nat.reduceAdd, Nat.reduceMul, Nat.reduceSub, List.nil_append, List.cons_append, nbk, List.map_cons, List.map_nil]
     apply Trc.stp rfl rfl rfl; apply s_not; exact rfl; dsimp only [Nat.reduceAdd, Nat.reduceMul, List.nil_append]
     exact Trc.done _ _ _; exact rfl; refine thn_n ?_)
    refine Gol.cond_t rfl rfl ?_
    (refine Gol.seq ?_; apply Gol.any; kernel_rfl; apply Trc.stp rfl rfl rfl; apply s_move
     exact rfl; dsimp only [Nat.reduceAdd, Nat.reduceMul, List.nil_append]; apply Trc.stp rfl rfl rfl; apply s_move; exact rfl; dsimp only [Nat.reduceAdd, Nat.reduceMul, List.nil_append]
     apply Trc.stp rfl rfl rfl; apply s_move; exact rfl; dsimp only [Nat.reduceAdd, Nat.reduceMul, List.nil_append]
     apply Trc.stp rfl rfl rfl; apply s_addn; exact rfl; exact rfl; omega; dsimp only [Nat.reduceAdd, Nat.reduceMul, List.nil_append]
     apply Trc.stp rfl rfl rfl; apply s_slS; exact rfl; exact ⟨_, rfl⟩; exact rfl; omega; omega; exact rfl; dsimp only [Nat.reduceAdd, Nat.reduceMul, Nat.reduceSub, List.nil_append, List.cons_append, nbk, List.map_cons, List.map_nil]
     apply Trc.stp rfl rfl rfl; apply s_move; exact rfl; dsimp only [Nat.reduceAdd, Nat.reduceMul, List.nil_append]
     apply Trc.stp rfl rfl rfl; apply s_move; exact rfl; dsimp only [Nat.reduceAdd, Nat.reduceMul, List.nil_append]
     apply Trc.stp rfl rfl rfl; apply s_slS; exact rfl; exact ⟨_, rfl⟩; exact rfl; omega; omega; exact rfl; dsimp only [Nat.reduceAdd, Nat.reduceMul, Nat.reduceSub, List.nil_append, List.cons_append, nbk, List.map_cons, List.map_nil]
     apply Trc.stp rfl rfl rfl; apply s_copyN (ds := cs.drop (i * 8)); exact rfl; exact rfl; exact rfl; apply rd_sb rfl; dsimp only; rw [List.length_append]
     omega; omega; exact take_mid (by omega) (by omega) (by omega); dsimp only; rw [List.length_append, hd1l]; omega; exact hd1; dsimp only [Nat.reduceAdd, Nat.reduceMul, Nat.reduceSub, List.nil_append, List.cons_append, nbk, List.map_cons, List.map_nil]
     exact Trc.done _ _ _; kernel_rfl; exact rfl; refine thn_n ?_; refine Gol.seq ?_)
    (apply Gol.region; apply Trc.stp rfl rfl rfl; apply s_move; exact rfl; dsimp only [Nat.reduceAdd, Nat.reduceMul, List.nil_append]
     apply Trc.stp rfl rfl rfl; apply s_move; exact rfl; dsimp only [Nat.reduceAdd, Nat.reduceMul, List.nil_append]
     apply Trc.stp rfl rfl rfl; apply s_slS; exact rfl; exact ⟨_, rfl⟩; exact rfl; omega; omega; exact rfl; dsimp only [Nat.reduceAdd, Nat.reduceMul, Nat.reduceSub, List.nil_append, List.cons_append, nbk, List.map_cons, List.map_nil]
     apply Trc.stp rfl rfl rfl; apply s_move; exact rfl; dsimp only [Nat.reduceAdd, Nat.reduceMul, List.nil_append]
     apply Trc.stp rfl rfl rfl; apply s_copyN (ds := byA (nameB x)); exact rfl; exact rfl; exact rfl; apply rd_sl rfl; exact he.trans rfl; omega
     exact List.take_of_length_le (by dsimp only; rw [he]; omega); dsimp only; rw [spl_length _ _ _ (by rw [List.length_append, hd1l]; omega), List.length_append, he]
     omega; exact nA_ones x; dsimp only [Nat.reduceAdd, Nat.reduceMul, Nat.reduceSub, List.nil_append, List.cons_append, nbk, List.map_cons, List.map_nil]
     exact Trc.done _ _ _; exact rfl; refine thn_n ?_; refine Gol.seq ?_; apply Gol.region; apply Trc.stp rfl rfl rfl; apply s_move; exact rfl; dsimp only [Nat.reduceAdd, Nat.reduceMul, List.nil_append]
     apply Trc.stp rfl rfl rfl; apply s_assign; exact rfl; dsimp only [Nat.reduceAdd, Nat.reduceMul, List.nil_append]
     exact Trc.done _ _ _; exact rfl; refine thn_n ?_; refine Gol.ret ?_; refine thn_r ?_)
    rw [spl_room he hZ (by omega) (by omega)]
    (apply RetT.mk (by first | exact .inr rfl | exact .inl rfl); apply res_1 rfl; exact res_tmp rfl; apply out_ids [0] rfl; apply OBs.cons; exact rfl; exact inferInstance
     exact OBs.nil; intro k; exact Ot.sc (j := 0) rfl)
end Go.Proofs.Ytkkeeokeihkagaa
