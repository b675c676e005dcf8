/-
  Arguments of any shape, opened into the program logic. No condition.
-/
import Derived.Test.YtnghcfjejgdnlaaBri
set_option linter.unusedSimpArgs false
set_option linter.unusedVariables false
set_option linter.unusedSectionVars false
namespace Go.Proofs.Ytnghcfjejgdnlaa
open Go.ChangeShapes Go.WideShapes Go.ChangeAt Go.RowKit

section
variable {P : Program}
/-- whatever the statement's reader takes for a value of the type t shows as the cells f a of an a with q a -/
def Opn (P : Program) (t : TypeId) (k : Nat) {α : Type} (q : α → Prop) (f : α → List AV) : Prop :=
  ∀ (H : Type) (enc : TypeId × Value → H) (w : World) (base : Nat) (held : Bool) (fuel : Nat) (cs : List Value) (x : DataW H × List MemPlace),
    DataW.trod enc P w base (fun _ => true) held fuel t cs = some x → (∀ n ∈ x.1.weights P t, n ≤ reachBytes) → ∃ a, q a ∧ (f a).length = k ∧ RVs (E0 w) (f a) cs
theorem RVs.one {E : Env} {a : AV} {x : Value} (h : RV E a x) : RVs E [a] [x] :=
  ⟨rfl, fun j c y hc hy => by cases j with | zero => simp at hc hy; subst hc hy; exact h | succ j => simp at hc⟩
theorem opn_u8 {t : TypeId} (ht : P.underlying t = some (.int .u8)) : Opn P t 1 (fun _ : UInt8 => True) (fun a => [.v (.int .u8 (a.toNat : Int))]) := by
  intro H enc w base held fuel cs x h _
  obtain ⟨z, rfl, _, hwf⟩ := DataW.trod_int ht h
  have hbd := bounds_u8 hwf
  obtain ⟨c, rfl⟩ := u8_of z (by omega) (by omega)
  exact ⟨c, trivial, rfl, RVs.one (.v _)⟩
theorem opn_u64 {t : TypeId} (ht : P.underlying t = some (.int .u64)) : Opn P t 1 (fun _ : UInt64 => True) (fun a => [.v (.int .u64 (a.toNat : Int))]) := by
  intro H enc w base held fuel cs x h _
  obtain ⟨z, rfl, _, hwf⟩ := DataW.trod_int ht h
  have hbd := bounds_u64 hwf
  obtain ⟨c, rfl⟩ := u64_of z (by omega) (by omega)
  exact ⟨c, trivial, rfl, RVs.one (.v _)⟩
theorem opn_i64 {t : TypeId} (ht : P.underlying t = some (.int .i64)) : Opn P t 1 (fun a : Int => -9223372036854775808 ≤ a ∧ a ≤ 9223372036854775807) (fun a => [.v (.int .i64 a)]) := by
  intro H enc w base held fuel cs x h _
  obtain ⟨z, rfl, _, hwf⟩ := DataW.trod_int ht h
  have hbd := bounds_i64 hwf
  exact ⟨z, by omega, rfl, RVs.one (.v _)⟩
theorem opn_bool {t : TypeId} (ht : P.underlying t = some .bool) : Opn P t 1 (fun _ : Bool => True) (fun a => [.v (.bool a)]) := by
  intro H enc w base held fuel cs x h _
  obtain ⟨z, rfl, _⟩ := DataW.trod_bool ht h
  exact ⟨z, trivial, rfl, RVs.one (.v _)⟩
theorem byA_name (n : UInt64) : (nameC n).toList.map AV.v = byA (nameB n) := rfl
theorem opn_name {t e : TypeId} (ht : P.underlying t = some (.array 8 e)) (he : P.underlying e = some (.int .u8)) (hce : P.cellsOf e = 1) (hct : P.cellsOf t = 8) : Opn P t 8 (fun _ : UInt64 => True) (fun a => byA (nameB a)) := by
  intro H enc w base held fuel cs x h _
  obtain ⟨n, rfl⟩ := trod_name ht he hce hct h
  refine ⟨n, trivial, rfl, ?_⟩
  exact RVs.vals (nameC n).toList
/-- fields that lie one behind the other -/
def OpnL (P : Program) (fs : List Field) (o k : Nat) {α : Type} (q : α → Prop) (f : α → List AV) : Prop :=
  ∀ (H : Type) (enc : TypeId × Value → H) (w : World) (base : Nat) (held : Bool) (n : Nat) (cs : List Value) (xs : List (DataW H × List MemPlace)), xs.length = fs.length →
    (∀ (i : Nat) (fd : Field), fs[i]? = some fd → DataW.trod enc P w base (fun _ => true) held n fd.type ((cs.drop fd.offset).take (P.cellsOf fd.type)) = xs[i]?) →
    (∀ m ∈ DataW.weightsEach P (fs.map (·.type)) (xs.map (·.1)), m ≤ reachBytes) → ∃ a, q a ∧ (f a).length = k ∧ RVs (E0 w) (f a) ((cs.drop o).take k)
theorem OpnL.nil {o : Nat} : OpnL P [] o 0 (fun _ : Unit => True) (fun _ => []) := by
  intro H enc w base held n cs xs _ _ _
  exact ⟨(), trivial, rfl, by rw [List.take_zero]; exact RVs.vals []⟩
theorem OpnL.cons {fd : Field} {fs : List Field} {o k0 k1 : Nat} {α β : Type} {q : α → Prop} {f : α → List AV} {r : β → Prop} {g : β → List AV} (ho : fd.offset = o) (hk : P.cellsOf fd.type = k0) (h0 : Opn P fd.type k0 q f) (h1 : OpnL P fs (o + k0) k1 r g) :
    OpnL P (fd :: fs) o (k0 + k1) (fun p : α × β => q p.1 ∧ r p.2) (fun p => f p.1 ++ g p.2) := by
  intro H enc w base held n cs xs hl h hw
  cases xs with
  | nil => simp at hl
  | cons x xs =>
    have hx := h 0 fd rfl
    simp only [List.getElem?_cons_zero] at hx
    simp only [List.map_cons, DataW.weightsEach, List.mem_append] at hw
    obtain ⟨a, qa, la, ra⟩ := h0 _ enc w base held n _ x hx (fun m hm => hw m (.inl hm))
    obtain ⟨b, qb, lb, rb⟩ := h1 _ enc w base held n cs xs (by simpa using hl) (fun i fd' hi => by simpa using h (i + 1) fd' (by simpa using hi)) (fun m hm => hw m (.inr hm))
    refine ⟨(a, b), ⟨qa, qb⟩, by simp [la, lb], ?_⟩
    rw [ho, hk] at ra
    rw [List.take_add, List.drop_drop]
    exact ra.append rb
theorem Opn.struct {t : TypeId} {fs : Array Field} {k : Nat} {α : Type} {q : α → Prop} {f : α → List AV} (ht : P.underlying t = some (.struct fs)) (hk : P.cellsOf t = k) (h : OpnL P fs.toList 0 k q f) : Opn P t k q f := by
  intro H enc w base held fuel cs x hx hw
  obtain ⟨xs, n, _, rfl, hl, hlen, hf⟩ := DataW.trod_struct ht hx
  simp only [DataW.weights, ht] at hw
  obtain ⟨a, qa, la, ra⟩ := h _ enc w base held n cs xs (by simpa using hlen) (fun i fd hi => hf i fd (by simpa using hi)) hw
  refine ⟨a, qa, la, ?_⟩
  rw [List.drop_zero, List.take_of_length_le (by omega)] at ra
  exact ra
theorem Opn.map {t : TypeId} {k : Nat} {α β : Type} {q : α → Prop} {f : α → List AV} {r : β → Prop} {g : β → List AV} (h : Opn P t k q f) (m : α → β) (hq : ∀ a, q a → r (m a)) (hf : ∀ a, g (m a) = f a) : Opn P t k r g := by
  intro H enc w base held fuel cs x hx hw
  obtain ⟨a, qa, la, ra⟩ := h _ enc w base held fuel cs x hx hw
  exact ⟨m a, hq a qa, by rw [hf]; exact la, by rw [hf]; exact ra⟩
theorem cells_get {w : World} {base : Nat} {a : Addr} {n : Nat} {xs : List Value} (h : w.cells? base a n = some xs) : xs.length = n ∧ ∀ (j : Nat) x, xs[j]? = some x → w.cell? (a.add j) = some x := by
  unfold World.cells? at h
  split at h
  · have hl := mapM_some_length h
    rw [List.length_range] at hl
    refine ⟨hl, fun j x hx => ?_⟩
    have hj : j < n := by
      by_cases hj : j < n
      · exact hj
      · rw [List.getElem?_eq_none (by omega)] at hx; cases hx
    have := mapM_some_get h j j (by simp [hj])
    rw [this, hx]
  · cases h
theorem weights_all {H : Type} {e : TypeId} {ds : List (DataW H)} {d : DataW H} (h : d ∈ ds) {n : Nat} (hn : n ∈ d.weights P e) : n ∈ DataW.weightsAll P e ds := by
  induction ds with
  | nil => cases h
  | cons x xs ih =>
    simp only [DataW.weightsAll, List.mem_append]
    rcases List.mem_cons.1 h with rfl | h
    · exact .inl hn
    · exact .inr (ih h)
/-- rows of k cells each -/
theorem rows_of {α : Type} {k : Nat} {q : α → Prop} {f : α → List AV} {w : World} {blk : Nat} (n : Nat) : ∀ (off : Nat), (∀ i, i < n → ∃ a cs, q a ∧ (f a).length = k ∧ RVs (E0 w) (f a) cs ∧ ∀ (j : Nat) x, cs[j]? = some x → w.cell? ⟨blk, off + i * k + j, none⟩ = some x) →
    ∃ (l : List α) (xs : List Value), l.length = n ∧ (∀ a ∈ l, q a) ∧ RVs (E0 w) (l.flatMap f) xs ∧ (∀ (j : Nat) x, xs[j]? = some x → w.cell? ⟨blk, off + j, none⟩ = some x) := by
  induction n with
  | zero => intro off _; exact ⟨[], [], rfl, by simp, RVs.vals [], by simp⟩
  | succ n ih =>
    intro off h
    obtain ⟨a, cs, qa, la, ra, ca⟩ := h 0 (by omega)
    obtain ⟨l, xs, ll, ql, rl, cl⟩ := ih (off + k) (fun i hi => by
      obtain ⟨a, cs, qa, la, ra, ca⟩ := h (i + 1) (by omega)
      refine ⟨a, cs, qa, la, ra, fun j x hx => ?_⟩
      have := ca j x hx
      rw [Nat.add_mul, Nat.one_mul] at this
      rw [← this]
      congr 2
      omega)
    have lcs : cs.length = k := by rw [← la, ra.1]
    refine ⟨a :: l, cs ++ xs, by simp [ll], fun b hb => by rcases List.mem_cons.1 hb with rfl | hb; exact qa; exact ql b hb, by rw [List.flatMap_cons]; exact ra.append rl, fun j x hx => ?_⟩
    by_cases hj : j < k
    · rw [List.getElem?_append_left (by omega)] at hx
      simpa using ca j x hx
    · rw [List.getElem?_append_right (by omega), lcs] at hx
      have := cl _ x hx
      rw [← this]
      congr 2
      omega
theorem Opn.slice {t e : TypeId} {k : Nat} {α : Type} {q : α → Prop} {f : α → List AV} (ht : P.underlying t = some (.slice e)) (hk : P.cellsOf e = k) (h : Opn P e k q f) :
    Opn P t 1 (fun l : List α => l.length * P.bytesOf e ≤ reachBytes ∧ ∀ a ∈ l, q a) (fun l => [.ex l.length false (l.flatMap f)]) := by
  intro H enc w base held fuel cs x hx hw
  rcases DataW.trod_slice ht hx with ⟨rfl, rfl⟩ | ⟨a, len, cap, elems, rest, n, _, rfl, rfl, hb, hlc, hm, hel, hg, hs, _⟩
  · exact ⟨[], ⟨by simp, by simp⟩, rfl, RVs.one (.ex0 _ _ _ _ (Nat.le_refl _) (fun h => by cases h))⟩
  · simp only [DataW.weights, ht, List.mem_cons, List.mem_append] at hw
    have hsz := hw _ (.inl rfl)
    have hlen : (elems.map (·.1)).length * P.bytesOf e ≤ reachBytes := Nat.le_trans (Nat.mul_le_mul_right _ (Nat.le_add_right _ _)) hsz
    obtain ⟨blk, off, spot⟩ := a
    by_cases hc : len = 0 ∨ k = 0
    · have hz : ∃ l : List α, l.length = len ∧ (∀ a ∈ l, q a) ∧ l.flatMap f = [] := by
        rcases hc with rfl | rfl
        · exact ⟨[], rfl, by simp, rfl⟩
        · have : ∀ i, i < len → ∃ a, q a ∧ f a = [] := fun i hi => by
            have h1 := hg i hi
            rw [List.getElem?_eq_getElem (by omega)] at h1
            obtain ⟨ys, _, hy⟩ := Option.bind_eq_some_iff.1 h1
            obtain ⟨a, qa, la, _⟩ := h _ enc w base held n ys _ hy (fun m hm => hw m (.inr (.inl (weights_all (List.mem_map_of_mem (List.getElem_mem (by omega))) hm))))
            exact ⟨a, qa, List.eq_nil_of_length_eq_zero la⟩
          cases len with
          | zero => exact ⟨[], rfl, by simp, rfl⟩
          | succ m =>
            obtain ⟨a, qa, fa⟩ := this 0 (by omega)
            exact ⟨List.replicate (m + 1) a, by simp, fun b hb => by rw [(List.mem_replicate.1 hb).2]; exact qa, by simp [fa]⟩
      obtain ⟨l, ll, ql, fl⟩ := hz
      refine ⟨l, ⟨by rw [ll, ← hel]; simpa using hlen, ql⟩, rfl, RVs.one ?_⟩
      rw [fl, ll]
      exact .ex0 _ _ _ _ hlc (fun h => by cases h)
    · have hrow : ∀ i, i < len → ∃ a ys, q a ∧ (f a).length = k ∧ RVs (E0 w) (f a) ys ∧ ∀ (j : Nat) x, ys[j]? = some x → w.cell? ((⟨blk, off, spot⟩ : Addr).add (i * k) |>.add j) = some x := fun i hi => by
        have h1 := hg i hi
        rw [List.getElem?_eq_getElem (by omega)] at h1
        obtain ⟨ys, hc, hy⟩ := Option.bind_eq_some_iff.1 h1
        obtain ⟨a, qa, la, ra⟩ := h _ enc w base held n ys _ hy (fun m hm => hw m (.inr (.inl (weights_all (List.mem_map_of_mem (List.getElem_mem (by omega))) hm))))
        rw [hk] at hc
        exact ⟨a, ys, qa, la, ra, (cells_get hc).2⟩
      have hspot : spot = none := by
        obtain ⟨a, ys, qa, la, ra, ca⟩ := hrow 0 (by omega)
        have hys : 0 < ys.length := by have := ra.1; omega
        have := World.cell?_spot (ca 0 _ (List.getElem?_eq_getElem hys))
        unfold Addr.add at this
        split at this <;> simp_all
      subst hspot
      have hadd : ∀ i j, ((⟨blk, off, none⟩ : Addr).add i |>.add j) = ⟨blk, off + i + j, none⟩ := fun i j => by
        have : ∀ o m, (⟨blk, o, none⟩ : Addr).add m = ⟨blk, o + m, none⟩ := fun o m => by unfold Addr.add; split <;> simp_all
        rw [this, this]
      obtain ⟨l, xs, ll, ql, rl, cl⟩ := rows_of (w := w) (blk := blk) (k := k) len off (fun i hi => by
        obtain ⟨a, ys, qa, la, ra, ca⟩ := hrow i hi
        exact ⟨a, ys, qa, la, ra, fun j x hx => by rw [← hadd]; exact ca j x hx⟩)
      refine ⟨l, ⟨by rw [ll, ← hel]; simpa using hlen, ql⟩, rfl, RVs.one ?_⟩
      rw [ll]
      by_cases hx0 : xs = []
      · have : l.flatMap f = [] := List.eq_nil_of_length_eq_zero (by have := rl.1; rw [hx0] at this; simpa using this.symm)
        rw [this]
        exact .ex0 _ _ _ _ hlc (fun h => by cases h)
      · refine .ex _ _ _ blk off cap xs hlc (fun h => by cases h) ?_ (fun h => h) rl.1 cl rl.2
        have h0 : 0 < xs.length := List.length_pos_iff.2 hx0
        exact block_lt_of_cell (cl 0 _ (List.getElem?_eq_getElem h0))
theorem flat_cells (l : List UInt64) : l.flatMap (fun a => byA (nameB a)) = byA (flat l) := by
  induction l with
  | nil => rfl
  | cons a l ih => rw [List.flatMap_cons, ih]; simp only [flat, byA, List.flatMap_cons, List.map_append]
theorem byte_cells (l : List UInt8) : l.flatMap (fun a => [AV.v (.int .u8 (a.toNat : Int))]) = byA l := by
  induction l with
  | nil => rfl
  | cons a l ih => rw [List.flatMap_cons, ih]; rfl
theorem opn_names {t e u : TypeId} (ht : P.underlying t = some (.slice e)) (he : P.underlying e = some (.array 8 u)) (hu : P.underlying u = some (.int .u8)) (hcu : P.cellsOf u = 1) (hce : P.cellsOf e = 8) (hb : P.bytesOf e = 8) :
    Opn P t 1 (fun l : List UInt64 => l.length * 8 ≤ 140737488351232) (fun l => [.ex l.length false (byA (flat l))]) :=
  (Opn.slice ht hce (opn_name he hu hcu hce)).map (fun l => l) (fun l h => by have := h.1; rw [hb] at this; exact this) (fun l => by rw [flat_cells])
theorem opn_bytes {t u : TypeId} (ht : P.underlying t = some (.slice u)) (hu : P.underlying u = some (.int .u8)) (hcu : P.cellsOf u = 1) (hb : P.bytesOf u = 1) :
    Opn P t 1 (fun l : List UInt8 => l.length ≤ 140737488351232) (fun l => [.ex l.length false (byA l)]) :=
  (Opn.slice ht hcu (opn_u8 hu)).map (fun l => l) (fun l h => by have := h.1; rw [hb, Nat.mul_one] at this; exact this) (fun l => by rw [byte_cells])
theorem okWide_one {w : World} {r : Reach} {b0 : Nat} {t e : TypeId} {v : Value} (ht : P.underlying t = some (.slice e)) (h : Value.okWide P w r b0 t v) : v.cells.toList = [v] := by
  obtain ⟨a0, len, cap, rfl⟩ := okWide_slice ht h
  rfl
end
theorem RVs.head1 {E : Env} {a : AV} {x : Value} (h : RVs E [a] [x]) : RV E a x := h.2 0 a x rfl rfl
theorem RVs.nil' {E : Env} : RVs E [] [] := RVs.vals []
/-- an argument -/
theorem Opn.arg {P : Program} {t : TypeId} {k : Nat} {α : Type} {q : α → Prop} {f : α → List AV} (h : Opn P t k q f) {H : Type} {enc : TypeId × Value → H} {w : World} {base : Nat} {held : Bool} {v : Value} {d : DataW H} {p : List MemPlace}
    (hv : DataW.Trod enc P w base (fun _ => true) held t v d p) (hs : ∀ n ∈ d.weights P t, n ≤ reachBytes) : ∃ a, q a ∧ RVs (E0 w) (f a) v.cells.toList := by
  obtain ⟨fuel, hf⟩ := hv
  obtain ⟨a, qa, _, ra⟩ := h _ enc w base held fuel _ _ hf hs
  exact ⟨a, qa, ra⟩
theorem weights_arg {P : Program} {H : Type} {ts : List TypeId} {ds : List (DataW H)} (h : (DataW.weightsEach P ts ds).all (· ≤ reachBytes) = true) {j : Nat} {t : TypeId} {d : DataW H} (ht : ts[j]? = some t) (hd : ds[j]? = some d) : ∀ n ∈ d.weights P t, n ≤ reachBytes := fun n hn => by
  simpa using List.all_eq_true.1 h _ (DataW.weights_mem_each ht hd n hn)
end Go.Proofs.Ytnghcfjejgdnlaa
