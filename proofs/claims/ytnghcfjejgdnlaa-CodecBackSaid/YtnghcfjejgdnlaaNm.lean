/-
  The program logic's rules for lists of names, literals of elements, slices of arrays that nobody changes, slices of known capacity. No condition.
-/
import Derived.Test.YtnghcfjejgdnlaaInt
set_option linter.unusedSimpArgs false
set_option linter.unusedVariables false
set_option linter.unusedSectionVars false
namespace Go.Proofs.Ytnghcfjejgdnlaa
open Go.RowKit

/-- the bytes of names -/
def flat (ns : List UInt64) : List UInt8 := ns.flatMap nameB
theorem flat_append (a b : List UInt64) : flat (a ++ b) = flat a ++ flat b := by simp [flat]
theorem flat_one (v : UInt64) : flat [v] = nameB v := by simp [flat]
theorem flat_nil : flat [] = [] := rfl
theorem flat_length (ns : List UInt64) : (flat ns).length = ns.length * 8 := by
  induction ns with
  | nil => rfl
  | cons a ns ih => simp only [flat, List.flatMap_cons, List.length_append, nameB_length, List.length_cons] at ih ⊢; omega
theorem flat_at (ns : List UInt64) (i : Nat) (h : i < ns.length) : ((flat ns).drop (i * 8)).take 8 = nameB (ns.getD i 0) := by
  induction ns generalizing i with
  | nil => simp at h
  | cons a ns ih =>
    cases i with
    | zero => simp only [flat, List.flatMap_cons, Nat.zero_mul, List.drop_zero]; rw [List.take_left' (nameB_length a)]; rfl
    | succ i =>
      have e : (i + 1) * 8 = (nameB a).length + i * 8 := by rw [nameB_length]; omega
      simp only [flat, List.flatMap_cons]
      rw [e, ← List.drop_drop, List.drop_left]
      exact ih i (by simpa using h)
theorem flat_set (ns : List UInt64) (i : Nat) (v : UInt64) (h : i < ns.length) : (flat ns).take (i * 8) ++ nameB v ++ (flat ns).drop (i * 8 + 8) = flat (ns.set i v) := by
  induction ns generalizing i with
  | nil => simp at h
  | cons a ns ih =>
    cases i with
    | zero =>
      simp only [Nat.zero_mul, List.take_zero, List.nil_append, Nat.zero_add, List.set_cons_zero, flat, List.flatMap_cons]
      rw [List.drop_left' (nameB_length a)]
    | succ i =>
      have e : (i + 1) * 8 = (nameB a).length + i * 8 := by rw [nameB_length]; omega
      have := ih i (by simpa using h)
      simp only [flat, List.flatMap_cons, List.set_cons_succ] at this ⊢
      rw [e, List.take_length_add_append, Nat.add_assoc, ← List.drop_drop, List.drop_left, List.append_assoc, List.append_assoc, ← List.append_assoc _ (nameB v), this]
theorem flat_zeros (n : Nat) : byA (flat (List.replicate n 0)) = List.replicate (n * 8) (.v (.int .u8 0)) := by
  induction n with
  | zero => rfl
  | succ n ih =>
    rw [List.replicate_succ, show flat (0 :: List.replicate n 0) = nameB 0 ++ flat (List.replicate n 0) from rfl, byA_append, ih, Nat.succ_mul, Nat.add_comm (n * 8) 8, ← List.replicate_append_replicate]
    rfl
theorem agu_nm {ns : List UInt64} {i : Nat} (h : i < ns.length) : agu (.v (.agg (nameC (ns.getD i 0)))) (((byA (flat ns)).drop (i * 8)).take 8) := by
  rw [byA_drop, byA_take, flat_at ns i h]
  exact agu_v _
theorem agu_nm0 {ns : List UInt64} (h : 0 < ns.length) : agu (.v (.agg (nameC (ns.getD 0 0)))) (((byA (flat ns)).drop 0).take 8) := agu_nm (i := 0) h

/-- numbers as cells -/
def inA (l : List Int) : List AV := (l.map (Value.int .i64)).map .v
instance (l : List Int) : CloL (inA l) := CloL.vals _
instance (l : List Int) : ValL (inA l) := ValL.vals _
theorem inA_length (l : List Int) : (inA l).length = l.length := by simp [inA]
theorem inA_ones (l : List Int) : (inA l).all AV.one = true := by simp [inA, AV.one, Value.oneCell']
instance (l : List Int) : OneL (inA l) := ⟨inA_ones l⟩
theorem in_get {l : List Int} {i : Nat} (h : i < l.length) : (inA l)[i * 1]? = some (.v (.int .i64 (l.getD i 0))) := by
  rw [Nat.mul_one]; simp [inA, List.getElem?_eq_getElem h, List.getD_eq_getElem?_getD]
theorem in_get0 {l : List Int} {i : Nat} (h : i < l.length) : ((inA l).drop (i * 1))[0]? = some (.v (.int .i64 (l.getD i 0))) := by
  rw [List.getElem?_drop, Nat.add_zero]; exact in_get h
theorem by_get {bs : List UInt8} {i : Nat} (h : i < bs.length) : (byA bs)[i * 1]? = some (.v (.int .u8 ((bs.getD i 0).toNat : Int))) := by rw [Nat.mul_one]; exact byA_get bs i h
theorem by_get0 {bs : List UInt8} {i : Nat} (h : i < bs.length) : ((byA bs).drop (i * 1))[0]? = some (.v (.int .u8 ((bs.getD i 0).toNat : Int))) := by
  rw [List.getElem?_drop, Nat.add_zero]; exact by_get h
theorem by_getc {bs : List UInt8} {i : Nat} (h : i < bs.length) : (byA bs)[i]? = some (.v (.int .u8 ((bs.getD i 0).toNat : Int))) := byA_get bs i h
theorem byA_ne {bs : List UInt8} (h : 0 < bs.length) : byA bs ≠ [] := fun e => by have := congrArg List.length e; rw [byA_length, List.length_nil] at this; omega
theorem flat_ne {ns : List UInt64} (h : 0 < ns.length) : byA (flat ns) ≠ [] := byA_ne (by rw [flat_length]; omega)
section
variable {P : Program} {k : Nat} {H : AH} {T : AT} {d : Option Tmp} {ty t t' : TypeId} {ps : String} {af : Array Edge} {gd : Option (Nat × Bool)} {x y : Operand}
/-- l[i] = v, names -/
theorem s_storeNm {b i : Nat} {ns : List UInt64} {v : UInt64} {e : TypeId} {sz : Nat} {ag : Bool} [ht : TI P t ag 8] (hx : ev T x = some (.pt b (i * 8))) (hy : ev T y = some (.v (.agg (nameC v)))) (hb : hk H b = some ⟨byA (flat ns), e, sz⟩) (hi : i < ns.length) :
    StepU P ⟨d, .store t x y, ty, ps, af, gd⟩ k [b] H T (.v undef) [(b, some ⟨byA (flat (ns.set i v)), e, sz⟩)] := by
  have := s_store (P := P) (k := k) (d := d) (ty := ty) (ps := ps) (af := af) (gd := gd) (t := t) hx hy hb rfl rfl (by show i * 8 + 8 ≤ (byA (flat ns)).length; rw [byA_length, flat_length]; omega)
  have e : spl (byA (flat ns)) (i * 8) (cu (.v (.agg (nameC v)))) = byA (flat (ns.set i v)) := by
    rw [← flat_set ns i v hi, cu_name]
    unfold spl
    rw [byA_append, byA_append, byA_take, byA_drop, byA_length, nameB_length]
  simp only [e] at this
  exact this
/-- an array in memory that nobody changes, as a slice -/
theorem s_slAE {lo hi mx : Option Operand} {n size l h m : Nat} {cs : List AV} [hA : AI P t n size] (hx : ev T x = some (.ep cs)) (hlo : Bnd T lo l 0) (hhi : Bnd T hi h n) (hmx : Bnd T mx m n) (hhm : hi = none → mx = none)
    (h1 : l ≤ h) (h2 : h ≤ m) (h3 : m ≤ n) : StepU P ⟨d, .slice t x lo hi mx, ty, ps, af, gd⟩ k [] H T (.ex (h - l) (decide (m = h)) ((cs.drop (l * size)).take ((h - l) * size))) [] :=
  .of_pure fun _ _ _ E a hs hU hT => by
    obtain ⟨e, hu, hsz⟩ := hA.hu
    have hv := hT x (by simp [Op.operands]) _ hx
    generalize hy : a.eval x = v at hv
    cases hv with
    | ep cs g o xs hg hS hl hx' hr =>
      have b1 := bnd_map (E := E) (a := a) hlo (l := (Op.slice t x lo hi mx).operands.toList) (fun y hy => by subst hy; simp [Op.operands]) (fun y hy => hT y (by simpa using hy))
      have b2 := bnd_map (E := E) (a := a) hhi (l := (Op.slice t x lo hi mx).operands.toList) (fun y hy => by subst hy; simp [Op.operands]) (fun y hy => hT y (by simpa using hy))
      have b3 := bnd_map (E := E) (a := a) hmx (l := (Op.slice t x lo hi mx).operands.toList) (fun y hy => by subst hy; simp [Op.operands]) (fun y hy => hT y (by simpa using hy))
      have hrb := run_bounds (P := P) (isS := false) (len := n) (cap := n) (l := l) (h := h) (m := m) (lo := lo.map a.eval) (hi := hi.map a.eval) (mx := mx.map a.eval) E.w b1
        b2 (by cases hi with
            | none => have := hhm rfl; subst this; exact fun _ => rfl
            | some y => exact fun h => by cases h) b3 h1 h2 h3
      refine ⟨.slice (some (if m = l then ⟨g, o, none⟩ else ⟨g, o + l * size, none⟩)) (h - l) (m - l), ?_, ?_⟩
      · simp only [execOp, hy, Instr.sliceAt, run_underlying hu, Instr.sureAddr, Sem.run_bind, Sem.run_pure, Result.andThen_ok, hrb, run_sizeOf' hsz, addr_at]
      · have hfull : decide (m = h) = true → m - l = h - l := fun h => by rw [of_decide_eq_true h]
        by_cases hz : (cs.drop (l * size)).take ((h - l) * size) = []
        · rw [hz]; exact .ex0 _ _ _ _ (by omega) hfull
        · have hlh : l < h := by
            rcases Nat.lt_or_ge l h with h'' | h''
            · exact h''
            · exact absurd (by rw [show h - l = 0 by omega]; simp) hz
          rw [if_neg (by omega)]
          have hR : RVs E ((cs.drop (l * size)).take ((h - l) * size)) ((xs.drop (l * size)).take ((h - l) * size)) := (RVs.drop ⟨hl, hr⟩ _).take _
          refine .ex _ _ _ g (o + l * size) _ ((xs.drop (l * size)).take ((h - l) * size)) (by omega) hfull hg hS hR.1 (fun j y hj => ?_) hR.2
          rw [List.getElem?_take] at hj
          split at hj
          · rw [List.getElem?_drop] at hj; rw [Nat.add_assoc]; exact hx' _ y hj
          · cases hj
/-- l[i][:] of names that nobody changes -/
theorem rd_nmE {n i : Nat} {f : Bool} {ns : List UInt64} {m : Nat} (hn : n = 8) (hm : m = 8) (hi : i < ns.length) : Rdv H 1 (.ex n f ((((byA (flat ns)).drop (i * 8)).drop 0).take m)) n (byA (nameB (ns.getD i 0))) [] := by
  subst hn hm
  rw [List.drop_zero, byA_drop, byA_take, flat_at ns i hi]
  exact rd_ex (by rw [byA_length, nameB_length])

/-! literals of elements -/
theorem fill_agg (size : Nat) (hp : 0 < size) (pl : Nat → Option (Nat × Nat)) (hpl : ∀ i, pl i = some (i * size, size)) : ∀ (ps : List (Nat × Value)) (o : Nat) (cs : Array Value), (∀ (j : Nat) (p : Nat × Value), ps[j]? = some p → p.1 = o + j ∧ p.2.cells.size = size) → cs.size = (o + ps.length) * size →
    Instr.fill pl cs ps = some (cs.toList.take (o * size) ++ (ps.map fun p => p.2.cells.toList).flatten).toArray
  | [], o, cs, _, hs => by
    simp only [Instr.fill, List.map_nil, List.flatten_nil, List.append_nil]
    rw [List.take_of_length_le (by simp at hs ⊢; omega)]
  | (i, v) :: rest, o, cs, h, hs => by
    obtain ⟨h1, h2⟩ := h 0 (i, v) rfl
    simp only [Nat.add_zero] at h1
    simp only at h2
    subst h1
    simp only [List.length_cons] at hs
    have hroom : i * size + size ≤ cs.size := by rw [hs, Nat.add_mul, Nat.add_mul]; omega
    have hput : ∀ (vs : List Value) (off : Nat) (c0 : Array Value), off + vs.length ≤ c0.size → ((vs.toArray.zipIdx).foldl (fun cs (x : Value × Nat) => match x with | (c, j) => cs.setIfInBounds (off + j) c) c0) = (c0.toList.take off ++ vs ++ c0.toList.drop (off + vs.length)).toArray := by
      intro vs off c0
      have gen : ∀ (vs : List Value) (k : Nat) (c0 : Array Value), off + k + vs.length ≤ c0.size → ((vs.zipIdx k).foldl (fun cs (x : Value × Nat) => match x with | (c, j) => cs.setIfInBounds (off + j) c) c0) = (c0.toList.take (off + k) ++ vs ++ c0.toList.drop (off + k + vs.length)).toArray := by
        intro vs
        induction vs with
        | nil => intro k c0 _; simp
        | cons v vs ih =>
          intro k c0 hc
          simp only [List.length_cons] at hc
          simp only [List.zipIdx_cons, List.foldl_cons]
          rw [ih (k + 1) _ (by simp; omega)]
          have := list_seg_step c0.toList (off + k) v vs (by simp; omega)
          simp only [Array.toList_setIfInBounds, List.length_cons]
          rw [← Nat.add_assoc off k 1, this]
      intro hc
      have := gen vs 0 c0 (by simpa using hc)
      simp only [Nat.add_zero] at this
      rw [← this]
      rw [← Array.foldl_toList]
      simp
    have ih := fill_agg size hp pl hpl rest (i + 1) (cs.toList.take (i * size) ++ v.cells.toList ++ cs.toList.drop (i * size + v.cells.toList.length)).toArray (fun j p hp => by have := h (j + 1) p (by simpa using hp); exact ⟨by omega, this.2⟩) (by
      simp only [List.size_toArray, List.length_append, List.length_take, List.length_drop, Array.length_toList, h2]
      rw [show i + 1 + rest.length = i + (rest.length + 1) by omega, ← hs]; omega)
    have hv := hput v.cells.toList (i * size) cs (by simp [h2]; exact hroom)
    have hng : ¬ (i * size + size > cs.size) := by omega
    simp only [Array.toArray_toList] at hv
    simp only [Instr.fill, hpl, h2, hv, ih]
    simp only [ne_eq, not_true_eq_false, decide_false, Bool.false_or, decide_eq_true_eq, hng, if_false, List.map_cons, List.flatten_cons]
    congr 2
    rw [Nat.succ_mul]
    have hl1 : (cs.toList.take (i * size) ++ v.cells.toList).length = i * size + size := by simp [h2]; omega
    have e1 : (cs.toList.take (i * size) ++ v.cells.toList ++ cs.toList.drop (i * size + v.cells.toList.length)).toArray.toList.take (i * size + size) = cs.toList.take (i * size) ++ v.cells.toList := List.take_left' hl1
    rw [e1, List.append_assoc]
    rfl
/-- the parts of a literal: element after element -/
inductive PA (T : AT) (size : Nat) : Nat → List (Nat × Operand) → List AV → Prop
  | nil {i : Nat} : PA T size i [] []
  | cons {i i' : Nat} {x : Operand} {u : AV} {l : List (Nat × Operand)} {cs : List AV} (hi : i' = i) (hx : ev T x = some u) (h1 : (cu u).length = size) (k : PA T size (i + 1) l cs) : PA T size i ((i', x) :: l) (cu u ++ cs)
theorem PA.rvs {size i : Nat} {l : List (Nat × Operand)} {cs : List AV} {E : Env} {a : Act} (h : PA T size i l cs) (hT : ∀ x ∈ l.map (·.2), ∀ u, ev T x = some u → RV E u (a.eval x)) :
    RVs E cs ((l.map fun p => (a.eval p.2).cells.toList).flatten) ∧ ∀ (j : Nat) (p : Nat × Operand), l[j]? = some p → p.1 = i + j ∧ (a.eval p.2).cells.size = size := by
  induction h with
  | nil => exact ⟨RVs.nil E, fun j p hp => by simp at hp⟩
  | cons hi hx h1 _ ih =>
    have hr := (hT _ (by simp) _ hx).cu
    obtain ⟨i1, i2⟩ := ih (fun y hy => hT y (by simp at hy ⊢; exact .inr hy))
    refine ⟨by simp only [List.map_cons, List.flatten_cons]; exact hr.append i1, fun j p hp => ?_⟩
    cases j with
    | zero => simp at hp; subst hp; exact ⟨hi, by have := hr.1; rw [Array.length_toList] at this; exact this.trans h1⟩
    | succ j => have := i2 j p (by simpa using hp); exact ⟨by omega, this.2⟩
theorem s_lit {l : List (Nat × Operand)} {cs : List AV} {n size bytes : Nat} {e : TypeId} {z : Value} [hS : SI P t e size bytes z] (h : PA T size 0 l cs) (hn : l.length = n) (hsmall : n * size ≤ 16777216) :
    StepU P ⟨d, .buildSlice t n l.toArray, ty, ps, af, gd⟩ k [] H T (.sl k n) [(k, some ⟨cs, e, size⟩)] :=
  .of_alloc fun w0 M Hr E a hs hU hT => by
    obtain ⟨hR, hq⟩ := h.rvs (E := E) (a := a) (fun x hx => hT x (by simpa [Op.operands] using hx))
    have hi := hS.info
    have hlen : ((l.map fun p => (a.eval p.2).cells.toList).flatten).length = n * size := by
      have : ∀ (l : List (Nat × Operand)), (∀ p ∈ l, (a.eval p.2).cells.size = size) → ((l.map fun p => (a.eval p.2).cells.toList).flatten).length = l.length * size := by
        intro l
        induction l with
        | nil => intro _; simp
        | cons p l ih => intro hp; simp only [List.map_cons, List.flatten_cons, List.length_append, List.length_cons, Array.length_toList, hp p (by simp), ih (fun q hq => hp q (by simp [hq]))]; rw [Nat.succ_mul]; omega
      rw [this l (fun p hp => by obtain ⟨j, hj⟩ := List.getElem?_of_mem hp; exact (hq j p hj).2), hn]
    have hbp := hS.bpos
    have hcm : n ≤ maxLen := by
      have := Nat.le_mul_of_pos_right n hS.pos
      simp only [maxLen]; omega
    refine ⟨.slice (some ⟨E.w.heap.size, 0, none⟩) n n, ((l.map fun p => (a.eval p.2).cells.toList).flatten).toArray, n, ?_, hcm, by simp [hlen], by show cs.length ≤ _; rw [List.size_toArray, hR.1]; exact Nat.le_refl _, ?_, fun E' hL hD => ?_⟩
    · cases hqi : P.info? e with
      | none => simp [hqi] at hi
      | some i =>
        simp only [hqi, Option.map_some, Option.some.injEq, Prod.mk.injEq] at hi
        obtain ⟨i1, i2, i3⟩ := hi
        have hmap : (l.toArray.map fun (i, x) => (i, a.eval x)) = (l.map fun p => (p.1, a.eval p.2)).toArray := by simp
        have hfz : ∀ zc : Array Value, Instr.fill (fun j => some (j * i.size, i.size)) ((Array.range (n * i.size)).map (zc[· % zc.size]!)) (l.map fun p => (p.1, a.eval p.2)) = some ((l.map fun p => (a.eval p.2).cells.toList).flatten).toArray := fun zc => by
          rw [fill_agg i.size (by rw [i2]; exact hS.pos) _ (fun j => rfl) (l.map fun p => (p.1, a.eval p.2)) 0 _ (fun j p hp => by
            rw [List.getElem?_map] at hp
            cases hl : l[j]? with
            | none => rw [hl] at hp; cases hp
            | some q => rw [hl] at hp; simp at hp; subst hp; rw [i2]; exact hq j q hl) (by simp [hn])]
          simp [List.map_map, Function.comp_def]
        have hb : ¬ n * i.size > 2 ^ 24 := by rw [i2]; omega
        by_cases hn0 : n * i.size = 0
        · have := hfz #[]
          rw [hn0] at this
          simp only [execOp, hmap, Instr.buildSlice, run_underlying hS.under, sizeOf, typeInfo, zeroValue, Sem.run_bind, Sem.run_pure, Result.andThen_ok]
          simp [hqi, hn0, newRow] at this ⊢
          simp [this]
        · have := hfz z.cells
          simp only [execOp, hmap, Instr.buildSlice, run_underlying hS.under, sizeOf, typeInfo, zeroValue, Sem.run_bind, Sem.run_pure, Result.andThen_ok]
          simp [hqi, hb, hn0, i1, this, newRow]
    · show RVs E cs (List.take cs.length _)
      rw [List.take_of_length_le (by rw [← hR.1]; simp)]
      exact hR
    · have : RV E' (.sl k n) (.slice ((E'.L k).g.map fun g => ⟨g, 0, none⟩) n (E'.L k).c) := .sl _ _ hD (by rw [hL]; exact Nat.le_refl _)
      rw [hL] at this
      exact this
/-- a zero value -/
class BI (P : Program) (t : TypeId) (z : outParam Value) : Prop where
  h : ∀ w, (Instr.build t #[]).run P w = .ok z w
theorem s_zero {z : Value} [h : BI P t z] : StepU P ⟨d, .build t #[], ty, ps, af, gd⟩ k [] H T (.v z) [] :=
  s_build (l := []) rfl (fun w => h.h w)
end
end Go.Proofs.Ytnghcfjejgdnlaa
