/-
  Layer 2: the law CodecApart returns true. Conditions: lengths below 2^47.
-/
import Derived.Test.YtnghcfjejgdnlaaBk4
set_option linter.unusedSimpArgs false
set_option linter.unusedVariables false
set_option linter.unusedSectionVars false
namespace Go.Proofs.Ytnghcfjejgdnlaa
open Go.ChangeShapes Go.WideShapes Go.ChangeAt Go.RowKit
theorem rv_struct {P : Program} {w : World} {r : Reach} {b0 : Nat} {t : TypeId} {v : Value} {fs : Array Field} {E : Env} {cs : List AV} (ht : P.underlying t = some (.struct fs)) (hv : Value.okWide P w r b0 t v) (h : RVs E cs v.cells.toList) : RV E (.ag cs) v := by
  simp only [Value.okWide, ht] at hv
  obtain ⟨xs, rfl, _⟩ := hv
  exact .ag _ _ (by simpa [Value.cells] using h.1) (fun j c x hc hx => h.2 j c x hc (by simpa [Value.cells] using hx))
theorem beB_mod (v u : UInt64) : ∀ w, v.toNat % 256 ^ w = u.toNat % 256 ^ w → beB v w = beB u w
  | 0, _ => rfl
  | w + 1, h => by
    have hp : 0 < 256 ^ w := Nat.pow_pos (by decide)
    rw [Nat.pow_succ, Nat.mod_mul, Nat.mod_mul] at h
    have h1 := Nat.mod_lt v.toNat hp
    have h2 := Nat.mod_lt u.toNat hp
    have e1 : v.toNat % 256 ^ w = u.toNat % 256 ^ w := by
      have := congrArg (· % 256 ^ w) h
      simpa [Nat.add_mul_mod_self_left, Nat.mod_eq_of_lt h1, Nat.mod_eq_of_lt h2] using this
    have e2 : v.toNat / 256 ^ w % 256 = u.toNat / 256 ^ w % 256 := by
      rw [e1] at h
      exact Nat.eq_of_mul_eq_mul_left hp (by omega)
    rw [beB_succ, beB_succ, beB_mod v u w e1]
    congr 1
    exact UInt8.toNat_inj.1 (by rw [byteAt_nat, byteAt_nat, e2])
theorem enc_eq0 {x y : Vl} (hx : kindN x = 0) (hy : kindN y = 0) (hw : widN y = widN x) : encV x = encV y ↔ (numN y).toNat = (numN x).toNat := by
  rw [enc0 hx, enc0 hy, numN_mod, numN_mod, hw]
  constructor
  · intro h
    have := congrArg (fun l => (rdU l).toNat) h
    simp only [rdU_beB _ _ (widN_bd x).2] at this
    exact this.symm
  · intro h; exact beB_mod _ _ _ h.symm
theorem enc_eq1 {x y : Vl} (hx : kindN x = 1) (hy : kindN y = 1) : encV x = encV y ↔ y.p = x.p := by
  rw [enc1 hx, enc1 hy]
  constructor
  · intro h
    have := congrArg (List.drop 2) h
    rw [List.drop_left' (beB_length _ _), List.drop_left' (beB_length _ _)] at this
    exact this.symm
  · intro h; rw [h]
theorem enc_eq2 {x y : Vl} (hx : kindN x = 2) (hy : kindN y = 2) : encV x = encV y ↔ y.l = x.l := by
  rw [enc2 hx, enc2 hy]
  constructor
  · intro h
    have := congrArg (List.drop 1) h
    rw [List.drop_left' (beB_length _ _), List.drop_left' (beB_length _ _)] at this
    exact (flat_inj this).symm
  · intro h; rw [h]
theorem wB_eq (l : List Vl) (c : Nat) (x y : Vl) (hx : l[c]? = some x) : (wB [] l l.length = wB [] (l.set c y) l.length) ↔ encV x = encV y := by
  obtain ⟨hc, _⟩ := List.getElem?_eq_some_iff.1 hx
  have h1 := wB_split [] l c x hx
  have h2 := wB_split [] (l.set c y) c y (by simp [hc])
  rw [List.length_set] at h2
  have e1 : wB [] (l.set c y) c = wB [] l c := by unfold wB; rw [List.take_set_of_le (Nat.le_refl c)]
  have e2 : (l.set c y).drop (c + 1) = l.drop (c + 1) := by rw [List.drop_set_of_lt (by omega)]
  rw [e1, e2] at h2
  rw [h1, h2]
  constructor
  · intro h
    rw [List.append_assoc, List.append_assoc] at h
    exact List.append_cancel_right (List.append_cancel_left h)
  · intro h; rw [h]
theorem beq_iff {α : Type} [BEq α] [LawfulBEq α] {a b : α} {p : Prop} [Decidable p] (h : a = b ↔ p) : ((a == b) == decide p) = true := by
  by_cases hp : p
  · have := h.2 hp; subst this; simp [hp]
  · have : a ≠ b := fun e => hp (h.1 e)
    simp [hp, this]
theorem bool_iff {α β : Type} [BEq α] [LawfulBEq α] [BEq β] [LawfulBEq β] {a b : α} {c d : β} (h : a = b ↔ c = d) : ((a == b) == (c == d)) = true := by
  by_cases hp : c = d
  · have := h.2 hp; subst this hp; simp
  · have : a ≠ b := fun e => hp (h.1 e)
    rw [beq_eq_false_iff_ne.2 this, beq_eq_false_iff_ne.2 hp]; rfl
theorem spl_set : ∀ (l : List Vl) (c : Nat) (y : Vl), c < l.length → spl (l.flatMap valC) (c * 5) (valC y) = (l.set c y).flatMap valC
  | [], c, y, h => by simp at h
  | x :: l, 0, y, h => by simp [spl, valC]
  | x :: l, c + 1, y, h => by
    have ih := spl_set l c y (by simpa using h)
    have hl : (valC x).length = 5 := rfl
    unfold spl at ih ⊢
    rw [List.set_cons_succ, List.flatMap_cons, List.flatMap_cons, ← ih]
    have e1 : (c + 1) * 5 = (valC x).length + c * 5 := by rw [hl]; omega
    have e2 : (c + 1) * 5 + (valC y).length = (valC x).length + (c * 5 + (valC y).length) := by rw [hl]; omega
    rw [e2, e1, List.take_length_add_append, List.drop_length_add_append]
    simp only [List.append_assoc]
instance (l : List Vl) : OneL (l.flatMap valC) := ⟨List.all_eq_true.2 fun d hd => by
  obtain ⟨x, _, hx⟩ := List.mem_flatMap.1 hd
  simp only [valC, List.mem_cons, List.not_mem_nil, or_false] at hx
  rcases hx with rfl | rfl | rfl | rfl | rfl <;> rfl⟩
theorem vals_at (l : List Vl) (c j : Nat) (u : AV) (x : Vl) (hx : l[c]? = some x) (hu : (valC x)[j]? = some u) : (l.flatMap valC)[c * 5 + j]? = some u := by
  have e : (l.flatMap valC)[c * 5 + j]? = ((l.flatMap valC).drop (c * 5))[j]? := by rw [List.getElem?_drop]
  have hd := vals_drop l c x hx
  rw [e, hd]
  match j, hu with
  | 0, hu => exact hu
  | 1, hu => exact hu
  | 2, hu => exact hu
  | 3, hu => exact hu
  | 4, hu => exact hu
  | j + 5, hu => simp [valC] at hu
theorem write_all' (head : List UInt8) (l : List Vl) (f g : Bool) (L : Nat) (hL : l.length = L) (h : head.length ≤ 140737488351232) (hl : L ≤ 60) (hl0 : 0 < L) (ho : ∀ x ∈ l, okE x) :
    Fresh Try.prog 10 [.ex head.length f (byA head), .ex L g (l.flatMap valC)] (fun k => .tp [.sl k (wN head l L), .v (.bool true)]) [⟨byA (wB head l L), 5, 1⟩] := by subst hL; exact write_all head l f g h hl hl0 ho
theorem write_bad' (head : List UInt8) (l : List Vl) (f g : Bool) (L : Nat) (hL : l.length = L) (h : head.length ≤ 140737488351232) (hl : L ≤ 60) (hl0 : 0 < L) (ho : ∃ x ∈ l, ¬ okE x) :
    Fresh Try.prog 10 [.ex head.length f (byA head), .ex L g (l.flatMap valC)] (fun k => .tp [.v (.slice none 0 0), .v (.bool false)]) [] := by subst hL; exact write_bad head l f g h hl hl0 ho
theorem no_all {l : List Vl} (h : ¬ ∀ x ∈ l, okE x) : ∃ x ∈ l, ¬ okE x := Classical.byContradiction fun hc => h fun y hy => Classical.byContradiction fun hb => hc ⟨y, hy, hb⟩
theorem apart_some (l : List Vl) (ix : Int) (o : Vl) (L : Nat) (hL : l.length = L) (hl : L ≤ 60) (hl0 : 0 < L) (hol : o.l.length ≤ 140737488351232) :
    Fresh Try.prog 3 [.ex L false (l.flatMap valC), .v (.int .i64 ix), .ag (valC o)] (fun _ => .v (.bool true)) [] := by
  have hT : (toU64 (L : Int)).toNat = L := toU64_nat L (by omega)
  have hpos : 0 < (toU64 (L : Int)).toNat := by omega
  obtain ⟨c, hc⟩ : ∃ c, c = (toU64 ix).toNat % (toU64 (L : Int)).toNat := ⟨_, rfl⟩
  have hlt : c < L := by have := Nat.mod_lt (toU64 ix).toNat hpos; rw [← hc, hT] at this; exact this
  have hb : (toU64 ix).toNat % (toU64 (L : Int)).toNat < L := by rw [← hc]; exact hlt
  obtain ⟨x, hx⟩ : ∃ x, l[c]? = some x := ⟨l[c], List.getElem?_eq_getElem (by omega)⟩
  have hd := vals_drop l c x hx
  have hne := vals_ne l (by omega)
  have hvl := vals_len l
  rw [hL] at hvl
  have hk0 : (l.flatMap valC)[c * 5 + 0]? = some (.v (.int .i64 x.kind)) := vals_at l c 0 _ x hx rfl
  have hk1 : (l.flatMap valC)[c * 5 + 1]? = some (.v (.int .i64 x.width)) := vals_at l c 1 _ x hx rfl
  have hnz : ¬ (L = 0) := by omega
  have hng : ¬ (60 < L) := by omega
  obtain ⟨y, hy⟩ : ∃ y : Vl, y = ⟨x.kind, x.width, o.v, o.p, o.l⟩ := ⟨_, rfl⟩
  have hsp := spl_set l c y (by omega)
  have hsl : (l.set c y).length = L := by rw [List.length_set]; exact hL
  rw [show valC o = [.v (.int .i64 o.kind), .v (.int .i64 o.width), .v (.int .u64 (o.v.toNat : Int)), .ex o.p.length false (byA o.p), .ex o.l.length false (byA (flat o.l))] from rfl]
  refine Fresh.of (fn := Try.f3) Try.func3 rfl (Nat.le_of_ble_eq_true rfl) fun w => ?_
  ((with_reducible refine Gol.seq ?_); (with_reducible apply Gol.region); apply Trc.step rfl rfl; exact wnt_n rfl; (with_reducible apply s_box); exact rfl
   exact rfl; dsimp only [Nat.reduceAdd, Nat.reduceMul, Nat.reduceSub, List.nil_append, List.cons_append, nbk, List.map_cons, List.map_nil]; apply Trc.step rfl rfl
   exact wnt_n rfl; (with_reducible apply s_assign); exact rfl; dsimp only [Nat.reduceAdd, Nat.reduceMul, Nat.reduceSub, List.nil_append, List.cons_append, nbk, List.map_cons, List.map_nil]
   exact Trc.done _ _ _; exact rfl; (with_reducible refine thn_n ?_); (with_reducible refine Gol.seq ?_); (with_reducible refine Gol.seq ?_); (with_reducible apply Gol.region)
   apply Trc.step rfl rfl; exact wnt_n rfl; (with_reducible apply s_move); exact rfl; dsimp only [Nat.reduceAdd, Nat.reduceMul, Nat.reduceSub, List.nil_append, List.cons_append, nbk, List.map_cons, List.map_nil]
   apply Trc.step rfl rfl; exact wnt_n rfl; (with_reducible apply s_len); exact rfl; exact ln_ex; dsimp only [Nat.reduceAdd, Nat.reduceMul, Nat.reduceSub, List.nil_append, List.cons_append, nbk, List.map_cons, List.map_nil]
   apply Trc.step rfl rfl; exact wnt_n rfl; (with_reducible apply s_eqn); exact rfl; exact rfl; dsimp only [Nat.reduceAdd, Nat.reduceMul, Nat.reduceSub, List.nil_append, List.cons_append, nbk, List.map_cons, List.map_nil]
   apply Trc.step rfl rfl; exact wnt_n rfl; (with_reducible apply s_move); exact rfl; dsimp only [Nat.reduceAdd, Nat.reduceMul, Nat.reduceSub, List.nil_append, List.cons_append, nbk, List.map_cons, List.map_nil]
   apply Trc.step rfl rfl; apply wnt_g; exact rfl; exact rfl; exact rfl; (focus (simp only [*]; rfl)); (with_reducible apply s_move); exact rfl; dsimp only [Nat.reduceAdd, Nat.reduceMul, Nat.reduceSub, List.nil_append, List.cons_append, nbk, List.map_cons, List.map_nil]
   apply Trc.step rfl rfl; apply wnt_g; exact rfl; exact rfl; exact rfl; (focus (simp only [*]; rfl)); (with_reducible apply s_len); exact rfl; exact ln_ex
   dsimp only [Nat.reduceAdd, Nat.reduceMul, Nat.reduceSub, List.nil_append, List.cons_append, nbk, List.map_cons, List.map_nil]; apply Trc.step rfl rfl
   apply wnt_g; exact rfl; exact rfl; exact rfl; (focus (simp only [*]; rfl)); (with_reducible apply s_gtn); exact rfl; exact rfl; dsimp only [Nat.reduceAdd, Nat.reduceMul, Nat.reduceSub, List.nil_append, List.cons_append, nbk, List.map_cons, List.map_nil]
   apply Trc.step rfl rfl; exact wnt_n rfl; (with_reducible apply s_pick_f); exact rfl; (focus (simp only [*]; rfl)); exact rfl; dsimp only [Nat.reduceAdd, Nat.reduceMul, Nat.reduceSub, List.nil_append, List.cons_append, nbk, List.map_cons, List.map_nil]
   exact Trc.done _ _ _; exact rfl; (with_reducible refine thn_n ?_))
  refine Gol.cond_f rfl (by simp; omega) ?_
  ((with_reducible refine Gol.skip ?_); (with_reducible refine thn_n ?_); (with_reducible refine Gol.seq ?_); (with_reducible apply Gol.region); apply Trc.step rfl rfl
   exact wnt_n rfl; (with_reducible apply s_move); exact rfl; dsimp only [Nat.reduceAdd, Nat.reduceMul, Nat.reduceSub, List.nil_append, List.cons_append, nbk, List.map_cons, List.map_nil]
   apply Trc.step rfl rfl; exact wnt_n rfl; (with_reducible apply s_cu64); exact rfl; dsimp only [Nat.reduceAdd, Nat.reduceMul, Nat.reduceSub, List.nil_append, List.cons_append, nbk, List.map_cons, List.map_nil]
   apply Trc.step rfl rfl; exact wnt_n rfl; (with_reducible apply s_move); exact rfl; dsimp only [Nat.reduceAdd, Nat.reduceMul, Nat.reduceSub, List.nil_append, List.cons_append, nbk, List.map_cons, List.map_nil]
   apply Trc.step rfl rfl; exact wnt_n rfl; (with_reducible apply s_len); exact rfl; exact ln_ex; dsimp only [Nat.reduceAdd, Nat.reduceMul, Nat.reduceSub, List.nil_append, List.cons_append, nbk, List.map_cons, List.map_nil]
   apply Trc.step rfl rfl; exact wnt_n rfl; (with_reducible apply s_cu64); exact rfl; dsimp only [Nat.reduceAdd, Nat.reduceMul, Nat.reduceSub, List.nil_append, List.cons_append, nbk, List.map_cons, List.map_nil]
   apply Trc.step rfl rfl; exact wnt_n rfl; (with_reducible apply s_remn); exact rfl; exact rfl; omega; dsimp only [Nat.reduceAdd, Nat.reduceMul, Nat.reduceSub, List.nil_append, List.cons_append, nbk, List.map_cons, List.map_nil]
   apply Trc.step rfl rfl; exact wnt_n rfl; (with_reducible apply s_ci64); exact rfl; omega; dsimp only [Nat.reduceAdd, Nat.reduceMul, Nat.reduceSub, List.nil_append, List.cons_append, nbk, List.map_cons, List.map_nil]
   apply Trc.step rfl rfl; exact wnt_n rfl; (with_reducible apply s_assign); exact rfl; dsimp only [Nat.reduceAdd, Nat.reduceMul, Nat.reduceSub, List.nil_append, List.cons_append, nbk, List.map_cons, List.map_nil]
   exact Trc.done _ _ _; exact rfl; (with_reducible refine thn_n ?_); (with_reducible refine Gol.seq ?_); (with_reducible apply Gol.region); apply Trc.step rfl rfl
   exact wnt_n rfl; (with_reducible apply s_lit); exact PA.nil; exact rfl; omega; dsimp only [Nat.reduceAdd, Nat.reduceMul, Nat.reduceSub, List.nil_append, List.cons_append, nbk, List.map_cons, List.map_nil]
   apply Trc.step rfl rfl; exact wnt_n rfl; (with_reducible apply s_move); exact rfl; dsimp only [Nat.reduceAdd, Nat.reduceMul, Nat.reduceSub, List.nil_append, List.cons_append, nbk, List.map_cons, List.map_nil]
   apply Trc.step rfl rfl; exact wnt_n rfl; (with_reducible apply s_app); exact rfl; exact rfl; exact rfl; apply rd_ex; assumption; rfl; exact rfl; exact rfl
   exact OneL.one; omega; dsimp only [Nat.reduceAdd, Nat.reduceMul, Nat.reduceSub, List.nil_append, List.cons_append, nbk, List.map_cons, List.map_nil]; apply Trc.step rfl rfl
   exact wnt_n rfl; (with_reducible apply s_assign); exact rfl; dsimp only [Nat.reduceAdd, Nat.reduceMul, Nat.reduceSub, List.nil_append, List.cons_append, nbk, List.map_cons, List.map_nil]
   exact Trc.done _ _ _; exact rfl; (with_reducible refine thn_n ?_); (with_reducible refine Gol.seq ?_))
  rw [← hc]
  simp only [Nat.zero_add]
  ((with_reducible apply Gol.any); kernel_rfl; apply Trc.step rfl rfl; exact wnt_n rfl; (with_reducible apply s_move); exact rfl; dsimp only [Nat.reduceAdd, Nat.reduceMul, Nat.reduceSub, List.nil_append, List.cons_append, nbk, List.map_cons, List.map_nil]
   apply Trc.step rfl rfl; exact wnt_n rfl; (with_reducible apply s_move); exact rfl; dsimp only [Nat.reduceAdd, Nat.reduceMul, Nat.reduceSub, List.nil_append, List.cons_append, nbk, List.map_cons, List.map_nil]
   apply Trc.step rfl rfl; exact wnt_n rfl; (with_reducible apply s_ixl); exact rfl; exact rfl; exact rfl; omega; dsimp only [Nat.reduceAdd, Nat.reduceMul, Nat.reduceSub, List.nil_append, List.cons_append, nbk, List.map_cons, List.map_nil]
   apply Trc.step rfl rfl; exact wnt_n rfl; (with_reducible apply s_fieldAddr); exact rfl; dsimp only [Nat.reduceAdd, Nat.reduceMul, Nat.reduceSub, List.nil_append, List.cons_append, nbk, List.map_cons, List.map_nil]
   apply Trc.step rfl rfl; exact wnt_n rfl; apply s_load; exact rfl; exact rfl; exact hk0; dsimp only [Nat.reduceAdd, Nat.reduceMul, Nat.reduceSub, List.nil_append, List.cons_append, nbk, List.map_cons, List.map_nil]
   apply Trc.step rfl rfl; exact wnt_n rfl; (with_reducible apply s_move); exact rfl; dsimp only [Nat.reduceAdd, Nat.reduceMul, Nat.reduceSub, List.nil_append, List.cons_append, nbk, List.map_cons, List.map_nil]
   apply Trc.step rfl rfl; exact wnt_n rfl; (with_reducible apply s_move); exact rfl; dsimp only [Nat.reduceAdd, Nat.reduceMul, Nat.reduceSub, List.nil_append, List.cons_append, nbk, List.map_cons, List.map_nil]
   apply Trc.step rfl rfl; exact wnt_n rfl; (with_reducible apply s_ixl); exact rfl; exact rfl; exact rfl; omega; dsimp only [Nat.reduceAdd, Nat.reduceMul, Nat.reduceSub, List.nil_append, List.cons_append, nbk, List.map_cons, List.map_nil]
   apply Trc.step rfl rfl; exact wnt_n rfl; (with_reducible apply s_fieldAddr); exact rfl; dsimp only [Nat.reduceAdd, Nat.reduceMul, Nat.reduceSub, List.nil_append, List.cons_append, nbk, List.map_cons, List.map_nil]
   apply Trc.step rfl rfl; exact wnt_n rfl; apply s_load; exact rfl; exact rfl; exact hk1; dsimp only [Nat.reduceAdd, Nat.reduceMul, Nat.reduceSub, List.nil_append, List.cons_append, nbk, List.map_cons, List.map_nil]
   apply Trc.step rfl rfl; exact wnt_n rfl; (with_reducible apply s_fieldAddr); exact rfl; dsimp only [Nat.reduceAdd, Nat.reduceMul, Nat.reduceSub, List.nil_append, List.cons_append, nbk, List.map_cons, List.map_nil]
   apply Trc.stepN rfl rfl; exact wnt_n rfl; (with_reducible apply s_store); exact rfl; exact rfl; exact rfl; exact rfl; rfl; exact Nat.le_of_ble_eq_true rfl
   dsimp only [Nat.reduceAdd, Nat.reduceMul, Nat.reduceSub, List.nil_append, List.cons_append, nbk, List.map_cons, List.map_nil]; apply Trc.step rfl rfl
   exact wnt_n rfl; (with_reducible apply s_fieldAddr); exact rfl; dsimp only [Nat.reduceAdd, Nat.reduceMul, Nat.reduceSub, List.nil_append, List.cons_append, nbk, List.map_cons, List.map_nil]
   apply Trc.stepN rfl rfl; exact wnt_n rfl; (with_reducible apply s_store); exact rfl; exact rfl; exact rfl; exact rfl; rfl; exact Nat.le_of_ble_eq_true rfl
   dsimp only [Nat.reduceAdd, Nat.reduceMul, Nat.reduceSub, List.nil_append, List.cons_append, nbk, List.map_cons, List.map_nil]; exact Trc.done _ _ _; kernel_rfl
   exact rfl; (with_reducible refine thn_n ?_); (with_reducible refine Gol.seq ?_); (with_reducible apply Gol.region); apply Trc.step rfl rfl; exact wnt_n rfl
   (with_reducible apply s_move); exact rfl; dsimp only [Nat.reduceAdd, Nat.reduceMul, Nat.reduceSub, List.nil_append, List.cons_append, nbk, List.map_cons, List.map_nil]
   apply Trc.step rfl rfl; exact wnt_n rfl; (with_reducible apply s_move); exact rfl; dsimp only [Nat.reduceAdd, Nat.reduceMul, Nat.reduceSub, List.nil_append, List.cons_append, nbk, List.map_cons, List.map_nil]
   apply Trc.step rfl rfl; exact wnt_n rfl; apply s_loadW; exact rfl; exact rfl; exact rfl; exact agu_ag [_, _, _, _, _]; dsimp only [Nat.reduceAdd, Nat.reduceMul, Nat.reduceSub, List.nil_append, List.cons_append, nbk, List.map_cons, List.map_nil]
   apply Trc.step rfl rfl; exact wnt_n rfl; (with_reducible apply s_ixl); exact rfl; exact rfl; exact rfl; omega; dsimp only [Nat.reduceAdd, Nat.reduceMul, Nat.reduceSub, List.nil_append, List.cons_append, nbk, List.map_cons, List.map_nil]
   apply Trc.stepN rfl rfl; exact wnt_n rfl; (with_reducible apply s_store); exact rfl; exact rfl; exact rfl; exact rfl; rfl; simp only [byA_length, List.length_append, List.length_cons, List.length_nil, List.length_take, List.length_drop, List.length_replicate, List.length_map, Nat.mul_one, nameB_length, flat_length, List.length_set, inA_length] <;> omega
   dsimp only [Nat.reduceAdd, Nat.reduceMul, Nat.reduceSub, List.nil_append, List.cons_append, nbk, List.map_cons, List.map_nil]; exact Trc.done _ _ _; exact rfl
   (with_reducible refine thn_n ?_); (with_reducible refine Gol.seq ?_))
  rw [show cu (AV.ag [.v (.int .i64 x.kind), .v (.int .i64 x.width), .v (.int .u64 (o.v.toNat : Int)), .ex o.p.length false (byA o.p), .ex o.l.length false (byA (flat o.l))]) = valC y by rw [hy]; rfl, hsp]
  have hol' : y.l.length ≤ 140737488351232 := by rw [hy]; exact hol
  have hkk : kindN y = kindN x := by rw [hy]; rfl
  have hww : widN y = widN x := by rw [hy]; rfl
  refine Gol.le (k' := 400) (H' := [(160, some ⟨(l.set c y).flatMap valC, 27, 5⟩), (0, some ⟨[.v (.int .i64 y.kind), .v (.int .i64 y.width), .v (.int .u64 (y.v.toNat : Int)), .ex y.p.length false (byA y.p), .ex y.l.length false (byA (flat y.l))], 27, 5⟩)]) (T' := [(0, .ex L false (l.flatMap valC)), (1, .v (.int .i64 (c : Int))), (7, .sl 160 L), (5, .pt 0 0), (6, .v (.bool false))]) ?_ ?_
  · (apply Le.mk' []; apply RnT.c; exact rfl; exact Rn.clo inferInstance rfl; apply RnT.c; exact rfl; exact Rn.v rfl; apply RnT.c; exact rfl; exact Rn.sl rfl rfl
     apply RnT.c; exact rfl; exact Rn.pt rfl rfl; apply RnT.c; exact rfl; exact Rn.v rfl; exact RnT.n; apply RnH.c; exact rfl; exact rfl; rfl; exact rfl; exact rfl
     apply RnH.c; exact rfl; exact rfl; rw [hy]; rfl; exact rfl; exact rfl; exact RnH.n; exact rfl)
  clear hsp hk0 hk1 hb hc hpos hT hy
  have hWx := wB_eq l c x y hx
  rw [hL] at hWx
  have hk3 := kindN_lt x
  by_cases h1 : ∀ x ∈ l, okE x
  · by_cases h2 : ∀ x ∈ l.set c y, okE x
    · ((with_reducible apply Gol.region); apply Trc.step rfl rfl; exact wnt_n rfl; (with_reducible apply s_move); exact rfl; dsimp only [Nat.reduceAdd, Nat.reduceMul, Nat.reduceSub, List.nil_append, List.cons_append, nbk, List.map_cons, List.map_nil]
       apply Trc.step rfl rfl; exact wnt_n rfl; apply s_call (f := 10) rfl; apply evs.cons rfl; apply evs.cons rfl; exact evs.nil
       apply ArgL.cons; exact arg_clo; apply ArgL.cons; exact arg_clo; exact ArgL.nil; exact (write_all' [] l false false L hL (by simp) hl hl0 h1).sub sub_nil
       exact Nat.le_of_ble_eq_true rfl; dsimp only [Nat.reduceAdd, Nat.reduceMul, Nat.reduceSub, List.nil_append, List.cons_append, nbk, List.map_cons, List.map_nil]
       apply Trc.step rfl rfl; exact wnt_n rfl; (with_reducible apply s_move); exact rfl; dsimp only [Nat.reduceAdd, Nat.reduceMul, Nat.reduceSub, List.nil_append, List.cons_append, nbk, List.map_cons, List.map_nil]
       apply Trc.step rfl rfl; exact wnt_n rfl; (with_reducible apply s_extract); exact rfl; exact rfl; dsimp only [Nat.reduceAdd, Nat.reduceMul, Nat.reduceSub, List.nil_append, List.cons_append, nbk, List.map_cons, List.map_nil]
       apply Trc.step rfl rfl; exact wnt_n rfl; (with_reducible apply s_extract); exact rfl; exact rfl; dsimp only [Nat.reduceAdd, Nat.reduceMul, Nat.reduceSub, List.nil_append, List.cons_append, nbk, List.map_cons, List.map_nil]
       apply Trc.step rfl rfl; exact wnt_n rfl; (with_reducible apply s_assign); exact rfl; dsimp only [Nat.reduceAdd, Nat.reduceMul, Nat.reduceSub, List.nil_append, List.cons_append, nbk, List.map_cons, List.map_nil]
       apply Trc.step rfl rfl; exact wnt_n rfl; (with_reducible apply s_assign); exact rfl; dsimp only [Nat.reduceAdd, Nat.reduceMul, Nat.reduceSub, List.nil_append, List.cons_append, nbk, List.map_cons, List.map_nil]
       exact Trc.done _ _ _; exact rfl; (with_reducible refine thn_n ?_); (with_reducible refine Gol.seq ?_); (with_reducible apply Gol.region); apply Trc.step rfl rfl
       exact wnt_n rfl; (with_reducible apply s_move); exact rfl; dsimp only [Nat.reduceAdd, Nat.reduceMul, Nat.reduceSub, List.nil_append, List.cons_append, nbk, List.map_cons, List.map_nil]
       apply Trc.step rfl rfl; exact wnt_n rfl; apply s_call (f := 10) rfl; apply evs.cons rfl; apply evs.cons rfl; exact evs.nil
       apply ArgL.cons; exact arg_clo; apply ArgL.cons; exact arg_sl rfl; exact ArgL.nil; exact (write_all' [] (l.set c y) false false L hsl (by simp) hl hl0 h2).sub sub_nil
       exact Nat.le_of_ble_eq_true rfl; dsimp only [Nat.reduceAdd, Nat.reduceMul, Nat.reduceSub, List.nil_append, List.cons_append, nbk, List.map_cons, List.map_nil]
       apply Trc.step rfl rfl; exact wnt_n rfl; (with_reducible apply s_move); exact rfl; dsimp only [Nat.reduceAdd, Nat.reduceMul, Nat.reduceSub, List.nil_append, List.cons_append, nbk, List.map_cons, List.map_nil]
       apply Trc.step rfl rfl; exact wnt_n rfl; (with_reducible apply s_extract); exact rfl; exact rfl; dsimp only [Nat.reduceAdd, Nat.reduceMul, Nat.reduceSub, List.nil_append, List.cons_append, nbk, List.map_cons, List.map_nil]
       apply Trc.step rfl rfl; exact wnt_n rfl; (with_reducible apply s_extract); exact rfl; exact rfl; dsimp only [Nat.reduceAdd, Nat.reduceMul, Nat.reduceSub, List.nil_append, List.cons_append, nbk, List.map_cons, List.map_nil]
       apply Trc.step rfl rfl; exact wnt_n rfl; (with_reducible apply s_assign); exact rfl; dsimp only [Nat.reduceAdd, Nat.reduceMul, Nat.reduceSub, List.nil_append, List.cons_append, nbk, List.map_cons, List.map_nil]
       apply Trc.step rfl rfl; exact wnt_n rfl; (with_reducible apply s_assign); exact rfl; dsimp only [Nat.reduceAdd, Nat.reduceMul, Nat.reduceSub, List.nil_append, List.cons_append, nbk, List.map_cons, List.map_nil]
       exact Trc.done _ _ _; exact rfl; (with_reducible refine thn_n ?_); (with_reducible refine Gol.seq ?_); (with_reducible refine Gol.seq ?_); (with_reducible apply Gol.region)
       apply Trc.step rfl rfl; exact wnt_n rfl; (with_reducible apply s_move); exact rfl; dsimp only [Nat.reduceAdd, Nat.reduceMul, Nat.reduceSub, List.nil_append, List.cons_append, nbk, List.map_cons, List.map_nil]
       apply Trc.step rfl rfl; exact wnt_n rfl; (with_reducible apply s_not); exact rfl; dsimp only [Nat.reduceAdd, Nat.reduceMul, Nat.reduceSub, List.nil_append, List.cons_append, nbk, List.map_cons, List.map_nil]
       apply Trc.step rfl rfl; exact wnt_n rfl; (with_reducible apply s_move); exact rfl; dsimp only [Nat.reduceAdd, Nat.reduceMul, Nat.reduceSub, List.nil_append, List.cons_append, nbk, List.map_cons, List.map_nil]
       apply Trc.step rfl rfl; apply wnt_g; exact rfl; exact rfl; exact rfl; rfl; (with_reducible apply s_move); exact rfl; dsimp only [Nat.reduceAdd, Nat.reduceMul, Nat.reduceSub, List.nil_append, List.cons_append, nbk, List.map_cons, List.map_nil]
       apply Trc.step rfl rfl; apply wnt_g; exact rfl; exact rfl; exact rfl; rfl; (with_reducible apply s_not); exact rfl; dsimp only [Nat.reduceAdd, Nat.reduceMul, Nat.reduceSub, List.nil_append, List.cons_append, nbk, List.map_cons, List.map_nil]
       apply Trc.step rfl rfl; exact wnt_n rfl; (with_reducible apply s_pick_f); exact rfl; rfl; exact rfl; dsimp only [Nat.reduceAdd, Nat.reduceMul, Nat.reduceSub, List.nil_append, List.cons_append, nbk, List.map_cons, List.map_nil]
       exact Trc.done _ _ _; exact rfl; (with_reducible refine thn_n ?_))
      refine Gol.cond_f rfl (by rfl) ?_
      ((with_reducible refine Gol.skip ?_); (with_reducible refine thn_n ?_); (with_reducible refine Gol.seq ?_); (with_reducible apply Gol.region); apply Trc.step rfl rfl
       exact wnt_n rfl; (with_reducible apply s_assign); exact rfl; dsimp only [Nat.reduceAdd, Nat.reduceMul, Nat.reduceSub, List.nil_append, List.cons_append, nbk, List.map_cons, List.map_nil]
       exact Trc.done _ _ _; exact rfl; (with_reducible refine thn_n ?_); (with_reducible refine Gol.seq ?_); (with_reducible refine Gol.seq ?_); (with_reducible apply Gol.region)
       apply Trc.step rfl rfl; exact wnt_n rfl; apply s_loadW; exact rfl; exact rfl; exact rfl; exact agu_ag [_, _, _, _, _]; dsimp only [Nat.reduceAdd, Nat.reduceMul, Nat.reduceSub, List.nil_append, List.cons_append, nbk, List.map_cons, List.map_nil]
       apply Trc.step rfl rfl; exact wnt_n rfl; apply s_call (f := 11) rfl; apply evs.cons rfl; exact evs.nil; apply ArgL.cons
       exact arg_clo; exact ArgL.nil; exact kind_ok y; exact Nat.le_of_ble_eq_true rfl; dsimp only [Nat.reduceAdd, Nat.reduceMul, Nat.reduceSub, List.nil_append, List.cons_append, nbk, List.map_cons, List.map_nil]
       exact Trc.done _ _ _; exact rfl; (with_reducible refine thn_n ?_); (with_reducible refine Gol.block ?_); (with_reducible refine Gol.seq ?_); (with_reducible apply Gol.region)
       apply Trc.step rfl rfl; exact wnt_n rfl; (with_reducible apply s_eqn); exact rfl; exact rfl; dsimp only [Nat.reduceAdd, Nat.reduceMul, Nat.reduceSub, List.nil_append, List.cons_append, nbk, List.map_cons, List.map_nil]
       apply Trc.step rfl rfl; exact wnt_n rfl; (with_reducible apply s_assign); exact rfl; dsimp only [Nat.reduceAdd, Nat.reduceMul, Nat.reduceSub, List.nil_append, List.cons_append, nbk, List.map_cons, List.map_nil]
       exact Trc.done _ _ _; exact rfl; (with_reducible refine thn_n ?_))
      rw [hkk]
      rcases (show kindN x = 0 ∨ kindN x = 1 ∨ kindN x = 2 by omega) with h0 | h0 | h0
      · refine Gol.cond_t rfl (by simp [h0]) ?_
        have heq := beq_iff (hWx.trans (enc_eq0 h0 (hkk.trans h0) hww))
        ((with_reducible apply Gol.any); kernel_rfl; apply Trc.step rfl rfl; exact wnt_n rfl; apply s_loadW; exact rfl; exact rfl; exact rfl; exact agu_ag [_, _, _, _, _]
         dsimp only [Nat.reduceAdd, Nat.reduceMul, Nat.reduceSub, List.nil_append, List.cons_append, nbk, List.map_cons, List.map_nil]; apply Trc.step rfl rfl
         exact wnt_n rfl; apply s_call (f := 12) rfl; apply evs.cons rfl; exact evs.nil; apply ArgL.cons; exact arg_clo; exact ArgL.nil
         exact number_ok y; exact Nat.le_of_ble_eq_true rfl; dsimp only [Nat.reduceAdd, Nat.reduceMul, Nat.reduceSub, List.nil_append, List.cons_append, nbk, List.map_cons, List.map_nil]
         apply Trc.step rfl rfl; exact wnt_n rfl; (with_reducible apply s_move); exact rfl; dsimp only [Nat.reduceAdd, Nat.reduceMul, Nat.reduceSub, List.nil_append, List.cons_append, nbk, List.map_cons, List.map_nil]
         apply Trc.step rfl rfl; exact wnt_n rfl; (with_reducible apply s_move); exact rfl; dsimp only [Nat.reduceAdd, Nat.reduceMul, Nat.reduceSub, List.nil_append, List.cons_append, nbk, List.map_cons, List.map_nil]
         apply Trc.step rfl rfl; exact wnt_n rfl; apply s_ixeD; exact rfl; exact rfl; omega; exact hne; exact hd; dsimp only [Nat.reduceAdd, Nat.reduceMul, Nat.reduceSub, List.nil_append, List.cons_append, nbk, List.map_cons, List.map_nil]
         apply Trc.step rfl rfl; exact wnt_n rfl; apply s_loadEN; exact rfl; (focus (simp only [List.length_cons]; omega)); exact agu_ag [_, _, _, _, _]; dsimp only [Nat.reduceAdd, Nat.reduceMul, Nat.reduceSub, List.nil_append, List.cons_append, nbk, List.map_cons, List.map_nil]
         apply Trc.step rfl rfl; exact wnt_n rfl; apply s_call (f := 12) rfl; apply evs.cons rfl; exact evs.nil; apply ArgL.cons
         exact arg_clo; exact ArgL.nil; exact number_ok x; exact Nat.le_of_ble_eq_true rfl; dsimp only [Nat.reduceAdd, Nat.reduceMul, Nat.reduceSub, List.nil_append, List.cons_append, nbk, List.map_cons, List.map_nil]
         apply Trc.step rfl rfl; exact wnt_n rfl; (with_reducible apply s_eqn); exact rfl; exact rfl; dsimp only [Nat.reduceAdd, Nat.reduceMul, Nat.reduceSub, List.nil_append, List.cons_append, nbk, List.map_cons, List.map_nil]
         apply Trc.step rfl rfl; exact wnt_n rfl; (with_reducible apply s_assign); exact rfl; dsimp only [Nat.reduceAdd, Nat.reduceMul, Nat.reduceSub, List.nil_append, List.cons_append, nbk, List.map_cons, List.map_nil]
         exact Trc.done _ _ _; kernel_rfl; exact rfl; (with_reducible refine inBlk_n ?_); (with_reducible refine thn_n ?_); (with_reducible refine Gol.seq ?_)
         (with_reducible apply Gol.region); apply Trc.step rfl rfl; exact wnt_n rfl; (with_reducible apply s_move); exact rfl; dsimp only [Nat.reduceAdd, Nat.reduceMul, Nat.reduceSub, List.nil_append, List.cons_append, nbk, List.map_cons, List.map_nil]
         apply Trc.step rfl rfl; exact wnt_n rfl; (with_reducible apply s_move); exact rfl; dsimp only [Nat.reduceAdd, Nat.reduceMul, Nat.reduceSub, List.nil_append, List.cons_append, nbk, List.map_cons, List.map_nil]
         apply Trc.step rfl rfl; exact wnt_n rfl; apply s_call (f := 13) rfl; apply evs.cons rfl; apply evs.cons rfl; exact evs.nil
         apply ArgL.cons; exact arg_sl rfl; apply ArgL.cons; exact arg_sl rfl; exact ArgL.nil; exact same_ok (wB [] l L) (wB [] (l.set c y) L) _ _ _ _ rfl rfl
         exact Nat.le_of_ble_eq_true rfl; dsimp only [Nat.reduceAdd, Nat.reduceMul, Nat.reduceSub, List.nil_append, List.cons_append, nbk, List.map_cons, List.map_nil]
         apply Trc.step rfl rfl; exact wnt_n rfl; (with_reducible apply s_move); exact rfl; dsimp only [Nat.reduceAdd, Nat.reduceMul, Nat.reduceSub, List.nil_append, List.cons_append, nbk, List.map_cons, List.map_nil]
         apply Trc.step rfl rfl; exact wnt_n rfl; (with_reducible apply s_eqb); exact rfl; exact rfl; dsimp only [Nat.reduceAdd, Nat.reduceMul, Nat.reduceSub, List.nil_append, List.cons_append, nbk, List.map_cons, List.map_nil]
         apply Trc.step rfl rfl; exact wnt_n rfl; (with_reducible apply s_move); exact rfl; dsimp only [Nat.reduceAdd, Nat.reduceMul, Nat.reduceSub, List.nil_append, List.cons_append, nbk, List.map_cons, List.map_nil]
         apply Trc.step rfl rfl; apply wnt_g; exact rfl; exact rfl; exact rfl; (focus (simp only [*]; rfl)); apply s_call (f := 9) rfl
         exact evs.nil; exact ArgL.nil; exact awake2_ok; exact Nat.le_of_ble_eq_true rfl; dsimp only [Nat.reduceAdd, Nat.reduceMul, Nat.reduceSub, List.nil_append, List.cons_append, nbk, List.map_cons, List.map_nil]
         apply Trc.step rfl rfl; exact wnt_n rfl; (with_reducible apply s_pick_t); exact rfl; assumption; exact rfl; dsimp only [Nat.reduceAdd, Nat.reduceMul, Nat.reduceSub, List.nil_append, List.cons_append, nbk, List.map_cons, List.map_nil]
         apply Trc.step rfl rfl; exact wnt_n rfl; (with_reducible apply s_assign); exact rfl; dsimp only [Nat.reduceAdd, Nat.reduceMul, Nat.reduceSub, List.nil_append, List.cons_append, nbk, List.map_cons, List.map_nil]
         exact Trc.done _ _ _; exact rfl; (with_reducible refine thn_n ?_); (with_reducible refine Gol.ret ?_))
        (apply RetQ.mk (by first | exact .inr rfl | exact .inl rfl); apply res_1 rfl; exact res_tmp rfl; exact out_val)
      · refine Gol.cond_f rfl (by simp [h0]) ?_
        ((with_reducible refine Gol.seq ?_); (with_reducible apply Gol.region); apply Trc.step rfl rfl; exact wnt_n rfl; (with_reducible apply s_eqn); exact rfl
         exact rfl; dsimp only [Nat.reduceAdd, Nat.reduceMul, Nat.reduceSub, List.nil_append, List.cons_append, nbk, List.map_cons, List.map_nil]; apply Trc.step rfl rfl
         exact wnt_n rfl; (with_reducible apply s_assign); exact rfl; dsimp only [Nat.reduceAdd, Nat.reduceMul, Nat.reduceSub, List.nil_append, List.cons_append, nbk, List.map_cons, List.map_nil]
         exact Trc.done _ _ _; exact rfl; (with_reducible refine thn_n ?_))
        refine Gol.cond_t rfl (by simp [h0]) ?_
        have heq := bool_iff (hWx.trans (enc_eq1 h0 (hkk.trans h0)))
        ((with_reducible apply Gol.any); kernel_rfl; apply Trc.step rfl rfl; exact wnt_n rfl; (with_reducible apply s_fieldAddr); exact rfl; dsimp only [Nat.reduceAdd, Nat.reduceMul, Nat.reduceSub, List.nil_append, List.cons_append, nbk, List.map_cons, List.map_nil]
         apply Trc.step rfl rfl; exact wnt_n rfl; (with_reducible apply s_load); exact rfl; exact rfl; exact rfl; dsimp only [Nat.reduceAdd, Nat.reduceMul, Nat.reduceSub, List.nil_append, List.cons_append, nbk, List.map_cons, List.map_nil]
         apply Trc.step rfl rfl; exact wnt_n rfl; (with_reducible apply s_move); exact rfl; dsimp only [Nat.reduceAdd, Nat.reduceMul, Nat.reduceSub, List.nil_append, List.cons_append, nbk, List.map_cons, List.map_nil]
         apply Trc.step rfl rfl; exact wnt_n rfl; (with_reducible apply s_move); exact rfl; dsimp only [Nat.reduceAdd, Nat.reduceMul, Nat.reduceSub, List.nil_append, List.cons_append, nbk, List.map_cons, List.map_nil]
         apply Trc.step rfl rfl; exact wnt_n rfl; apply s_ixeD; exact rfl; exact rfl; omega; exact hne; exact hd; dsimp only [Nat.reduceAdd, Nat.reduceMul, Nat.reduceSub, List.nil_append, List.cons_append, nbk, List.map_cons, List.map_nil]
         apply Trc.step rfl rfl; exact wnt_n rfl; (with_reducible apply s_fieldAddrE); exact rfl; dsimp only [Nat.reduceAdd, Nat.reduceMul, Nat.reduceSub, List.nil_append, List.cons_append, nbk, List.map_cons, List.map_nil]
         apply Trc.step rfl rfl; exact wnt_n rfl; (with_reducible apply s_loadE); exact rfl; exact rfl; dsimp only [Nat.reduceAdd, Nat.reduceMul, Nat.reduceSub, List.nil_append, List.cons_append, nbk, List.map_cons, List.map_nil]
         apply Trc.step rfl rfl; exact wnt_n rfl; apply s_call (f := 13) rfl; apply evs.cons rfl; apply evs.cons rfl; exact evs.nil
         apply ArgL.cons; exact arg_clo; apply ArgL.cons; exact arg_clo; exact ArgL.nil; exact same_ok y.p x.p _ _ _ _ rfl rfl; exact Nat.le_of_ble_eq_true rfl
         dsimp only [Nat.reduceAdd, Nat.reduceMul, Nat.reduceSub, List.nil_append, List.cons_append, nbk, List.map_cons, List.map_nil]; apply Trc.step rfl rfl
         exact wnt_n rfl; (with_reducible apply s_assign); exact rfl; dsimp only [Nat.reduceAdd, Nat.reduceMul, Nat.reduceSub, List.nil_append, List.cons_append, nbk, List.map_cons, List.map_nil]
         exact Trc.done _ _ _; kernel_rfl; exact rfl; (with_reducible refine inBlk_n ?_); (with_reducible refine thn_n ?_); (with_reducible refine Gol.seq ?_)
         (with_reducible apply Gol.region); apply Trc.step rfl rfl; exact wnt_n rfl; (with_reducible apply s_move); exact rfl; dsimp only [Nat.reduceAdd, Nat.reduceMul, Nat.reduceSub, List.nil_append, List.cons_append, nbk, List.map_cons, List.map_nil]
         apply Trc.step rfl rfl; exact wnt_n rfl; (with_reducible apply s_move); exact rfl; dsimp only [Nat.reduceAdd, Nat.reduceMul, Nat.reduceSub, List.nil_append, List.cons_append, nbk, List.map_cons, List.map_nil]
         apply Trc.step rfl rfl; exact wnt_n rfl; apply s_call (f := 13) rfl; apply evs.cons rfl; apply evs.cons rfl; exact evs.nil
         apply ArgL.cons; exact arg_sl rfl; apply ArgL.cons; exact arg_sl rfl; exact ArgL.nil; exact same_ok (wB [] l L) (wB [] (l.set c y) L) _ _ _ _ rfl rfl
         exact Nat.le_of_ble_eq_true rfl; dsimp only [Nat.reduceAdd, Nat.reduceMul, Nat.reduceSub, List.nil_append, List.cons_append, nbk, List.map_cons, List.map_nil]
         apply Trc.step rfl rfl; exact wnt_n rfl; (with_reducible apply s_move); exact rfl; dsimp only [Nat.reduceAdd, Nat.reduceMul, Nat.reduceSub, List.nil_append, List.cons_append, nbk, List.map_cons, List.map_nil]
         apply Trc.step rfl rfl; exact wnt_n rfl; (with_reducible apply s_eqb); exact rfl; exact rfl; dsimp only [Nat.reduceAdd, Nat.reduceMul, Nat.reduceSub, List.nil_append, List.cons_append, nbk, List.map_cons, List.map_nil]
         apply Trc.step rfl rfl; exact wnt_n rfl; (with_reducible apply s_move); exact rfl; dsimp only [Nat.reduceAdd, Nat.reduceMul, Nat.reduceSub, List.nil_append, List.cons_append, nbk, List.map_cons, List.map_nil]
         apply Trc.step rfl rfl; apply wnt_g; exact rfl; exact rfl; exact rfl; (focus (simp only [*]; rfl)); apply s_call (f := 9) rfl
         exact evs.nil; exact ArgL.nil; exact awake2_ok; exact Nat.le_of_ble_eq_true rfl; dsimp only [Nat.reduceAdd, Nat.reduceMul, Nat.reduceSub, List.nil_append, List.cons_append, nbk, List.map_cons, List.map_nil]
         apply Trc.step rfl rfl; exact wnt_n rfl; (with_reducible apply s_pick_t); exact rfl; assumption; exact rfl; dsimp only [Nat.reduceAdd, Nat.reduceMul, Nat.reduceSub, List.nil_append, List.cons_append, nbk, List.map_cons, List.map_nil]
         apply Trc.step rfl rfl; exact wnt_n rfl; (with_reducible apply s_assign); exact rfl; dsimp only [Nat.reduceAdd, Nat.reduceMul, Nat.reduceSub, List.nil_append, List.cons_append, nbk, List.map_cons, List.map_nil]
         exact Trc.done _ _ _; exact rfl; (with_reducible refine thn_n ?_); (with_reducible refine Gol.ret ?_))
        (apply RetQ.mk (by first | exact .inr rfl | exact .inl rfl); apply res_1 rfl; exact res_tmp rfl; exact out_val)
      · refine Gol.cond_f rfl (by simp [h0]) ?_
        ((with_reducible refine Gol.seq ?_); (with_reducible apply Gol.region); apply Trc.step rfl rfl; exact wnt_n rfl; (with_reducible apply s_eqn); exact rfl
         exact rfl; dsimp only [Nat.reduceAdd, Nat.reduceMul, Nat.reduceSub, List.nil_append, List.cons_append, nbk, List.map_cons, List.map_nil]; apply Trc.step rfl rfl
         exact wnt_n rfl; (with_reducible apply s_assign); exact rfl; dsimp only [Nat.reduceAdd, Nat.reduceMul, Nat.reduceSub, List.nil_append, List.cons_append, nbk, List.map_cons, List.map_nil]
         exact Trc.done _ _ _; exact rfl; (with_reducible refine thn_n ?_))
        refine Gol.cond_f rfl (by simp [h0]) ?_
        have heq := bool_iff (hWx.trans (enc_eq2 h0 (hkk.trans h0)))
        ((with_reducible apply Gol.any); kernel_rfl; apply Trc.step rfl rfl; exact wnt_n rfl; (with_reducible apply s_fieldAddr); exact rfl; dsimp only [Nat.reduceAdd, Nat.reduceMul, Nat.reduceSub, List.nil_append, List.cons_append, nbk, List.map_cons, List.map_nil]
         apply Trc.step rfl rfl; exact wnt_n rfl; (with_reducible apply s_load); exact rfl; exact rfl; exact rfl; dsimp only [Nat.reduceAdd, Nat.reduceMul, Nat.reduceSub, List.nil_append, List.cons_append, nbk, List.map_cons, List.map_nil]
         apply Trc.step rfl rfl; exact wnt_n rfl; (with_reducible apply s_move); exact rfl; dsimp only [Nat.reduceAdd, Nat.reduceMul, Nat.reduceSub, List.nil_append, List.cons_append, nbk, List.map_cons, List.map_nil]
         apply Trc.step rfl rfl; exact wnt_n rfl; (with_reducible apply s_move); exact rfl; dsimp only [Nat.reduceAdd, Nat.reduceMul, Nat.reduceSub, List.nil_append, List.cons_append, nbk, List.map_cons, List.map_nil]
         apply Trc.step rfl rfl; exact wnt_n rfl; apply s_ixeD; exact rfl; exact rfl; omega; exact hne; exact hd; dsimp only [Nat.reduceAdd, Nat.reduceMul, Nat.reduceSub, List.nil_append, List.cons_append, nbk, List.map_cons, List.map_nil]
         apply Trc.step rfl rfl; exact wnt_n rfl; (with_reducible apply s_fieldAddrE); exact rfl; dsimp only [Nat.reduceAdd, Nat.reduceMul, Nat.reduceSub, List.nil_append, List.cons_append, nbk, List.map_cons, List.map_nil]
         apply Trc.step rfl rfl; exact wnt_n rfl; (with_reducible apply s_loadE); exact rfl; exact rfl; dsimp only [Nat.reduceAdd, Nat.reduceMul, Nat.reduceSub, List.nil_append, List.cons_append, nbk, List.map_cons, List.map_nil]
         apply Trc.step rfl rfl; exact wnt_n rfl; apply s_call (f := 14) rfl; apply evs.cons rfl; apply evs.cons rfl; exact evs.nil
         apply ArgL.cons; exact arg_clo; apply ArgL.cons; exact arg_clo; exact ArgL.nil; exact names_eq y.l x.l _ _ _ _ rfl rfl (by omega); exact Nat.le_of_ble_eq_true rfl
         dsimp only [Nat.reduceAdd, Nat.reduceMul, Nat.reduceSub, List.nil_append, List.cons_append, nbk, List.map_cons, List.map_nil]; apply Trc.step rfl rfl
         exact wnt_n rfl; (with_reducible apply s_assign); exact rfl; dsimp only [Nat.reduceAdd, Nat.reduceMul, Nat.reduceSub, List.nil_append, List.cons_append, nbk, List.map_cons, List.map_nil]
         exact Trc.done _ _ _; kernel_rfl; exact rfl; (with_reducible refine inBlk_n ?_); (with_reducible refine thn_n ?_); (with_reducible refine Gol.seq ?_)
         (with_reducible apply Gol.region); apply Trc.step rfl rfl; exact wnt_n rfl; (with_reducible apply s_move); exact rfl; dsimp only [Nat.reduceAdd, Nat.reduceMul, Nat.reduceSub, List.nil_append, List.cons_append, nbk, List.map_cons, List.map_nil]
         apply Trc.step rfl rfl; exact wnt_n rfl; (with_reducible apply s_move); exact rfl; dsimp only [Nat.reduceAdd, Nat.reduceMul, Nat.reduceSub, List.nil_append, List.cons_append, nbk, List.map_cons, List.map_nil]
         apply Trc.step rfl rfl; exact wnt_n rfl; apply s_call (f := 13) rfl; apply evs.cons rfl; apply evs.cons rfl; exact evs.nil
         apply ArgL.cons; exact arg_sl rfl; apply ArgL.cons; exact arg_sl rfl; exact ArgL.nil; exact same_ok (wB [] l L) (wB [] (l.set c y) L) _ _ _ _ rfl rfl
         exact Nat.le_of_ble_eq_true rfl; dsimp only [Nat.reduceAdd, Nat.reduceMul, Nat.reduceSub, List.nil_append, List.cons_append, nbk, List.map_cons, List.map_nil]
         apply Trc.step rfl rfl; exact wnt_n rfl; (with_reducible apply s_move); exact rfl; dsimp only [Nat.reduceAdd, Nat.reduceMul, Nat.reduceSub, List.nil_append, List.cons_append, nbk, List.map_cons, List.map_nil]
         apply Trc.step rfl rfl; exact wnt_n rfl; (with_reducible apply s_eqb); exact rfl; exact rfl; dsimp only [Nat.reduceAdd, Nat.reduceMul, Nat.reduceSub, List.nil_append, List.cons_append, nbk, List.map_cons, List.map_nil]
         apply Trc.step rfl rfl; exact wnt_n rfl; (with_reducible apply s_move); exact rfl; dsimp only [Nat.reduceAdd, Nat.reduceMul, Nat.reduceSub, List.nil_append, List.cons_append, nbk, List.map_cons, List.map_nil]
         apply Trc.step rfl rfl; apply wnt_g; exact rfl; exact rfl; exact rfl; (focus (simp only [*]; rfl)); apply s_call (f := 9) rfl
         exact evs.nil; exact ArgL.nil; exact awake2_ok; exact Nat.le_of_ble_eq_true rfl; dsimp only [Nat.reduceAdd, Nat.reduceMul, Nat.reduceSub, List.nil_append, List.cons_append, nbk, List.map_cons, List.map_nil]
         apply Trc.step rfl rfl; exact wnt_n rfl; (with_reducible apply s_pick_t); exact rfl; assumption; exact rfl; dsimp only [Nat.reduceAdd, Nat.reduceMul, Nat.reduceSub, List.nil_append, List.cons_append, nbk, List.map_cons, List.map_nil]
         apply Trc.step rfl rfl; exact wnt_n rfl; (with_reducible apply s_assign); exact rfl; dsimp only [Nat.reduceAdd, Nat.reduceMul, Nat.reduceSub, List.nil_append, List.cons_append, nbk, List.map_cons, List.map_nil]
         exact Trc.done _ _ _; exact rfl; (with_reducible refine thn_n ?_); (with_reducible refine Gol.ret ?_))
        (apply RetQ.mk (by first | exact .inr rfl | exact .inl rfl); apply res_1 rfl; exact res_tmp rfl; exact out_val)
    · ((with_reducible apply Gol.region); apply Trc.step rfl rfl; exact wnt_n rfl; (with_reducible apply s_move); exact rfl; dsimp only [Nat.reduceAdd, Nat.reduceMul, Nat.reduceSub, List.nil_append, List.cons_append, nbk, List.map_cons, List.map_nil]
       apply Trc.step rfl rfl; exact wnt_n rfl; apply s_call (f := 10) rfl; apply evs.cons rfl; apply evs.cons rfl; exact evs.nil
       apply ArgL.cons; exact arg_clo; apply ArgL.cons; exact arg_clo; exact ArgL.nil; exact (write_all' [] l false false L hL (by simp) hl hl0 h1).sub sub_nil
       exact Nat.le_of_ble_eq_true rfl; dsimp only [Nat.reduceAdd, Nat.reduceMul, Nat.reduceSub, List.nil_append, List.cons_append, nbk, List.map_cons, List.map_nil]
       apply Trc.step rfl rfl; exact wnt_n rfl; (with_reducible apply s_move); exact rfl; dsimp only [Nat.reduceAdd, Nat.reduceMul, Nat.reduceSub, List.nil_append, List.cons_append, nbk, List.map_cons, List.map_nil]
       apply Trc.step rfl rfl; exact wnt_n rfl; (with_reducible apply s_extract); exact rfl; exact rfl; dsimp only [Nat.reduceAdd, Nat.reduceMul, Nat.reduceSub, List.nil_append, List.cons_append, nbk, List.map_cons, List.map_nil]
       apply Trc.step rfl rfl; exact wnt_n rfl; (with_reducible apply s_extract); exact rfl; exact rfl; dsimp only [Nat.reduceAdd, Nat.reduceMul, Nat.reduceSub, List.nil_append, List.cons_append, nbk, List.map_cons, List.map_nil]
       apply Trc.step rfl rfl; exact wnt_n rfl; (with_reducible apply s_assign); exact rfl; dsimp only [Nat.reduceAdd, Nat.reduceMul, Nat.reduceSub, List.nil_append, List.cons_append, nbk, List.map_cons, List.map_nil]
       apply Trc.step rfl rfl; exact wnt_n rfl; (with_reducible apply s_assign); exact rfl; dsimp only [Nat.reduceAdd, Nat.reduceMul, Nat.reduceSub, List.nil_append, List.cons_append, nbk, List.map_cons, List.map_nil]
       exact Trc.done _ _ _; exact rfl; (with_reducible refine thn_n ?_); (with_reducible refine Gol.seq ?_); (with_reducible apply Gol.region); apply Trc.step rfl rfl
       exact wnt_n rfl; (with_reducible apply s_move); exact rfl; dsimp only [Nat.reduceAdd, Nat.reduceMul, Nat.reduceSub, List.nil_append, List.cons_append, nbk, List.map_cons, List.map_nil]
       apply Trc.step rfl rfl; exact wnt_n rfl; apply s_call (f := 10) rfl; apply evs.cons rfl; apply evs.cons rfl; exact evs.nil
       apply ArgL.cons; exact arg_clo; apply ArgL.cons; exact arg_sl rfl; exact ArgL.nil; exact (write_bad' [] (l.set c y) false false L hsl (by simp) hl hl0 (no_all h2)).sub sub_nil
       exact Nat.le_of_ble_eq_true rfl; dsimp only [Nat.reduceAdd, Nat.reduceMul, Nat.reduceSub, List.nil_append, List.cons_append, nbk, List.map_cons, List.map_nil]
       apply Trc.step rfl rfl; exact wnt_n rfl; (with_reducible apply s_move); exact rfl; dsimp only [Nat.reduceAdd, Nat.reduceMul, Nat.reduceSub, List.nil_append, List.cons_append, nbk, List.map_cons, List.map_nil]
       apply Trc.step rfl rfl; exact wnt_n rfl; (with_reducible apply s_extract); exact rfl; exact rfl; dsimp only [Nat.reduceAdd, Nat.reduceMul, Nat.reduceSub, List.nil_append, List.cons_append, nbk, List.map_cons, List.map_nil]
       apply Trc.step rfl rfl; exact wnt_n rfl; (with_reducible apply s_extract); exact rfl; exact rfl; dsimp only [Nat.reduceAdd, Nat.reduceMul, Nat.reduceSub, List.nil_append, List.cons_append, nbk, List.map_cons, List.map_nil]
       apply Trc.step rfl rfl; exact wnt_n rfl; (with_reducible apply s_assign); exact rfl; dsimp only [Nat.reduceAdd, Nat.reduceMul, Nat.reduceSub, List.nil_append, List.cons_append, nbk, List.map_cons, List.map_nil]
       apply Trc.step rfl rfl; exact wnt_n rfl; (with_reducible apply s_assign); exact rfl; dsimp only [Nat.reduceAdd, Nat.reduceMul, Nat.reduceSub, List.nil_append, List.cons_append, nbk, List.map_cons, List.map_nil]
       exact Trc.done _ _ _; exact rfl; (with_reducible refine thn_n ?_); (with_reducible refine Gol.seq ?_); (with_reducible refine Gol.seq ?_); (with_reducible apply Gol.region)
       apply Trc.step rfl rfl; exact wnt_n rfl; (with_reducible apply s_move); exact rfl; dsimp only [Nat.reduceAdd, Nat.reduceMul, Nat.reduceSub, List.nil_append, List.cons_append, nbk, List.map_cons, List.map_nil]
       apply Trc.step rfl rfl; exact wnt_n rfl; (with_reducible apply s_not); exact rfl; dsimp only [Nat.reduceAdd, Nat.reduceMul, Nat.reduceSub, List.nil_append, List.cons_append, nbk, List.map_cons, List.map_nil]
       apply Trc.step rfl rfl; exact wnt_n rfl; (with_reducible apply s_move); exact rfl; dsimp only [Nat.reduceAdd, Nat.reduceMul, Nat.reduceSub, List.nil_append, List.cons_append, nbk, List.map_cons, List.map_nil]
       apply Trc.step rfl rfl; apply wnt_g; exact rfl; exact rfl; exact rfl; rfl; (with_reducible apply s_move); exact rfl; dsimp only [Nat.reduceAdd, Nat.reduceMul, Nat.reduceSub, List.nil_append, List.cons_append, nbk, List.map_cons, List.map_nil]
       apply Trc.step rfl rfl; apply wnt_g; exact rfl; exact rfl; exact rfl; rfl; (with_reducible apply s_not); exact rfl; dsimp only [Nat.reduceAdd, Nat.reduceMul, Nat.reduceSub, List.nil_append, List.cons_append, nbk, List.map_cons, List.map_nil]
       apply Trc.step rfl rfl; exact wnt_n rfl; (with_reducible apply s_pick_f); exact rfl; rfl; exact rfl; dsimp only [Nat.reduceAdd, Nat.reduceMul, Nat.reduceSub, List.nil_append, List.cons_append, nbk, List.map_cons, List.map_nil]
       exact Trc.done _ _ _; exact rfl; (with_reducible refine thn_n ?_))
      refine Gol.cond_t rfl (by rfl) ?_
      ((with_reducible refine Gol.seq ?_); (with_reducible apply Gol.region); apply Trc.step rfl rfl; exact wnt_n rfl; apply s_call (f := 9) rfl
       exact evs.nil; exact ArgL.nil; exact awake2_ok; exact Nat.le_of_ble_eq_true rfl; dsimp only [Nat.reduceAdd, Nat.reduceMul, Nat.reduceSub, List.nil_append, List.cons_append, nbk, List.map_cons, List.map_nil]
       apply Trc.step rfl rfl; exact wnt_n rfl; (with_reducible apply s_assign); exact rfl; dsimp only [Nat.reduceAdd, Nat.reduceMul, Nat.reduceSub, List.nil_append, List.cons_append, nbk, List.map_cons, List.map_nil]
       exact Trc.done _ _ _; exact rfl; (with_reducible refine thn_n ?_); (with_reducible refine Gol.ret ?_); (with_reducible refine thn_r ?_))
      (apply RetQ.mk (by first | exact .inr rfl | exact .inl rfl); apply res_1 rfl; exact res_tmp rfl; exact out_val)
  · by_cases h2 : ∀ x ∈ l.set c y, okE x
    · ((with_reducible apply Gol.region); apply Trc.step rfl rfl; exact wnt_n rfl; (with_reducible apply s_move); exact rfl; dsimp only [Nat.reduceAdd, Nat.reduceMul, Nat.reduceSub, List.nil_append, List.cons_append, nbk, List.map_cons, List.map_nil]
       apply Trc.step rfl rfl; exact wnt_n rfl; apply s_call (f := 10) rfl; apply evs.cons rfl; apply evs.cons rfl; exact evs.nil
       apply ArgL.cons; exact arg_clo; apply ArgL.cons; exact arg_clo; exact ArgL.nil; exact (write_bad' [] l false false L hL (by simp) hl hl0 (no_all h1)).sub sub_nil
       exact Nat.le_of_ble_eq_true rfl; dsimp only [Nat.reduceAdd, Nat.reduceMul, Nat.reduceSub, List.nil_append, List.cons_append, nbk, List.map_cons, List.map_nil]
       apply Trc.step rfl rfl; exact wnt_n rfl; (with_reducible apply s_move); exact rfl; dsimp only [Nat.reduceAdd, Nat.reduceMul, Nat.reduceSub, List.nil_append, List.cons_append, nbk, List.map_cons, List.map_nil]
       apply Trc.step rfl rfl; exact wnt_n rfl; (with_reducible apply s_extract); exact rfl; exact rfl; dsimp only [Nat.reduceAdd, Nat.reduceMul, Nat.reduceSub, List.nil_append, List.cons_append, nbk, List.map_cons, List.map_nil]
       apply Trc.step rfl rfl; exact wnt_n rfl; (with_reducible apply s_extract); exact rfl; exact rfl; dsimp only [Nat.reduceAdd, Nat.reduceMul, Nat.reduceSub, List.nil_append, List.cons_append, nbk, List.map_cons, List.map_nil]
       apply Trc.step rfl rfl; exact wnt_n rfl; (with_reducible apply s_assign); exact rfl; dsimp only [Nat.reduceAdd, Nat.reduceMul, Nat.reduceSub, List.nil_append, List.cons_append, nbk, List.map_cons, List.map_nil]
       apply Trc.step rfl rfl; exact wnt_n rfl; (with_reducible apply s_assign); exact rfl; dsimp only [Nat.reduceAdd, Nat.reduceMul, Nat.reduceSub, List.nil_append, List.cons_append, nbk, List.map_cons, List.map_nil]
       exact Trc.done _ _ _; exact rfl; (with_reducible refine thn_n ?_); (with_reducible refine Gol.seq ?_); (with_reducible apply Gol.region); apply Trc.step rfl rfl
       exact wnt_n rfl; (with_reducible apply s_move); exact rfl; dsimp only [Nat.reduceAdd, Nat.reduceMul, Nat.reduceSub, List.nil_append, List.cons_append, nbk, List.map_cons, List.map_nil]
       apply Trc.step rfl rfl; exact wnt_n rfl; apply s_call (f := 10) rfl; apply evs.cons rfl; apply evs.cons rfl; exact evs.nil
       apply ArgL.cons; exact arg_clo; apply ArgL.cons; exact arg_sl rfl; exact ArgL.nil; exact (write_all' [] (l.set c y) false false L hsl (by simp) hl hl0 h2).sub sub_nil
       exact Nat.le_of_ble_eq_true rfl; dsimp only [Nat.reduceAdd, Nat.reduceMul, Nat.reduceSub, List.nil_append, List.cons_append, nbk, List.map_cons, List.map_nil]
       apply Trc.step rfl rfl; exact wnt_n rfl; (with_reducible apply s_move); exact rfl; dsimp only [Nat.reduceAdd, Nat.reduceMul, Nat.reduceSub, List.nil_append, List.cons_append, nbk, List.map_cons, List.map_nil]
       apply Trc.step rfl rfl; exact wnt_n rfl; (with_reducible apply s_extract); exact rfl; exact rfl; dsimp only [Nat.reduceAdd, Nat.reduceMul, Nat.reduceSub, List.nil_append, List.cons_append, nbk, List.map_cons, List.map_nil]
       apply Trc.step rfl rfl; exact wnt_n rfl; (with_reducible apply s_extract); exact rfl; exact rfl; dsimp only [Nat.reduceAdd, Nat.reduceMul, Nat.reduceSub, List.nil_append, List.cons_append, nbk, List.map_cons, List.map_nil]
       apply Trc.step rfl rfl; exact wnt_n rfl; (with_reducible apply s_assign); exact rfl; dsimp only [Nat.reduceAdd, Nat.reduceMul, Nat.reduceSub, List.nil_append, List.cons_append, nbk, List.map_cons, List.map_nil]
       apply Trc.step rfl rfl; exact wnt_n rfl; (with_reducible apply s_assign); exact rfl; dsimp only [Nat.reduceAdd, Nat.reduceMul, Nat.reduceSub, List.nil_append, List.cons_append, nbk, List.map_cons, List.map_nil]
       exact Trc.done _ _ _; exact rfl; (with_reducible refine thn_n ?_); (with_reducible refine Gol.seq ?_); (with_reducible refine Gol.seq ?_); (with_reducible apply Gol.region)
       apply Trc.step rfl rfl; exact wnt_n rfl; (with_reducible apply s_move); exact rfl; dsimp only [Nat.reduceAdd, Nat.reduceMul, Nat.reduceSub, List.nil_append, List.cons_append, nbk, List.map_cons, List.map_nil]
       apply Trc.step rfl rfl; exact wnt_n rfl; (with_reducible apply s_not); exact rfl; dsimp only [Nat.reduceAdd, Nat.reduceMul, Nat.reduceSub, List.nil_append, List.cons_append, nbk, List.map_cons, List.map_nil]
       apply Trc.step rfl rfl; exact wnt_n rfl; (with_reducible apply s_move); exact rfl; dsimp only [Nat.reduceAdd, Nat.reduceMul, Nat.reduceSub, List.nil_append, List.cons_append, nbk, List.map_cons, List.map_nil]
       apply Trc.skip rfl rfl; apply wnt_g; exact rfl; exact rfl; exact rfl; rfl; dsimp only [Nat.reduceAdd, Nat.reduceMul, Nat.reduceSub, List.nil_append, List.cons_append, nbk, List.map_cons, List.map_nil]
       apply Trc.skip rfl rfl; apply wnt_g; exact rfl; exact rfl; exact rfl; rfl; dsimp only [Nat.reduceAdd, Nat.reduceMul, Nat.reduceSub, List.nil_append, List.cons_append, nbk, List.map_cons, List.map_nil]
       apply Trc.step rfl rfl; exact wnt_n rfl; (with_reducible apply s_pick_t); exact rfl; rfl; exact rfl; dsimp only [Nat.reduceAdd, Nat.reduceMul, Nat.reduceSub, List.nil_append, List.cons_append, nbk, List.map_cons, List.map_nil]
       exact Trc.done _ _ _; exact rfl; (with_reducible refine thn_n ?_))
      refine Gol.cond_t rfl (by rfl) ?_
      ((with_reducible refine Gol.seq ?_); (with_reducible apply Gol.region); apply Trc.step rfl rfl; exact wnt_n rfl; apply s_call (f := 9) rfl
       exact evs.nil; exact ArgL.nil; exact awake2_ok; exact Nat.le_of_ble_eq_true rfl; dsimp only [Nat.reduceAdd, Nat.reduceMul, Nat.reduceSub, List.nil_append, List.cons_append, nbk, List.map_cons, List.map_nil]
       apply Trc.step rfl rfl; exact wnt_n rfl; (with_reducible apply s_assign); exact rfl; dsimp only [Nat.reduceAdd, Nat.reduceMul, Nat.reduceSub, List.nil_append, List.cons_append, nbk, List.map_cons, List.map_nil]
       exact Trc.done _ _ _; exact rfl; (with_reducible refine thn_n ?_); (with_reducible refine Gol.ret ?_); (with_reducible refine thn_r ?_))
      (apply RetQ.mk (by first | exact .inr rfl | exact .inl rfl); apply res_1 rfl; exact res_tmp rfl; exact out_val)
    · ((with_reducible apply Gol.region); apply Trc.step rfl rfl; exact wnt_n rfl; (with_reducible apply s_move); exact rfl; dsimp only [Nat.reduceAdd, Nat.reduceMul, Nat.reduceSub, List.nil_append, List.cons_append, nbk, List.map_cons, List.map_nil]
       apply Trc.step rfl rfl; exact wnt_n rfl; apply s_call (f := 10) rfl; apply evs.cons rfl; apply evs.cons rfl; exact evs.nil
       apply ArgL.cons; exact arg_clo; apply ArgL.cons; exact arg_clo; exact ArgL.nil; exact (write_bad' [] l false false L hL (by simp) hl hl0 (no_all h1)).sub sub_nil
       exact Nat.le_of_ble_eq_true rfl; dsimp only [Nat.reduceAdd, Nat.reduceMul, Nat.reduceSub, List.nil_append, List.cons_append, nbk, List.map_cons, List.map_nil]
       apply Trc.step rfl rfl; exact wnt_n rfl; (with_reducible apply s_move); exact rfl; dsimp only [Nat.reduceAdd, Nat.reduceMul, Nat.reduceSub, List.nil_append, List.cons_append, nbk, List.map_cons, List.map_nil]
       apply Trc.step rfl rfl; exact wnt_n rfl; (with_reducible apply s_extract); exact rfl; exact rfl; dsimp only [Nat.reduceAdd, Nat.reduceMul, Nat.reduceSub, List.nil_append, List.cons_append, nbk, List.map_cons, List.map_nil]
       apply Trc.step rfl rfl; exact wnt_n rfl; (with_reducible apply s_extract); exact rfl; exact rfl; dsimp only [Nat.reduceAdd, Nat.reduceMul, Nat.reduceSub, List.nil_append, List.cons_append, nbk, List.map_cons, List.map_nil]
       apply Trc.step rfl rfl; exact wnt_n rfl; (with_reducible apply s_assign); exact rfl; dsimp only [Nat.reduceAdd, Nat.reduceMul, Nat.reduceSub, List.nil_append, List.cons_append, nbk, List.map_cons, List.map_nil]
       apply Trc.step rfl rfl; exact wnt_n rfl; (with_reducible apply s_assign); exact rfl; dsimp only [Nat.reduceAdd, Nat.reduceMul, Nat.reduceSub, List.nil_append, List.cons_append, nbk, List.map_cons, List.map_nil]
       exact Trc.done _ _ _; exact rfl; (with_reducible refine thn_n ?_); (with_reducible refine Gol.seq ?_); (with_reducible apply Gol.region); apply Trc.step rfl rfl
       exact wnt_n rfl; (with_reducible apply s_move); exact rfl; dsimp only [Nat.reduceAdd, Nat.reduceMul, Nat.reduceSub, List.nil_append, List.cons_append, nbk, List.map_cons, List.map_nil]
       apply Trc.step rfl rfl; exact wnt_n rfl; apply s_call (f := 10) rfl; apply evs.cons rfl; apply evs.cons rfl; exact evs.nil
       apply ArgL.cons; exact arg_clo; apply ArgL.cons; exact arg_sl rfl; exact ArgL.nil; exact (write_bad' [] (l.set c y) false false L hsl (by simp) hl hl0 (no_all h2)).sub sub_nil
       exact Nat.le_of_ble_eq_true rfl; dsimp only [Nat.reduceAdd, Nat.reduceMul, Nat.reduceSub, List.nil_append, List.cons_append, nbk, List.map_cons, List.map_nil]
       apply Trc.step rfl rfl; exact wnt_n rfl; (with_reducible apply s_move); exact rfl; dsimp only [Nat.reduceAdd, Nat.reduceMul, Nat.reduceSub, List.nil_append, List.cons_append, nbk, List.map_cons, List.map_nil]
       apply Trc.step rfl rfl; exact wnt_n rfl; (with_reducible apply s_extract); exact rfl; exact rfl; dsimp only [Nat.reduceAdd, Nat.reduceMul, Nat.reduceSub, List.nil_append, List.cons_append, nbk, List.map_cons, List.map_nil]
       apply Trc.step rfl rfl; exact wnt_n rfl; (with_reducible apply s_extract); exact rfl; exact rfl; dsimp only [Nat.reduceAdd, Nat.reduceMul, Nat.reduceSub, List.nil_append, List.cons_append, nbk, List.map_cons, List.map_nil]
       apply Trc.step rfl rfl; exact wnt_n rfl; (with_reducible apply s_assign); exact rfl; dsimp only [Nat.reduceAdd, Nat.reduceMul, Nat.reduceSub, List.nil_append, List.cons_append, nbk, List.map_cons, List.map_nil]
       apply Trc.step rfl rfl; exact wnt_n rfl; (with_reducible apply s_assign); exact rfl; dsimp only [Nat.reduceAdd, Nat.reduceMul, Nat.reduceSub, List.nil_append, List.cons_append, nbk, List.map_cons, List.map_nil]
       exact Trc.done _ _ _; exact rfl; (with_reducible refine thn_n ?_); (with_reducible refine Gol.seq ?_); (with_reducible refine Gol.seq ?_); (with_reducible apply Gol.region)
       apply Trc.step rfl rfl; exact wnt_n rfl; (with_reducible apply s_move); exact rfl; dsimp only [Nat.reduceAdd, Nat.reduceMul, Nat.reduceSub, List.nil_append, List.cons_append, nbk, List.map_cons, List.map_nil]
       apply Trc.step rfl rfl; exact wnt_n rfl; (with_reducible apply s_not); exact rfl; dsimp only [Nat.reduceAdd, Nat.reduceMul, Nat.reduceSub, List.nil_append, List.cons_append, nbk, List.map_cons, List.map_nil]
       apply Trc.step rfl rfl; exact wnt_n rfl; (with_reducible apply s_move); exact rfl; dsimp only [Nat.reduceAdd, Nat.reduceMul, Nat.reduceSub, List.nil_append, List.cons_append, nbk, List.map_cons, List.map_nil]
       apply Trc.skip rfl rfl; apply wnt_g; exact rfl; exact rfl; exact rfl; rfl; dsimp only [Nat.reduceAdd, Nat.reduceMul, Nat.reduceSub, List.nil_append, List.cons_append, nbk, List.map_cons, List.map_nil]
       apply Trc.skip rfl rfl; apply wnt_g; exact rfl; exact rfl; exact rfl; rfl; dsimp only [Nat.reduceAdd, Nat.reduceMul, Nat.reduceSub, List.nil_append, List.cons_append, nbk, List.map_cons, List.map_nil]
       apply Trc.step rfl rfl; exact wnt_n rfl; (with_reducible apply s_pick_t); exact rfl; rfl; exact rfl; dsimp only [Nat.reduceAdd, Nat.reduceMul, Nat.reduceSub, List.nil_append, List.cons_append, nbk, List.map_cons, List.map_nil]
       exact Trc.done _ _ _; exact rfl; (with_reducible refine thn_n ?_))
      refine Gol.cond_t rfl (by rfl) ?_
      ((with_reducible refine Gol.seq ?_); (with_reducible apply Gol.region); apply Trc.step rfl rfl; exact wnt_n rfl; apply s_call (f := 9) rfl
       exact evs.nil; exact ArgL.nil; exact awake2_ok; exact Nat.le_of_ble_eq_true rfl; dsimp only [Nat.reduceAdd, Nat.reduceMul, Nat.reduceSub, List.nil_append, List.cons_append, nbk, List.map_cons, List.map_nil]
       apply Trc.step rfl rfl; exact wnt_n rfl; (with_reducible apply s_assign); exact rfl; dsimp only [Nat.reduceAdd, Nat.reduceMul, Nat.reduceSub, List.nil_append, List.cons_append, nbk, List.map_cons, List.map_nil]
       exact Trc.done _ _ _; exact rfl; (with_reducible refine thn_n ?_); (with_reducible refine Gol.ret ?_); (with_reducible refine thn_r ?_))
      (apply RetQ.mk (by first | exact .inr rfl | exact .inl rfl); apply res_1 rfl; exact res_tmp rfl; exact out_val)
theorem codecApart_ok (l : List Vl) (ix : Int) (o : Vl) (hol : o.l.length ≤ 140737488351232) :
    Fresh Try.prog 3 [.ex l.length false (l.flatMap valC), .v (.int .i64 ix), .ag (valC o)] (fun _ => .v (.bool true)) [] := by
  by_cases h0 : l.length = 0
  · have e : l = [] := List.eq_nil_of_length_eq_zero h0
    subst e
    rw [show valC o = [.v (.int .i64 o.kind), .v (.int .i64 o.width), .v (.int .u64 (o.v.toNat : Int)), .ex o.p.length false (byA o.p), .ex o.l.length false (byA (flat o.l))] from rfl]
    refine Fresh.of (fn := Try.f3) Try.func3 rfl (Nat.le_of_ble_eq_true rfl) fun w => ?_
    ((with_reducible refine Gol.seq ?_); (with_reducible apply Gol.region); apply Trc.step rfl rfl; exact wnt_n rfl; (with_reducible apply s_box); exact rfl
     exact rfl; dsimp only [Nat.reduceAdd, Nat.reduceMul, Nat.reduceSub, List.nil_append, List.cons_append, nbk, List.map_cons, List.map_nil]; apply Trc.step rfl rfl
     exact wnt_n rfl; (with_reducible apply s_assign); exact rfl; dsimp only [Nat.reduceAdd, Nat.reduceMul, Nat.reduceSub, List.nil_append, List.cons_append, nbk, List.map_cons, List.map_nil]
     exact Trc.done _ _ _; exact rfl; (with_reducible refine thn_n ?_); (with_reducible refine Gol.seq ?_); (with_reducible refine Gol.seq ?_); (with_reducible apply Gol.region)
     apply Trc.step rfl rfl; exact wnt_n rfl; (with_reducible apply s_move); exact rfl; dsimp only [Nat.reduceAdd, Nat.reduceMul, Nat.reduceSub, List.nil_append, List.cons_append, nbk, List.map_cons, List.map_nil]
     apply Trc.step rfl rfl; exact wnt_n rfl; (with_reducible apply s_len); exact rfl; exact ln_ex; dsimp only [Nat.reduceAdd, Nat.reduceMul, Nat.reduceSub, List.nil_append, List.cons_append, nbk, List.map_cons, List.map_nil]
     apply Trc.step rfl rfl; exact wnt_n rfl; (with_reducible apply s_eqn); exact rfl; exact rfl; dsimp only [Nat.reduceAdd, Nat.reduceMul, Nat.reduceSub, List.nil_append, List.cons_append, nbk, List.map_cons, List.map_nil]
     apply Trc.step rfl rfl; exact wnt_n rfl; (with_reducible apply s_move); exact rfl; dsimp only [Nat.reduceAdd, Nat.reduceMul, Nat.reduceSub, List.nil_append, List.cons_append, nbk, List.map_cons, List.map_nil]
     apply Trc.skip rfl rfl; apply wnt_g; exact rfl; exact rfl; exact rfl; rfl; dsimp only [Nat.reduceAdd, Nat.reduceMul, Nat.reduceSub, List.nil_append, List.cons_append, nbk, List.map_cons, List.map_nil]
     apply Trc.skip rfl rfl; apply wnt_g; exact rfl; exact rfl; exact rfl; rfl; dsimp only [Nat.reduceAdd, Nat.reduceMul, Nat.reduceSub, List.nil_append, List.cons_append, nbk, List.map_cons, List.map_nil]
     apply Trc.skip rfl rfl; apply wnt_g; exact rfl; exact rfl; exact rfl; rfl; dsimp only [Nat.reduceAdd, Nat.reduceMul, Nat.reduceSub, List.nil_append, List.cons_append, nbk, List.map_cons, List.map_nil]
     apply Trc.step rfl rfl; exact wnt_n rfl; (with_reducible apply s_pick_t); exact rfl; rfl; exact rfl; dsimp only [Nat.reduceAdd, Nat.reduceMul, Nat.reduceSub, List.nil_append, List.cons_append, nbk, List.map_cons, List.map_nil]
     exact Trc.done _ _ _; exact rfl; (with_reducible refine thn_n ?_))
    refine Gol.cond_t rfl (by rfl) ?_
    ((with_reducible refine Gol.seq ?_); (with_reducible apply Gol.region); apply Trc.step rfl rfl; exact wnt_n rfl; apply s_call (f := 9) rfl
     exact evs.nil; exact ArgL.nil; exact awake2_ok; exact Nat.le_of_ble_eq_true rfl; dsimp only [Nat.reduceAdd, Nat.reduceMul, Nat.reduceSub, List.nil_append, List.cons_append, nbk, List.map_cons, List.map_nil]
     apply Trc.step rfl rfl; exact wnt_n rfl; (with_reducible apply s_assign); exact rfl; dsimp only [Nat.reduceAdd, Nat.reduceMul, Nat.reduceSub, List.nil_append, List.cons_append, nbk, List.map_cons, List.map_nil]
     exact Trc.done _ _ _; exact rfl; (with_reducible refine thn_n ?_); (with_reducible refine Gol.ret ?_); (with_reducible refine thn_r ?_))
    (apply RetQ.mk (by first | exact .inr rfl | exact .inl rfl); apply res_1 rfl; exact res_tmp rfl; exact out_val)
  · by_cases h1 : 60 < l.length
    · rw [show valC o = [.v (.int .i64 o.kind), .v (.int .i64 o.width), .v (.int .u64 (o.v.toNat : Int)), .ex o.p.length false (byA o.p), .ex o.l.length false (byA (flat o.l))] from rfl]
      refine Fresh.of (fn := Try.f3) Try.func3 rfl (Nat.le_of_ble_eq_true rfl) fun w => ?_
      ((with_reducible refine Gol.seq ?_); (with_reducible apply Gol.region); apply Trc.step rfl rfl; exact wnt_n rfl; (with_reducible apply s_box); exact rfl
       exact rfl; dsimp only [Nat.reduceAdd, Nat.reduceMul, Nat.reduceSub, List.nil_append, List.cons_append, nbk, List.map_cons, List.map_nil]; apply Trc.step rfl rfl
       exact wnt_n rfl; (with_reducible apply s_assign); exact rfl; dsimp only [Nat.reduceAdd, Nat.reduceMul, Nat.reduceSub, List.nil_append, List.cons_append, nbk, List.map_cons, List.map_nil]
       exact Trc.done _ _ _; exact rfl; (with_reducible refine thn_n ?_); (with_reducible refine Gol.seq ?_); (with_reducible refine Gol.seq ?_); (with_reducible apply Gol.region)
       apply Trc.step rfl rfl; exact wnt_n rfl; (with_reducible apply s_move); exact rfl; dsimp only [Nat.reduceAdd, Nat.reduceMul, Nat.reduceSub, List.nil_append, List.cons_append, nbk, List.map_cons, List.map_nil]
       apply Trc.step rfl rfl; exact wnt_n rfl; (with_reducible apply s_len); exact rfl; exact ln_ex; dsimp only [Nat.reduceAdd, Nat.reduceMul, Nat.reduceSub, List.nil_append, List.cons_append, nbk, List.map_cons, List.map_nil]
       apply Trc.step rfl rfl; exact wnt_n rfl; (with_reducible apply s_eqn); exact rfl; exact rfl; dsimp only [Nat.reduceAdd, Nat.reduceMul, Nat.reduceSub, List.nil_append, List.cons_append, nbk, List.map_cons, List.map_nil]
       apply Trc.step rfl rfl; exact wnt_n rfl; (with_reducible apply s_move); exact rfl; dsimp only [Nat.reduceAdd, Nat.reduceMul, Nat.reduceSub, List.nil_append, List.cons_append, nbk, List.map_cons, List.map_nil]
       apply Trc.step rfl rfl; apply wnt_g; exact rfl; exact rfl; exact rfl; (focus (simp only [*]; rfl)); (with_reducible apply s_move); exact rfl; dsimp only [Nat.reduceAdd, Nat.reduceMul, Nat.reduceSub, List.nil_append, List.cons_append, nbk, List.map_cons, List.map_nil]
       apply Trc.step rfl rfl; apply wnt_g; exact rfl; exact rfl; exact rfl; (focus (simp only [*]; rfl)); (with_reducible apply s_len); exact rfl; exact ln_ex
       dsimp only [Nat.reduceAdd, Nat.reduceMul, Nat.reduceSub, List.nil_append, List.cons_append, nbk, List.map_cons, List.map_nil]; apply Trc.step rfl rfl
       apply wnt_g; exact rfl; exact rfl; exact rfl; (focus (simp only [*]; rfl)); (with_reducible apply s_gtn); exact rfl; exact rfl; dsimp only [Nat.reduceAdd, Nat.reduceMul, Nat.reduceSub, List.nil_append, List.cons_append, nbk, List.map_cons, List.map_nil]
       apply Trc.step rfl rfl; exact wnt_n rfl; (with_reducible apply s_pick_f); exact rfl; (focus (simp only [*]; rfl)); exact rfl; dsimp only [Nat.reduceAdd, Nat.reduceMul, Nat.reduceSub, List.nil_append, List.cons_append, nbk, List.map_cons, List.map_nil]
       exact Trc.done _ _ _; exact rfl; (with_reducible refine thn_n ?_))
      refine Gol.cond_t rfl (decide_eq_true h1) ?_
      ((with_reducible refine Gol.seq ?_); (with_reducible apply Gol.region); apply Trc.step rfl rfl; exact wnt_n rfl; apply s_call (f := 9) rfl
       exact evs.nil; exact ArgL.nil; exact awake2_ok; exact Nat.le_of_ble_eq_true rfl; dsimp only [Nat.reduceAdd, Nat.reduceMul, Nat.reduceSub, List.nil_append, List.cons_append, nbk, List.map_cons, List.map_nil]
       apply Trc.step rfl rfl; exact wnt_n rfl; (with_reducible apply s_assign); exact rfl; dsimp only [Nat.reduceAdd, Nat.reduceMul, Nat.reduceSub, List.nil_append, List.cons_append, nbk, List.map_cons, List.map_nil]
       exact Trc.done _ _ _; exact rfl; (with_reducible refine thn_n ?_); (with_reducible refine Gol.ret ?_); (with_reducible refine thn_r ?_))
      (apply RetQ.mk (by first | exact .inr rfl | exact .inl rfl); apply res_1 rfl; exact res_tmp rfl; exact out_val)
    · exact apart_some l ix o l.length rfl (by omega) (by omega) hol
end Go.Proofs.Ytnghcfjejgdnlaa
