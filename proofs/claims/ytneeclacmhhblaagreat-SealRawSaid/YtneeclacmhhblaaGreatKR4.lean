/-
  Texts laid together: Gr, Vote2, Vote3, Sl, St27, Sm, Wd, Nw, Sn, So. Conditions: as told in each.
-/
import Derived.Test.YtneeclacmhhblaaGreatKR3
set_option linter.unusedSimpArgs false
set_option linter.unusedVariables false
set_option linter.unusedSectionVars false
namespace Go.Proofs.YtneeclacmhhblaaGreat
open Go.RowKit
open Nat (reduceAdd reduceMul reduceSub)

def fnd (l : List It) (n : UInt64) : Option Nat := l.findIdx? (fun x => x.n == n)
def itOf (l : List It) (n : UInt64) : Option It := (fnd l n).bind fun i => l[i]?
theorem fnd_lt {l : List It} {n : UInt64} {i : Nat} (h : fnd l n = some i) : ∃ x, l[i]? = some x ∧ x.n = n := by
  unfold fnd at h
  rw [List.findIdx?_eq_some_iff_getElem] at h
  obtain ⟨hi, h1, _⟩ := h
  exact ⟨_, List.getElem?_eq_getElem hi, by simpa using h1⟩
theorem fnd_some {l : List It} {n : UInt64} {x : It} (h : itOf l n = some x) : ∃ i, fnd l n = some i ∧ l[i]? = some x ∧ x.n = n := by
  unfold itOf at h
  cases hf : fnd l n with
  | none => rw [hf] at h; cases h
  | some i =>
    rw [hf] at h
    obtain ⟨y, h1, h2⟩ := fnd_lt hf
    have h : l[i]? = some x := h
    rw [h1] at h; injection h with h; subst h
    exact ⟨i, rfl, h1, h2⟩
theorem fnd_none {l : List It} {n : UInt64} (h : itOf l n = none) : fnd l n = none := by
  cases hf : fnd l n with
  | none => rfl
  | some i =>
    obtain ⟨y, h1, h2⟩ := fnd_lt hf
    unfold itOf at h
    rw [hf] at h
    have h : l[i]? = none := h
    rw [h1] at h; cases h
noncomputable def atF (l : List It) : Nat → List (UInt64 × Nat)
  | 0 => []
  | i + 1 => match l[i]? with
    | some x => match alk (atF l i) x.n with
      | none => aput (atF l i) x.n i
      | some _ => atF l i
    | none => atF l i
theorem fnd_next {l : List It} {i : Nat} {x : It} (h : l[i]? = some x) (n : UInt64) : fnd (l.take (i + 1)) n = match fnd (l.take i) n with | some j => some j | none => if x.n = n then some i else none := by
  obtain ⟨hi, e⟩ := List.getElem?_eq_some_iff.1 h
  unfold fnd
  rw [List.take_succ_eq_append_getElem hi, List.findIdx?_append, e]
  cases List.findIdx? (fun x => x.n == n) (List.take i l) with
  | some j => rfl
  | none =>
    by_cases hn : x.n = n
    · simp [hn] <;> omega
    · simp [hn]
theorem atF_ok (l : List It) : ∀ (i : Nat) (n : UInt64), alk (atF l i) n = fnd (l.take i) n
  | 0, n => by simp [atF, alk, fnd]
  | i + 1, n => by
    unfold atF
    have ih := atF_ok l i
    cases hx : l[i]? with
    | none =>
      have : l.length ≤ i := List.getElem?_eq_none_iff.1 hx
      simp only [ih, List.take_of_length_le this, List.take_of_length_le (show l.length ≤ i + 1 by omega)]
    | some x =>
      simp only
      rw [fnd_next hx]
      cases ha : alk (atF l i) x.n with
      | none =>
        simp only [alk_aput, ih]
        rw [ih] at ha
        by_cases hn : n = x.n
        · subst hn; simp [ha]
        · rw [if_neg hn, if_neg (fun e => hn e.symm)]
          cases fnd (l.take i) n <;> rfl
      | some j =>
        simp only [ih]
        rw [ih] at ha
        cases hf : fnd (l.take i) n with
        | some k => rfl
        | none => rw [if_neg (fun e => by rw [e, hf] at ha; cases ha)]
theorem at_all (l : List It) (n : UInt64) : alk (atF l l.length) n = fnd l n := by rw [atF_ok, List.take_length]
noncomputable def grM (l : List It) : AV := .em (kvA keN veI (atF l l.length))
instance (l : List It) : Clo (grM l) := by unfold grM; infer_instance
set_option maxHeartbeats 1600000 in
theorem newGraph_ok (l : List It) (f : Bool) (hl : l.length ≤ 1000000) : Acts Tryz.prog 78 [] [.ex l.length f (itsA l)] (.ag [.ex l.length f (itsA l), grM l]) [] := by
  refine Acts.of (fn := Tryz.f78) Tryz.func78 rfl (lb rfl) (lb rfl) fun w bl hid loc => ?_
  (
 apply Gol.sr; apply t1; exact s_alloc; dsimp only [reduceAdd, reduceMul]; exact dn; exact rfl; apply Gol.sr; apply t0; exact sM rfl; apply t0
 exact s_len rfl ln_ex; apply t1; exact s_makeMap rfl; apply t0; exact sA rfl; dsimp only [reduceAdd, reduceMul]; exact dn; exact rfl; refine Gol.seq ?_
 apply Gol.sr; apply t0; exact sM rfl; apply t0; exact s_len rfl ln_ex; apply t0; exact sM rfl; dsimp only [reduceAdd, reduceMul]; exact dn
 exact rfl; refine Gol.block ?_)
  refine Gol.loop (ι := Nat) (fun i => i ≤ l.length) (fun i => l.length - i) 200 (fun i => [(100, some ⟨cu (.v (.agg #[.slice none 0 0, .map none])), 92, 2⟩), (101, some ⟨kvA keN veI (atF l i), 90, 0⟩)]) (fun i => [(0, .ex l.length f (itsA l)), (2, .pt 100 0), (3, .mp 101), (11, .ex l.length f (itsA l)), (12, .v (.int .i64 (l.length : Int))), (13, .v (.int .i64 (i : Int)))]) 0 (Nat.zero_le _) ?_ ?_
  · (
 apply Le.mk' [(100, 8), (101, 32)]; apply RnT.c; exact rfl; exact Rn.clo inferInstance rfl; apply RnT.c; exact rfl; exact Rn.pt rfl rfl; apply RnT.c; exact rfl
 exact Rn.mp rfl; apply RnT.c; exact rfl; exact Rn.clo inferInstance rfl; apply RnT.c; exact rfl; exact Rn.v rfl; apply RnT.c; exact rfl; exact Rn.v rfl
 exact RnT.n; apply RnH.c; exact rfl; exact rfl; rfl; exact rfl; exact rfl; apply RnH.c; exact rfl; exact rfl; rfl; exact rfl; exact rfl; exact RnH.n; exact rfl
 exact rfl)
  intro i hi
  (apply Gol.sr; apply t0; exact s_ltn rfl rfl; dsimp only [reduceAdd, reduceMul]; exact dn; exact rfl; refine Gol.seq ?_)
  refine Gol.cond rfl (fun h => ?_) (fun h => ?_)
  · have hlt : i < l.length := of_decide_eq_true h
    have hx : l[i]? = some l[i] := List.getElem?_eq_getElem hlt
    generalize l[i] = x at hx
    cases ha : alk (atF l i) x.n with
    | none =>
      have hat : atF l (i + 1) = aput (atF l i) x.n i := by simp only [atF, hx, ha]
      (
 refine Gol.skip ?_; refine thn_n ?_; refine Gol.seq ?_; refine Gol.block ?_; apply Gol.sr
 apply t0; exact sM rfl; apply t0; exact s_ixeD rfl rfl (by omega) (its_ne (by omega)) (its_at (by assumption)); apply t0; exact s_loadEN rfl (lb rfl) agu_it
 apply t1; exact s_alloc; apply t0; exact sA rfl; apply n1; exact s_storeW rfl rfl rfl rfl rfl rfl; dsimp only [reduceAdd, reduceMul]; exact dn
 exact rfl; apply Gol.sr; apply t0; exact sM rfl; apply t0; exact sF rfl; apply t0; exact s_loadN rfl rfl (lb rfl) (agu_nm8 rfl)
 apply t0; exact s_lookM2 rfl rfl rfl isV_v inferInstance (lk_none (by assumption)) (lk_isnt (by assumption)); apply t0; exact sM rfl; apply t0; exact s_extract rfl rfl
 apply t0; exact s_extract rfl rfl; apply t0; exact sA rfl; apply t0; exact sA rfl; dsimp only [reduceAdd, reduceMul]; exact dn; exact rfl
 apply Gol.sr; apply t0; exact sM rfl; apply t0; exact s_not rfl; dsimp only [reduceAdd, reduceMul]; exact dn; exact rfl)
      refine Gol.cond_t rfl rfl ?_
      (
 apply Gol.region; apply t0; exact sM rfl; apply t0; exact sF rfl; apply t0; exact s_loadN rfl rfl (lb rfl) (agu_nm8 rfl)
 apply t0; exact sM rfl; apply nq; exact s_mapUpd rfl rfl rfl isV_v inferInstance rfl isV_v; dsimp only [reduceAdd, reduceMul, reduceSub, na, ca, nbk, mc, ml]
 exact dn; exact rfl; refine inBlk_n ?_; refine thn_n ?_; apply Gol.region; apply t0; exact s_addn rfl rfl (by simp <;> omega)
 apply t0; exact sM rfl; dsimp only [reduceAdd, reduceMul]; exact dn; exact rfl)
      exact rnd_n (i + 1) hlt (by show l.length - (i + 1) < l.length - i; omega) (by rw [hat]; (apply Le.mk' [(100, 100), (101, 101)]; apply RnT.c; exact rfl; exact Rn.clo inferInstance rfl; apply RnT.c; exact rfl; exact Rn.pt rfl rfl; apply RnT.c
                                                                                                exact rfl; exact Rn.mp rfl; apply RnT.c; exact rfl; exact Rn.clo inferInstance rfl; apply RnT.c; exact rfl; exact Rn.v rfl; apply RnT.c; exact rfl; exact Rn.v rfl
                                                                                                exact RnT.n; apply RnH.c; exact rfl; exact rfl; rfl; exact rfl; exact rfl; apply RnH.c; exact rfl; exact rfl; rfl; exact rfl; exact rfl; exact RnH.n; exact rfl
                                                                                                exact rfl))
    | some j =>
      have hat : atF l (i + 1) = atF l i := by simp only [atF, hx, ha]
      (
 refine Gol.skip ?_; refine thn_n ?_; refine Gol.seq ?_; refine Gol.block ?_; apply Gol.sr
 apply t0; exact sM rfl; apply t0; exact s_ixeD rfl rfl (by omega) (its_ne (by omega)) (its_at (by assumption)); apply t0; exact s_loadEN rfl (lb rfl) agu_it
 apply t1; exact s_alloc; apply t0; exact sA rfl; apply n1; exact s_storeW rfl rfl rfl rfl rfl rfl; dsimp only [reduceAdd, reduceMul]; exact dn
 exact rfl; apply Gol.sr; apply t0; exact sM rfl; apply t0; exact sF rfl; apply t0; exact s_loadN rfl rfl (lb rfl) (agu_nm8 rfl)
 apply t0; exact s_lookM2 rfl rfl rfl isV_v inferInstance (lk_some (by assumption)) (lk_is (by assumption)); apply t0; exact sM rfl; apply t0; exact s_extract rfl rfl
 apply t0; exact s_extract rfl rfl; apply t0; exact sA rfl; apply t0; exact sA rfl; dsimp only [reduceAdd, reduceMul]; exact dn; exact rfl
 apply Gol.sr; apply t0; exact sM rfl; apply t0; exact s_not rfl; dsimp only [reduceAdd, reduceMul]; exact dn; exact rfl)
      refine Gol.cond_f rfl rfl ?_
      (
 refine Gol.skip ?_; refine inBlk_n ?_; refine thn_n ?_; apply Gol.region; apply t0
 exact s_addn rfl rfl (by simp <;> omega); apply t0; exact sM rfl; dsimp only [reduceAdd, reduceMul]; exact dn; exact rfl)
      exact rnd_n (i + 1) hlt (by show l.length - (i + 1) < l.length - i; omega) (by rw [hat]; (apply Le.mk' [(100, 100), (101, 101)]; apply RnT.c; exact rfl; exact Rn.clo inferInstance rfl; apply RnT.c; exact rfl; exact Rn.pt rfl rfl; apply RnT.c
                                                                                                exact rfl; exact Rn.mp rfl; apply RnT.c; exact rfl; exact Rn.clo inferInstance rfl; apply RnT.c; exact rfl; exact Rn.v rfl; apply RnT.c; exact rfl; exact Rn.v rfl
                                                                                                exact RnT.n; apply RnH.c; exact rfl; exact rfl; rfl; exact rfl; exact rfl; apply RnH.c; exact rfl; exact rfl; rfl; exact rfl; exact rfl; exact RnH.n; exact rfl
                                                                                                exact rfl))
  · have hge : ¬ i < l.length := of_decide_eq_false h
    obtain rfl : i = l.length := by omega
    refine Gol.le (Le.giveM (i := 3) (b := 101) rfl rfl rfl) ?_
    (
 refine Gol.exit ?_; refine thn_x ?_; refine rnd_x ?_; refine inBlk_hit ?_; refine thn_n ?_
 apply Gol.sr; apply t0; exact sM rfl; apply t0; exact sM rfl; dsimp only [reduceAdd, reduceMul, reduceSub, na, ca, nbk, mc, ml]
 apply tq; apply s_bld; exact rfl; (focus (dsimp only [splB, cuB, spl, cu, Value.cells, nameC, List.map, List.take, List.drop, List.append, List.length, List.cons_append, List.nil_append, Nat.reduceAdd, List.take_succ_cons, List.take_zero, List.drop_succ_cons, List.drop_zero, List.take_nil, List.drop_nil, List.append_nil, List.length_cons, List.length_nil]; done))
 dsimp only [reduceAdd, reduceMul, reduceSub, na, ca, nbk, mc, ml]; apply n1; exact s_storeW rfl rfl rfl rfl rfl rfl
 dsimp only [reduceAdd, reduceMul]; exact dn; exact rfl; refine Gol.ret ?_)
    (
 apply RetA.mk [] (by first | exact .inr rfl | exact .inl rfl); apply res_1 rfl; exact res_cell rfl rfl rfl (agu_cua _); exact rfl; exact rfl; exact rfl
 exact OAs.nil; exact rZ)
def It0 : It := ⟨0, 0, 0, 0, 0, 0, 0, ⟨[], [], [], [], 0⟩, 0, []⟩
set_option maxHeartbeats 1600000 in
theorem item_yes (l : List It) (f : Bool) (n : UInt64) (x : It) (hl : l.length ≤ 1000000) (hx : itOf l n = some x) : Acts Tryz.prog 61 [] [.ag [.ex l.length f (itsA l), grM l], .v (.agg (nameC n))] (.tp [.ag (itA x), .v (.bool true)]) [] := by
  obtain ⟨i, hi, hli, hn⟩ := fnd_some hx
  have ha : alk (atF l l.length) n = some i := by rw [at_all]; exact hi
  have hlt : i < l.length := (List.getElem?_eq_some_iff.1 hli).1
  unfold grM
  refine Acts.of (fn := Tryz.f61) Tryz.func61 rfl (lb rfl) (lb rfl) fun w bl hid loc => ?_
  (
 apply Gol.sr; apply t1; exact s_box rfl rfl; apply t1; exact s_box rfl rfl; apply t1; exact s_alloc; apply t0; exact sA rfl; dsimp only [reduceAdd, reduceMul]
 exact dn; exact rfl; apply Gol.sr; apply t0; exact sF rfl; apply t0; exact s_load rfl rfl rfl; apply t0; exact s_loadW rfl rfl rfl (agu_cuv _)
 apply t0; exact s_lookE2 rfl rfl isV_v inferInstance (lk_some (by assumption)) (lk_is (by assumption)); apply t0; exact sM rfl; apply t0; exact s_extract rfl rfl
 apply t0; exact s_extract rfl rfl; apply t0; exact sA rfl; apply t0; exact sA rfl; dsimp only [reduceAdd, reduceMul]; exact dn; exact rfl
 refine Gol.seq ?_; apply Gol.sr; apply t0; exact sM rfl; apply t0; exact s_not rfl; dsimp only [reduceAdd, reduceMul]; exact dn
 exact rfl)
  refine Gol.cond_f rfl rfl ?_
  (
 refine Gol.skip ?_; refine thn_n ?_; apply Gol.sr; apply t0; exact sF rfl; apply t0; exact s_load rfl rfl rfl
 apply t0; exact sM rfl; apply t0; exact s_ixeD rfl rfl (by omega) (its_ne (by omega)) (its_at (by assumption)); apply t0; exact s_loadEN rfl (lb rfl) agu_it
 apply n1; exact s_storeW rfl rfl rfl rfl rfl rfl; apply t0; exact sA rfl; dsimp only [reduceAdd, reduceMul]; exact dn; exact rfl; refine Gol.ret ?_)
  (
 apply RetA.mk [] (by first | exact .inr rfl | exact .inl rfl); apply res_2 rfl; exact res_cell rfl rfl rfl (agu_cua _); exact res_tmp rfl; exact rfl; exact rfl
 exact rfl; exact OAs.nil; exact rZ)
set_option maxHeartbeats 1600000 in
theorem item_no (l : List It) (f : Bool) (n : UInt64) (hl : l.length ≤ 1000000) (hx : itOf l n = none) : Acts Tryz.prog 61 [] [.ag [.ex l.length f (itsA l), grM l], .v (.agg (nameC n))] (.tp [.ag (itA It0), .v (.bool false)]) [] := by
  have ha : alk (atF l l.length) n = none := by rw [at_all]; exact fnd_none hx
  unfold grM
  refine Acts.of (fn := Tryz.f61) Tryz.func61 rfl (lb rfl) (lb rfl) fun w bl hid loc => ?_
  (
 apply Gol.sr; apply t1; exact s_box rfl rfl; apply t1; exact s_box rfl rfl; apply t1; exact s_alloc; apply t0; exact sA rfl; dsimp only [reduceAdd, reduceMul]
 exact dn; exact rfl; apply Gol.sr; apply t0; exact sF rfl; apply t0; exact s_load rfl rfl rfl; apply t0; exact s_loadW rfl rfl rfl (agu_cuv _)
 apply t0; exact s_lookE2 rfl rfl isV_v inferInstance (lk_none (by assumption)) (lk_isnt (by assumption)); apply t0; exact sM rfl; apply t0; exact s_extract rfl rfl
 apply t0; exact s_extract rfl rfl; apply t0; exact sA rfl; apply t0; exact sA rfl; dsimp only [reduceAdd, reduceMul]; exact dn; exact rfl
 refine Gol.seq ?_; apply Gol.sr; apply t0; exact sM rfl; apply t0; exact s_not rfl; dsimp only [reduceAdd, reduceMul]; exact dn
 exact rfl)
  refine Gol.cond_t rfl rfl ?_
  (
 apply Gol.sr; apply t0; exact s_zero; apply n1; exact s_storeW rfl rfl rfl rfl rfl rfl; apply t0; exact sA rfl; dsimp only [reduceAdd, reduceMul]
 exact dn; exact rfl; refine Gol.ret ?_; refine thn_r ?_)
  (
 apply RetA.mk [] (by first | exact .inr rfl | exact .inl rfl); apply res_2 rfl; exact res_cell rfl rfl rfl (agu_cuv _); exact res_tmp rfl; exact rfl; exact rfl
 exact rfl; exact OAs.nil; apply Ren.tpL; apply RenL.cons; refine RenL.v ?_ rfl; dsimp only [List.map_cons, List.map_nil]; apply rK
 apply rK; apply rK; apply rK; apply rK; apply rK; apply rK; apply rK
 apply rK; apply rK; apply rK; apply rK; apply rK; apply rK; apply rK
 apply rK; apply rK; apply rK; apply RenL.cons
 exact Ren.nil rfl; apply RenL.cons; exact Ren.nil rfl; apply rK; apply RenL.cons; exact Ren.nil rfl; apply RenL.cons
 exact Ren.nil rfl; apply RenL.cons; exact Ren.nil rfl; apply RenL.cons; exact Ren.nil rfl; apply rK; apply RenL.cons
 exact Ren.nil rfl; apply RenL.cons; exact Ren.nil rfl; exact RenL.nil; apply rK; exact RenL.nil)
end Go.Proofs.YtneeclacmhhblaaGreat


namespace Go.Proofs.YtneeclacmhhblaaGreat
open Go.RowKit
open Nat (reduceAdd reduceMul reduceSub)

def kindB (v : Vt) : Bool := decide (1 ≤ v.kind ∧ v.kind ≤ 7)
def signB (v : Vt) : Bool := decide (0 ≤ v.signer ∧ v.signer ≤ 9)
def clashB (v : Vt) : Bool := decide (v.choice = 1) == (v.value == 0)
def tailB (v : Vt) : Bool :=
  if v.kind = 3 then decide (0 ≤ v.slot ∧ v.slot ≤ 9) && decide (1 ≤ v.round ∧ v.round ≤ 12) && (decide (0 ≤ v.choice ∧ v.choice ≤ 1) && (!decide (v.round = 1) || !decide (v.choice = 0) || decide (v.support = 0)))
  else if v.kind = 4 then decide (0 ≤ v.slot ∧ v.slot ≤ 9) && decide (1 ≤ v.round ∧ v.round ≤ 12) && decide (0 ≤ v.choice ∧ v.choice ≤ 2)
  else decide (0 ≤ v.slot ∧ v.slot ≤ (if v.kind = 1 ∨ v.kind = 2 then 9 else 0)) && (decide (v.round = 0) && decide (v.support = 0)) && decide (v.choice = 1)
def validB (v : Vt) : Bool := kindB v && signB v && !clashB v && decide (andNotI v.support 1023 = 0) && tailB v
def tails (v : Vt) (s : Int) (r c : Bool) : Bool := decide (0 ≤ v.slot ∧ v.slot ≤ s) && r && c
theorem valid_ok (v : Vt) : Fresh Tryz.prog 79 [.v (.agg (voteC v))] (fun _ => .v (.bool (validB v))) [] := by
  cases hk : kindB v
  · rw [show validB v = false by simp [validB, hk]]
    unfold kindB at hk
    refine Fresh.of (fn := Tryz.f79) Tryz.func79 rfl (lb rfl) fun w => ?_
    (
 apply Gol.sr; apply t1; exact s_box rfl rfl; apply t0; exact sA rfl; dsimp only [reduceAdd, reduceMul]; exact dn; exact rfl; refine Gol.seq ?_
 apply Gol.sr; apply t0; exact sF rfl; apply t0; exact s_load rfl rfl rfl; apply tq; exact s_call (f := 115) rfl (eC rfl (eC rfl (eC rfl eN))) (aC aL (aC aL (aC aL aN))) (between_ok _ _ _) (lb rfl)
 dsimp only [reduceAdd, reduceMul, reduceSub, na, ca, nbk, mc, ml]; apply t0; exact s_not rfl
 apply t0; exact sM rfl; apply sk; exact wnt_g rfl rfl rfl (by simp only [*]; rfl); apply sk; exact wnt_g rfl rfl rfl (by simp only [*]; rfl)
 apply sk; exact wnt_g rfl rfl rfl (by simp only [*]; rfl); apply sk; exact wnt_g rfl rfl rfl (by simp only [*]; rfl); apply t0; exact s_pick_t rfl (by simp only [*]; rfl) rfl
 dsimp only [reduceAdd, reduceMul]; exact dn; exact rfl)
    refine Gol.cond_t rfl rfl ?_
    (apply Gol.sr; apply t0; exact sA rfl; dsimp only [reduceAdd, reduceMul]; exact dn; exact rfl; refine Gol.ret ?_; refine thn_r ?_)
    (apply RetQ.mk (by first | exact .inr rfl | exact .inl rfl); apply res_1 rfl; exact res_tmp rfl; exact out_val)
  cases hg : signB v
  · rw [show validB v = false by simp [validB, hg]]
    unfold kindB at hk
    unfold signB at hg
    refine Fresh.of (fn := Tryz.f79) Tryz.func79 rfl (lb rfl) fun w => ?_
    (
 apply Gol.sr; apply t1; exact s_box rfl rfl; apply t0; exact sA rfl; dsimp only [reduceAdd, reduceMul]; exact dn; exact rfl; refine Gol.seq ?_
 apply Gol.sr; apply t0; exact sF rfl; apply t0; exact s_load rfl rfl rfl; apply tq; exact s_call (f := 115) rfl (eC rfl (eC rfl (eC rfl eN))) (aC aL (aC aL (aC aL aN))) (between_ok _ _ _) (lb rfl)
 dsimp only [reduceAdd, reduceMul, reduceSub, na, ca, nbk, mc, ml]; apply t0; exact s_not rfl
 apply t0; exact sM rfl; apply g0; exact wnt_g rfl rfl rfl (by simp only [*]; rfl); exact sF rfl; apply g0; exact wnt_g rfl rfl rfl (by simp only [*]; rfl)
 exact s_load rfl rfl rfl; apply gq; exact wnt_g rfl rfl rfl (by simp only [*]; rfl); exact s_call (f := 115) rfl (eC rfl (eC rfl (eC rfl eN))) (aC aL (aC aL (aC aL aN))) (between_ok _ _ _) (lb rfl)
 dsimp only [reduceAdd, reduceMul, reduceSub, na, ca, nbk, mc, ml]; apply g0; exact wnt_g rfl rfl rfl (by simp only [*]; rfl)
 exact s_not rfl; apply t0; exact s_pick_f rfl (by simp only [*]; rfl) rfl; dsimp only [reduceAdd, reduceMul]; exact dn; exact rfl)
    refine Gol.cond_t rfl (by simp only [hg]; rfl) ?_
    (apply Gol.sr; apply t0; exact sA rfl; dsimp only [reduceAdd, reduceMul]; exact dn; exact rfl; refine Gol.ret ?_; refine thn_r ?_)
    (apply RetQ.mk (by first | exact .inr rfl | exact .inl rfl); apply res_1 rfl; exact res_tmp rfl; exact out_val)
  have ev : validB v = (!clashB v && decide (andNotI v.support 1023 = 0) && tailB v) := by simp [validB, hk, hg]
  rw [ev]
  unfold kindB at hk
  unfold signB at hg
  cases hc : clashB v
  rotate_left
  · rw [show (!true && decide (andNotI v.support 1023 = 0) && tailB v) = false by simp]
    unfold clashB at hc
    refine Fresh.of (fn := Tryz.f79) Tryz.func79 rfl (lb rfl) fun w => ?_
    (
 apply Gol.sr; apply t1; exact s_box rfl rfl; apply t0; exact sA rfl; dsimp only [reduceAdd, reduceMul]; exact dn; exact rfl; refine Gol.seq ?_
 apply Gol.sr; apply t0; exact sF rfl; apply t0; exact s_load rfl rfl rfl; apply tq; exact s_call (f := 115) rfl (eC rfl (eC rfl (eC rfl eN))) (aC aL (aC aL (aC aL aN))) (between_ok _ _ _) (lb rfl)
 dsimp only [reduceAdd, reduceMul, reduceSub, na, ca, nbk, mc, ml]; apply t0; exact s_not rfl
 apply t0; exact sM rfl; apply g0; exact wnt_g rfl rfl rfl (by simp only [*]; rfl); exact sF rfl; apply g0; exact wnt_g rfl rfl rfl (by simp only [*]; rfl)
 exact s_load rfl rfl rfl; apply gq; exact wnt_g rfl rfl rfl (by simp only [*]; rfl); exact s_call (f := 115) rfl (eC rfl (eC rfl (eC rfl eN))) (aC aL (aC aL (aC aL aN))) (between_ok _ _ _) (lb rfl)
 dsimp only [reduceAdd, reduceMul, reduceSub, na, ca, nbk, mc, ml]; apply g0; exact wnt_g rfl rfl rfl (by simp only [*]; rfl)
 exact s_not rfl; apply t0; exact s_pick_f rfl (by simp only [*]; rfl) rfl; dsimp only [reduceAdd, reduceMul]; exact dn; exact rfl)
    refine Gol.cond_f rfl (by simp only [hg]; rfl) ?_
    (
 refine Gol.skip ?_; refine thn_n ?_; refine Gol.seq ?_; refine Gol.seq ?_; apply Gol.any
 kernel_rfl; apply t0; exact sF rfl; apply t0; exact s_load rfl rfl rfl; apply t0; exact s_eq rfl rfl; apply t0; exact sF rfl; apply t0
 exact s_loadN rfl rfl (lb rfl) (agu_nm8 rfl); apply t0; exact s_zero; apply t0; exact s_eqN rfl rfl; apply t0; exact s_eqb rfl rfl
 apply t0; exact sM rfl; apply sk; exact wnt_g rfl rfl rfl (by simp only [*]; rfl); apply sk; exact wnt_g rfl rfl rfl (by simp only [*]; rfl)
 apply sk; exact wnt_g rfl rfl rfl (by simp only [*]; rfl); apply sk; exact wnt_g rfl rfl rfl (by simp only [*]; rfl); apply t0; exact s_pick_t rfl (by assumption) rfl
 dsimp only [reduceAdd, reduceMul]; exact dn; kernel_rfl; exact rfl; refine thn_n ?_)
    refine Gol.cond_t rfl rfl ?_
    (apply Gol.sr; apply t0; exact sA rfl; dsimp only [reduceAdd, reduceMul]; exact dn; exact rfl; refine Gol.ret ?_; refine thn_r ?_)
    (apply RetQ.mk (by first | exact .inr rfl | exact .inl rfl); apply res_1 rfl; exact res_tmp rfl; exact out_val)
  cases hn : decide (andNotI v.support 1023 = 0)
  · rw [show (!false && false && tailB v) = false by simp]
    unfold clashB at hc
    refine Fresh.of (fn := Tryz.f79) Tryz.func79 rfl (lb rfl) fun w => ?_
    (
 apply Gol.sr; apply t1; exact s_box rfl rfl; apply t0; exact sA rfl; dsimp only [reduceAdd, reduceMul]; exact dn; exact rfl; refine Gol.seq ?_
 apply Gol.sr; apply t0; exact sF rfl; apply t0; exact s_load rfl rfl rfl; apply tq; exact s_call (f := 115) rfl (eC rfl (eC rfl (eC rfl eN))) (aC aL (aC aL (aC aL aN))) (between_ok _ _ _) (lb rfl)
 dsimp only [reduceAdd, reduceMul, reduceSub, na, ca, nbk, mc, ml]; apply t0; exact s_not rfl
 apply t0; exact sM rfl; apply g0; exact wnt_g rfl rfl rfl (by simp only [*]; rfl); exact sF rfl; apply g0; exact wnt_g rfl rfl rfl (by simp only [*]; rfl)
 exact s_load rfl rfl rfl; apply gq; exact wnt_g rfl rfl rfl (by simp only [*]; rfl); exact s_call (f := 115) rfl (eC rfl (eC rfl (eC rfl eN))) (aC aL (aC aL (aC aL aN))) (between_ok _ _ _) (lb rfl)
 dsimp only [reduceAdd, reduceMul, reduceSub, na, ca, nbk, mc, ml]; apply g0; exact wnt_g rfl rfl rfl (by simp only [*]; rfl)
 exact s_not rfl; apply t0; exact s_pick_f rfl (by simp only [*]; rfl) rfl; dsimp only [reduceAdd, reduceMul]; exact dn; exact rfl)
    refine Gol.cond_f rfl (by simp only [hg]; rfl) ?_
    (
 refine Gol.skip ?_; refine thn_n ?_; refine Gol.seq ?_; refine Gol.seq ?_; apply Gol.any
 kernel_rfl; apply t0; exact sF rfl; apply t0; exact s_load rfl rfl rfl; apply t0; exact s_eq rfl rfl; apply t0; exact sF rfl; apply t0
 exact s_loadN rfl rfl (lb rfl) (agu_nm8 rfl); apply t0; exact s_zero; apply t0; exact s_eqN rfl rfl; apply t0; exact s_eqb rfl rfl
 apply t0; exact sM rfl; apply g0; exact wnt_g rfl rfl rfl (by simp only [*]; rfl); exact sF rfl; apply g0; exact wnt_g rfl rfl rfl (by simp only [*]; rfl)
 exact s_load rfl rfl rfl; apply g0; exact wnt_g rfl rfl rfl (by simp only [*]; rfl); exact s_andNotI rfl rfl; apply g0; exact wnt_g rfl rfl rfl (by simp only [*]; rfl)
 exact s_ne rfl rfl; apply t0; exact s_pick_f rfl (by assumption) rfl; dsimp only [reduceAdd, reduceMul]; exact dn; kernel_rfl; exact rfl; refine thn_n ?_)
    refine Gol.cond_t rfl (by simp only [hn]; rfl) ?_
    (apply Gol.sr; apply t0; exact sA rfl; dsimp only [reduceAdd, reduceMul]; exact dn; exact rfl; refine Gol.ret ?_; refine thn_r ?_)
    (apply RetQ.mk (by first | exact .inr rfl | exact .inl rfl); apply res_1 rfl; exact res_tmp rfl; exact out_val)
  rw [show (!false && true && tailB v) = tailB v by simp]
  unfold clashB at hc
  clear ev
  refine Fresh.of (fn := Tryz.f79) Tryz.func79 rfl (lb rfl) fun w => ?_
  (
 apply Gol.sr; apply t1; exact s_box rfl rfl; apply t0; exact sA rfl; dsimp only [reduceAdd, reduceMul]; exact dn; exact rfl; refine Gol.seq ?_
 apply Gol.sr; apply t0; exact sF rfl; apply t0; exact s_load rfl rfl rfl; apply tq; exact s_call (f := 115) rfl (eC rfl (eC rfl (eC rfl eN))) (aC aL (aC aL (aC aL aN))) (between_ok _ _ _) (lb rfl)
 dsimp only [reduceAdd, reduceMul, reduceSub, na, ca, nbk, mc, ml]; apply t0; exact s_not rfl
 apply t0; exact sM rfl; apply g0; exact wnt_g rfl rfl rfl (by simp only [*]; rfl); exact sF rfl; apply g0; exact wnt_g rfl rfl rfl (by simp only [*]; rfl)
 exact s_load rfl rfl rfl; apply gq; exact wnt_g rfl rfl rfl (by simp only [*]; rfl); exact s_call (f := 115) rfl (eC rfl (eC rfl (eC rfl eN))) (aC aL (aC aL (aC aL aN))) (between_ok _ _ _) (lb rfl)
 dsimp only [reduceAdd, reduceMul, reduceSub, na, ca, nbk, mc, ml]; apply g0; exact wnt_g rfl rfl rfl (by simp only [*]; rfl)
 exact s_not rfl; apply t0; exact s_pick_f rfl (by simp only [*]; rfl) rfl; dsimp only [reduceAdd, reduceMul]; exact dn; exact rfl)
  refine Gol.cond_f rfl (by simp only [hg]; rfl) ?_
  (
 refine Gol.skip ?_; refine thn_n ?_; refine Gol.seq ?_; refine Gol.seq ?_; apply Gol.any
 kernel_rfl; apply t0; exact sF rfl; apply t0; exact s_load rfl rfl rfl; apply t0; exact s_eq rfl rfl; apply t0; exact sF rfl; apply t0
 exact s_loadN rfl rfl (lb rfl) (agu_nm8 rfl); apply t0; exact s_zero; apply t0; exact s_eqN rfl rfl; apply t0; exact s_eqb rfl rfl
 apply t0; exact sM rfl; apply g0; exact wnt_g rfl rfl rfl (by simp only [*]; rfl); exact sF rfl; apply g0; exact wnt_g rfl rfl rfl (by simp only [*]; rfl)
 exact s_load rfl rfl rfl; apply g0; exact wnt_g rfl rfl rfl (by simp only [*]; rfl); exact s_andNotI rfl rfl; apply g0; exact wnt_g rfl rfl rfl (by simp only [*]; rfl)
 exact s_ne rfl rfl; apply t0; exact s_pick_f rfl (by assumption) rfl; dsimp only [reduceAdd, reduceMul]; exact dn; kernel_rfl; exact rfl; refine thn_n ?_)
  refine Gol.cond_f rfl (by simp only [hn]; rfl) ?_
  (repeat (first | (with_reducible refine thn_n ?_) | (with_reducible refine Gol.skip ?_)))
  refine Gol.join (ι := Bool) (fun r => r = (decide (v.round = 0) && decide (v.support = 0))) 8 (fun _ => [(0, some ⟨cu (.v (.agg (voteC v))), 87, 22⟩)]) (fun r => [(4, .v (.bool r)), (3, .v (.int .i64 0)), (5, .v (.bool (decide (v.choice = 1)))), (1, .pt 0 0)]) ?_ ?_
  · by_cases hr : v.round = 0
    · (
 apply Gol.any; kernel_rfl; apply t0; exact sF rfl; apply t0; exact s_load rfl rfl rfl; apply t0; exact s_eq rfl rfl; apply t0
 exact sM rfl; apply g0; exact wnt_g rfl rfl rfl (by simp only [*]; rfl); exact sF rfl; apply g0; exact wnt_g rfl rfl rfl (by simp only [*]; rfl)
 exact s_load rfl rfl rfl; apply g0; exact wnt_g rfl rfl rfl (by simp only [*]; rfl); exact s_eq rfl rfl; apply t0; exact s_pick_t rfl (by simp only [*]; rfl) rfl
 apply t0; exact sF rfl; apply t0; exact s_load rfl rfl rfl; apply t0; exact s_eq rfl rfl; apply t0; exact sA rfl; apply t0; exact sA rfl
 apply t0; exact sA rfl; dsimp only [reduceAdd, reduceMul]; exact dn; kernel_rfl; exact rfl)
      refine jn_n (decide (v.support = 0)) (by simp [hr]) ?_
      (
 apply Le.mk' []; apply RnT.c; exact rfl; exact Rn.v rfl; apply RnT.c; exact rfl; exact Rn.v rfl; apply RnT.c; exact rfl; exact Rn.v rfl; apply RnT.c; exact rfl
 exact Rn.pt rfl rfl; exact RnT.n; apply RnH.c; exact rfl; exact rfl; rfl; exact rfl; exact rfl; exact RnH.n; exact rfl; exact rfl)
    · (
 apply Gol.any; kernel_rfl; apply t0; exact sF rfl; apply t0; exact s_load rfl rfl rfl; apply t0; exact s_eq rfl rfl; apply t0
 exact sM rfl; apply sk; exact wnt_g rfl rfl rfl (by simp only [*]; rfl); apply sk; exact wnt_g rfl rfl rfl (by simp only [*]; rfl)
 apply sk; exact wnt_g rfl rfl rfl (by simp only [*]; rfl); apply t0; exact s_pick_f rfl (by simp only [*]; rfl) rfl; apply t0; exact sF rfl
 apply t0; exact s_load rfl rfl rfl; apply t0; exact s_eq rfl rfl; apply t0; exact sA rfl; apply t0; exact sA rfl; apply t0; exact sA rfl
 dsimp only [reduceAdd, reduceMul]; exact dn; kernel_rfl; exact rfl)
      refine jn_n false (by simp [hr]) ?_
      (
 apply Le.mk' []; apply RnT.c; exact rfl; exact Rn.v rfl; apply RnT.c; exact rfl; exact Rn.v rfl; apply RnT.c; exact rfl; exact Rn.v rfl; apply RnT.c; exact rfl
 exact Rn.pt rfl rfl; exact RnT.n; apply RnH.c; exact rfl; exact rfl; rfl; exact rfl; exact rfl; exact RnH.n; exact rfl; exact rfl)
  intro r hr
  refine Gol.join (ι := Int × Bool × Bool) (fun x => tails v x.1 x.2.1 x.2.2 = tailB v) 8 (fun _ => [(0, some ⟨cu (.v (.agg (voteC v))), 87, 22⟩)]) (fun x => [(4, .v (.bool x.2.1)), (3, .v (.int .i64 x.1)), (5, .v (.bool x.2.2)), (1, .pt 0 0)]) ?_ ?_
  · (
 apply Gol.sr; apply t0; exact sF rfl; apply t0; exact s_load rfl rfl rfl; dsimp only [reduceAdd, reduceMul]; exact dn; exact rfl; refine Gol.block ?_
 refine Gol.seq ?_; apply Gol.sr; apply t0; exact s_eq rfl rfl; apply t0; exact sA rfl; dsimp only [reduceAdd, reduceMul]
 exact dn; exact rfl)
    refine Gol.cond rfl (fun h1 => ?_) (fun h1 => ?_)
    · have h1' := of_decide_eq_true h1
      (refine Gol.skip ?_; refine thn_n ?_)
      refine Gol.cond_t rfl h1 ?_
      (apply Gol.region; apply t0; exact sA rfl; dsimp only [reduceAdd, reduceMul]; exact dn; exact rfl; refine inBlk_n ?_)
      refine jn_n (9, r, decide (v.choice = 1)) (by simp [tails, tailB, h1', hr]) ?_
      (
 apply Le.mk' []; apply RnT.c; exact rfl; exact Rn.v rfl; apply RnT.c; exact rfl; exact Rn.v rfl; apply RnT.c; exact rfl; exact Rn.v rfl; apply RnT.c; exact rfl
 exact Rn.pt rfl rfl; exact RnT.n; apply RnH.c; exact rfl; exact rfl; rfl; exact rfl; exact rfl; exact RnH.n; exact rfl; exact rfl)
    have h1' := of_decide_eq_false h1
    (
 apply Gol.region; apply t0; exact s_eq rfl rfl; apply t0; exact sA rfl; dsimp only [reduceAdd, reduceMul]; exact dn; exact rfl
 refine thn_n ?_)
    refine Gol.cond rfl (fun h2 => ?_) (fun h2 => ?_)
    · have h2' := of_decide_eq_true h2
      (apply Gol.region; apply t0; exact sA rfl; dsimp only [reduceAdd, reduceMul]; exact dn; exact rfl; refine inBlk_n ?_)
      refine jn_n (9, r, decide (v.choice = 1)) (by simp [tails, tailB, h2', hr]) ?_
      (
 apply Le.mk' []; apply RnT.c; exact rfl; exact Rn.v rfl; apply RnT.c; exact rfl; exact Rn.v rfl; apply RnT.c; exact rfl; exact Rn.v rfl; apply RnT.c; exact rfl
 exact Rn.pt rfl rfl; exact RnT.n; apply RnH.c; exact rfl; exact rfl; rfl; exact rfl; exact rfl; exact RnH.n; exact rfl; exact rfl)
    have h2' := of_decide_eq_false h2
    (apply Gol.sr; apply t0; exact s_eq rfl rfl; apply t0; exact sA rfl; dsimp only [reduceAdd, reduceMul]; exact dn; exact rfl)
    refine Gol.cond rfl (fun h3 => ?_) (fun h3 => ?_)
    · have h3' := of_decide_eq_true h3
      refine Gol.join (ι := Unit) (fun _ => True) 8 (fun _ => [(0, some ⟨cu (.v (.agg (voteC v))), 87, 22⟩)]) (fun _ => [(4, .v (.bool (decide (1 ≤ v.round ∧ v.round ≤ 12)))), (3, .v (.int .i64 9)), (5, .v (.bool (decide (0 ≤ v.choice ∧ v.choice ≤ 1)))), (1, .pt 0 0)]) ?_ ?_
      · (
 apply Gol.any; kernel_rfl; apply t0; exact sF rfl; apply t0; exact s_load rfl rfl rfl; apply tq; exact s_call (f := 115) rfl (eC rfl (eC rfl (eC rfl eN))) (aC aL (aC aL (aC aL aN))) (between_ok _ _ _) (lb rfl)
 dsimp only [reduceAdd, reduceMul, reduceSub, na, ca, nbk, mc, ml]; apply t0; exact sF rfl
 apply t0; exact s_load rfl rfl rfl; apply tq; exact s_call (f := 115) rfl (eC rfl (eC rfl (eC rfl eN))) (aC aL (aC aL (aC aL aN))) (between_ok _ _ _) (lb rfl)
 dsimp only [reduceAdd, reduceMul, reduceSub, na, ca, nbk, mc, ml]; apply t0; exact sA rfl
 apply t0; exact sA rfl; apply t0; exact sA rfl; dsimp only [reduceAdd, reduceMul]; exact dn; kernel_rfl; exact rfl)
        refine jn_n () trivial ?_
        (
 apply Le.mk' []; apply RnT.c; exact rfl; exact Rn.v rfl; apply RnT.c; exact rfl; exact Rn.v rfl; apply RnT.c; exact rfl; exact Rn.v rfl; apply RnT.c; exact rfl
 exact Rn.pt rfl rfl; exact RnT.n; apply RnH.c; exact rfl; exact rfl; rfl; exact rfl; exact rfl; exact RnH.n; exact rfl; exact rfl)
      intro _ _
      cases hc1 : decide (0 ≤ v.choice ∧ v.choice ≤ 1)
      · (
 apply Gol.region; apply t0; exact sM rfl; apply t0; exact sM rfl; apply sk; exact wnt_g rfl rfl rfl rfl; apply sk; exact wnt_g rfl rfl rfl rfl
 apply sk; exact wnt_g rfl rfl rfl rfl; apply sk; exact wnt_g rfl rfl rfl rfl; apply sk; exact wnt_u rfl rfl rfl; apply sk; exact wnt_u rfl rfl rfl; apply sk
 exact wnt_u rfl rfl rfl; apply sk; exact wnt_g rfl rfl rfl rfl; apply sk; exact wnt_g rfl rfl rfl rfl; apply sk; exact wnt_u rfl rfl rfl; apply sk; exact wnt_u rfl rfl rfl
 apply sk; exact wnt_u rfl rfl rfl; apply sk; exact wnt_g rfl rfl rfl rfl; apply t0; exact s_pick_f rfl rfl rfl; apply t0; exact sA rfl; dsimp only [reduceAdd, reduceMul]
 exact dn; exact rfl; refine inBlk_n ?_)
        refine jn_n (9, decide (1 ≤ v.round ∧ v.round ≤ 12), false) (by simp [tails, tailB, h3']; intro _ _ _ _ h1 h2; exact absurd (of_decide_eq_false hc1) (by simp [h1, h2])) ?_
        (
 apply Le.mk' []; apply RnT.c; exact rfl; exact Rn.v rfl; apply RnT.c; exact rfl; exact Rn.v rfl; apply RnT.c; exact rfl; exact Rn.v rfl; apply RnT.c; exact rfl
 exact Rn.pt rfl rfl; exact RnT.n; apply RnH.c; exact rfl; exact rfl; rfl; exact rfl; exact rfl; exact RnH.n; exact rfl; exact rfl)
      by_cases hr1 : v.round = 1
      · by_cases hc0 : v.choice = 0
        · (
 apply Gol.region; apply t0; exact sM rfl; apply t0; exact sM rfl; apply g0; exact wnt_g rfl rfl rfl rfl; exact sF rfl
 apply g0; exact wnt_g rfl rfl rfl rfl; exact s_load rfl rfl rfl; apply g0; exact wnt_g rfl rfl rfl rfl; exact s_ne rfl rfl; apply g0; exact wnt_g rfl rfl rfl rfl
 exact sM rfl; apply g0; exact wnt_g rfl rfl rfl (by simp only [*]; rfl); exact sF rfl; apply g0; exact wnt_g rfl rfl rfl (by simp only [*]; rfl)
 exact s_load rfl rfl rfl; apply g0; exact wnt_g rfl rfl rfl (by simp only [*]; rfl); exact s_ne rfl rfl; apply g0; exact wnt_g rfl rfl rfl rfl
 exact s_pick_f rfl (by simp only [*]; rfl) rfl; apply g0; exact wnt_g rfl rfl rfl rfl; exact sM rfl; apply g0; exact wnt_g rfl rfl rfl (by simp only [*]; rfl)
 exact sF rfl; apply g0; exact wnt_g rfl rfl rfl (by simp only [*]; rfl); exact s_load rfl rfl rfl; apply g0; exact wnt_g rfl rfl rfl (by simp only [*]; rfl)
 exact s_eq rfl rfl; apply g0; exact wnt_g rfl rfl rfl rfl; exact s_pick_f rfl (by simp only [*]; rfl) rfl; apply t0; exact s_pick_t rfl rfl rfl
 apply t0; exact sA rfl; dsimp only [reduceAdd, reduceMul]; exact dn; exact rfl; refine inBlk_n ?_)
          refine jn_n (9, decide (1 ≤ v.round ∧ v.round ≤ 12), decide (v.support = 0)) (by simp only [tails, tailB, h3', hc1, hr1, hc0, if_true]; simp) ?_
          (
 apply Le.mk' []; apply RnT.c; exact rfl; exact Rn.v rfl; apply RnT.c; exact rfl; exact Rn.v rfl; apply RnT.c; exact rfl; exact Rn.v rfl; apply RnT.c; exact rfl
 exact Rn.pt rfl rfl; exact RnT.n; apply RnH.c; exact rfl; exact rfl; rfl; exact rfl; exact rfl; exact RnH.n; exact rfl; exact rfl)
        · (
 apply Gol.region; apply t0; exact sM rfl; apply t0; exact sM rfl; apply g0; exact wnt_g rfl rfl rfl rfl; exact sF rfl
 apply g0; exact wnt_g rfl rfl rfl rfl; exact s_load rfl rfl rfl; apply g0; exact wnt_g rfl rfl rfl rfl; exact s_ne rfl rfl; apply g0; exact wnt_g rfl rfl rfl rfl
 exact sM rfl; apply g0; exact wnt_g rfl rfl rfl (by simp only [*]; rfl); exact sF rfl; apply g0; exact wnt_g rfl rfl rfl (by simp only [*]; rfl)
 exact s_load rfl rfl rfl; apply g0; exact wnt_g rfl rfl rfl (by simp only [*]; rfl); exact s_ne rfl rfl; apply g0; exact wnt_g rfl rfl rfl rfl
 exact s_pick_f rfl (by simp only [*]; rfl) rfl; apply g0; exact wnt_g rfl rfl rfl rfl; exact sM rfl; apply sk; exact wnt_g rfl rfl rfl (by simp only [*]; rfl)
 apply sk; exact wnt_g rfl rfl rfl (by simp only [*]; rfl); apply sk; exact wnt_g rfl rfl rfl (by simp only [*]; rfl); apply g0; exact wnt_g rfl rfl rfl rfl
 exact s_pick_t rfl (by simp only [*]; rfl) rfl; apply t0; exact s_pick_t rfl rfl rfl; apply t0; exact sA rfl; dsimp only [reduceAdd, reduceMul]
 exact dn; exact rfl; refine inBlk_n ?_)
          refine jn_n (9, decide (1 ≤ v.round ∧ v.round ≤ 12), true) (by simp only [tails, tailB, h3', hc1, hr1, if_true]; simp [hc0]) ?_
          (
 apply Le.mk' []; apply RnT.c; exact rfl; exact Rn.v rfl; apply RnT.c; exact rfl; exact Rn.v rfl; apply RnT.c; exact rfl; exact Rn.v rfl; apply RnT.c; exact rfl
 exact Rn.pt rfl rfl; exact RnT.n; apply RnH.c; exact rfl; exact rfl; rfl; exact rfl; exact rfl; exact RnH.n; exact rfl; exact rfl)
      · (
 apply Gol.region; apply t0; exact sM rfl; apply t0; exact sM rfl; apply g0; exact wnt_g rfl rfl rfl rfl; exact sF rfl
 apply g0; exact wnt_g rfl rfl rfl rfl; exact s_load rfl rfl rfl; apply g0; exact wnt_g rfl rfl rfl rfl; exact s_ne rfl rfl; apply g0; exact wnt_g rfl rfl rfl rfl
 exact sM rfl; apply sk; exact wnt_g rfl rfl rfl (by simp only [*]; rfl); apply sk; exact wnt_g rfl rfl rfl (by simp only [*]; rfl)
 apply sk; exact wnt_g rfl rfl rfl (by simp only [*]; rfl); apply g0; exact wnt_g rfl rfl rfl rfl; exact s_pick_t rfl (by simp only [*]; rfl) rfl
 apply g0; exact wnt_g rfl rfl rfl rfl; exact sM rfl; apply sk; exact wnt_g rfl rfl rfl rfl; apply sk; exact wnt_g rfl rfl rfl rfl; apply sk; exact wnt_g rfl rfl rfl rfl
 apply g0; exact wnt_g rfl rfl rfl rfl; exact s_pick_t rfl rfl rfl; apply t0; exact s_pick_t rfl rfl rfl; apply t0; exact sA rfl; dsimp only [reduceAdd, reduceMul]
 exact dn; exact rfl; refine inBlk_n ?_)
        refine jn_n (9, decide (1 ≤ v.round ∧ v.round ≤ 12), true) (by simp only [tails, tailB, h3', hc1, if_true]; simp [hr1]) ?_
        (
 apply Le.mk' []; apply RnT.c; exact rfl; exact Rn.v rfl; apply RnT.c; exact rfl; exact Rn.v rfl; apply RnT.c; exact rfl; exact Rn.v rfl; apply RnT.c; exact rfl
 exact Rn.pt rfl rfl; exact RnT.n; apply RnH.c; exact rfl; exact rfl; rfl; exact rfl; exact rfl; exact RnH.n; exact rfl; exact rfl)
    have h3' := of_decide_eq_false h3
    (apply Gol.sr; apply t0; exact s_eq rfl rfl; apply t0; exact sA rfl; dsimp only [reduceAdd, reduceMul]; exact dn; exact rfl)
    refine Gol.cond rfl (fun h4 => ?_) (fun h4 => ?_)
    · have h4' := of_decide_eq_true h4
      (
 apply Gol.any; kernel_rfl; apply t0; exact sF rfl; apply t0; exact s_load rfl rfl rfl; apply tq; exact s_call (f := 115) rfl (eC rfl (eC rfl (eC rfl eN))) (aC aL (aC aL (aC aL aN))) (between_ok _ _ _) (lb rfl)
 dsimp only [reduceAdd, reduceMul, reduceSub, na, ca, nbk, mc, ml]; apply t0; exact sF rfl
 apply t0; exact s_load rfl rfl rfl; apply tq; exact s_call (f := 115) rfl (eC rfl (eC rfl (eC rfl eN))) (aC aL (aC aL (aC aL aN))) (between_ok _ _ _) (lb rfl)
 dsimp only [reduceAdd, reduceMul, reduceSub, na, ca, nbk, mc, ml]; apply t0; exact sA rfl
 apply t0; exact sA rfl; apply t0; exact sA rfl; dsimp only [reduceAdd, reduceMul]; exact dn; kernel_rfl; exact rfl; refine inBlk_n ?_)
      refine jn_n (9, decide (1 ≤ v.round ∧ v.round ≤ 12), decide (0 ≤ v.choice ∧ v.choice ≤ 2)) (by simp [tails, tailB, h4']) ?_
      (
 apply Le.mk' []; apply RnT.c; exact rfl; exact Rn.v rfl; apply RnT.c; exact rfl; exact Rn.v rfl; apply RnT.c; exact rfl; exact Rn.v rfl; apply RnT.c; exact rfl
 exact Rn.pt rfl rfl; exact RnT.n; apply RnH.c; exact rfl; exact rfl; rfl; exact rfl; exact rfl; exact RnH.n; exact rfl; exact rfl)
    have h4' := of_decide_eq_false h4
    (refine Gol.skip ?_; refine inBlk_n ?_)
    refine jn_n (0, r, decide (v.choice = 1)) (by simp [tails, tailB, h1', h2', h3', h4', hr]) ?_
    (
 apply Le.mk' []; apply RnT.c; exact rfl; exact Rn.v rfl; apply RnT.c; exact rfl; exact Rn.v rfl; apply RnT.c; exact rfl; exact Rn.v rfl; apply RnT.c; exact rfl
 exact Rn.pt rfl rfl; exact RnT.n; apply RnH.c; exact rfl; exact rfl; rfl; exact rfl; exact rfl; exact RnH.n; exact rfl; exact rfl)
  rintro ⟨s, r, c⟩ hx
  dsimp only at hx ⊢
  rw [← hx]
  unfold tails
  cases hs : decide (0 ≤ v.slot ∧ v.slot ≤ s)
  · (
 apply Gol.sr; apply t0; exact sF rfl; apply t0; exact s_load rfl rfl rfl; apply t0; exact sM rfl; apply tq; exact s_call (f := 115) rfl (eC rfl (eC rfl (eC rfl eN))) (aC aL (aC aL (aC aL aN))) (between_ok _ _ _) (lb rfl)
 dsimp only [reduceAdd, reduceMul, reduceSub, na, ca, nbk, mc, ml]; apply t0; exact sM rfl
 apply sk; exact wnt_g rfl rfl rfl (by simp only [*]; rfl); apply t0; exact s_pick_f rfl (by assumption) rfl; apply t0; exact sM rfl; apply sk
 exact wnt_g rfl rfl rfl rfl; apply t0; exact s_pick_f rfl rfl rfl; apply t0; exact sA rfl; dsimp only [reduceAdd, reduceMul]; exact dn; exact rfl
 refine Gol.ret ?_)
    (apply RetQ.mk (by first | exact .inr rfl | exact .inl rfl); apply res_1 rfl; exact res_tmp rfl; exact out_val)
  · cases r
    · (
 apply Gol.sr; apply t0; exact sF rfl; apply t0; exact s_load rfl rfl rfl; apply t0; exact sM rfl; apply tq; exact s_call (f := 115) rfl (eC rfl (eC rfl (eC rfl eN))) (aC aL (aC aL (aC aL aN))) (between_ok _ _ _) (lb rfl)
 dsimp only [reduceAdd, reduceMul, reduceSub, na, ca, nbk, mc, ml]; apply t0; exact sM rfl
 apply g0; exact wnt_g rfl rfl rfl (by simp only [*]; rfl); exact sM rfl; apply t0; exact s_pick_t rfl (by assumption) rfl; apply t0; exact sM rfl
 apply sk; exact wnt_g rfl rfl rfl rfl; apply t0; exact s_pick_f rfl rfl rfl; apply t0; exact sA rfl; dsimp only [reduceAdd, reduceMul]; exact dn
 exact rfl; refine Gol.ret ?_)
      (apply RetQ.mk (by first | exact .inr rfl | exact .inl rfl); apply res_1 rfl; exact res_tmp rfl; exact out_val)
    · (
 apply Gol.sr; apply t0; exact sF rfl; apply t0; exact s_load rfl rfl rfl; apply t0; exact sM rfl; apply tq; exact s_call (f := 115) rfl (eC rfl (eC rfl (eC rfl eN))) (aC aL (aC aL (aC aL aN))) (between_ok _ _ _) (lb rfl)
 dsimp only [reduceAdd, reduceMul, reduceSub, na, ca, nbk, mc, ml]; apply t0; exact sM rfl
 apply g0; exact wnt_g rfl rfl rfl (by simp only [*]; rfl); exact sM rfl; apply t0; exact s_pick_t rfl (by assumption) rfl; apply t0; exact sM rfl
 apply g0; exact wnt_g rfl rfl rfl rfl; exact sM rfl; apply t0; exact s_pick_t rfl rfl rfl; apply t0; exact sA rfl; dsimp only [reduceAdd, reduceMul]
 exact dn; exact rfl; refine Gol.ret ?_)
      (apply RetQ.mk (by first | exact .inr rfl | exact .inl rfl); apply res_1 rfl; exact res_tmp rfl; exact out_val)
end Go.Proofs.YtneeclacmhhblaaGreat


namespace Go.Proofs.YtneeclacmhhblaaGreat
open Go.RowKit
open Nat (reduceAdd reduceMul reduceSub)

theorem valid_iff (v : Vt) : validB v = true ↔ (1 ≤ v.kind ∧ v.kind ≤ 7) ∧ (0 ≤ v.signer ∧ v.signer ≤ 9) ∧ clashB v = false ∧ andNotI v.support 1023 = 0 ∧ tailB v = true := by
  simp [validB, kindB, signB, and_assoc]
theorem valid_no {v : Vt} (h : validB v = true → False) : validB v = false := by
  cases hv : validB v
  · rfl
  · exact (h hv).elim
theorem agreement_ok (k : Int) : Fresh Tryz.prog 138 [.v (.int .i64 k)] (fun _ => .v (.bool (decide (1 ≤ k ∧ k ≤ 4)))) [] := by
  by_cases h1 : 1 ≤ k
  · rw [show decide (1 ≤ k ∧ k ≤ 4) = decide (k ≤ 4) by simp [h1]]
    refine Fresh.of (fn := Tryz.f138) Tryz.func138 rfl (lb rfl) fun w => ?_
    (
 apply Gol.sr; apply t0; exact sA rfl; dsimp only [reduceAdd, reduceMul]; exact dn; exact rfl; apply Gol.sr; apply t0; exact sM rfl; apply t0
 exact s_ge rfl rfl; apply t0; exact sM rfl; apply g0; exact wnt_g rfl rfl rfl (by simp only [*]; rfl); exact sM rfl; apply g0; exact wnt_g rfl rfl rfl (by simp only [*]; rfl)
 exact s_le rfl rfl; apply t0; exact s_pick_t rfl (by simp only [*]; rfl) rfl; apply t0; exact sA rfl; dsimp only [reduceAdd, reduceMul]
 exact dn; exact rfl; refine Gol.ret ?_)
    (apply RetQ.mk (by first | exact .inr rfl | exact .inl rfl); apply res_1 rfl; exact res_tmp rfl; exact out_val)
  · rw [show decide (1 ≤ k ∧ k ≤ 4) = false by simp [h1]]
    refine Fresh.of (fn := Tryz.f138) Tryz.func138 rfl (lb rfl) fun w => ?_
    (
 apply Gol.sr; apply t0; exact sA rfl; dsimp only [reduceAdd, reduceMul]; exact dn; exact rfl; apply Gol.sr; apply t0; exact sM rfl; apply t0
 exact s_ge rfl rfl; apply t0; exact sM rfl; apply sk; exact wnt_g rfl rfl rfl (by simp only [*]; rfl); apply sk; exact wnt_g rfl rfl rfl (by simp only [*]; rfl)
 apply t0; exact s_pick_f rfl (by simp only [*]; rfl) rfl; apply t0; exact sA rfl; dsimp only [reduceAdd, reduceMul]; exact dn; exact rfl
 refine Gol.ret ?_)
    (apply RetQ.mk (by first | exact .inr rfl | exact .inl rfl); apply res_1 rfl; exact res_tmp rfl; exact out_val)
def slotOk (v : Vt) : Prop := ((1 ≤ v.kind ∧ v.kind ≤ 4) ∧ 0 ≤ v.slot ∧ v.slot ≤ 9) ∨ (¬ (1 ≤ v.kind ∧ v.kind ≤ 4) ∧ v.slot = 0)
theorem tail_slot {v : Vt} (h : tailB v = true) : 0 ≤ v.slot ∧ v.slot ≤ 9 ∧ (1 ≤ v.kind → v.kind ≤ 4 ∨ v.slot = 0) := by
  unfold tailB at h
  split at h
  · simp at h; omega
  · split at h
    · simp at h; omega
    · split at h <;> simp at h <;> omega
theorem tail_no {v : Vt} (h : tailB v = true → False) : tailB v = false := by
  cases hv : tailB v
  · rfl
  · exact (h hv).elim
set_option maxHeartbeats 1600000 in
theorem refValid_ok (v : Vt) : Fresh Tryz.prog 112 [.v (.agg (voteC v))] (fun _ => .v (.bool (validB v))) [] := by
  by_cases h1 : v.kind < 1
  · rw [valid_no (v := v) (fun h => by have := (valid_iff v).1 h; omega)]
    refine Fresh.of (fn := Tryz.f112) Tryz.func112 rfl (lb rfl) fun w => ?_
    (
 apply Gol.sr; apply t1; exact s_box rfl rfl; apply t0; exact sA rfl; dsimp only [reduceAdd, reduceMul]; exact dn; exact rfl; refine Gol.seq ?_
 apply Gol.sr; apply t0; exact sF rfl; apply t0; exact s_load rfl rfl rfl; apply t0; exact s_lt rfl rfl; apply t0; exact sM rfl; apply sk
 exact wnt_g rfl rfl rfl (by simp only [*]; rfl); apply sk; exact wnt_g rfl rfl rfl (by simp only [*]; rfl); apply sk; exact wnt_g rfl rfl rfl (by simp only [*]; rfl)
 apply t0; exact s_pick_t rfl (by simp only [*]; rfl) rfl; apply t0; exact sM rfl; apply sk; exact wnt_g rfl rfl rfl rfl; apply sk; exact wnt_g rfl rfl rfl rfl
 apply sk; exact wnt_g rfl rfl rfl rfl; apply t0; exact s_pick_t rfl rfl rfl; apply t0; exact sM rfl; apply sk; exact wnt_g rfl rfl rfl rfl; apply sk
 exact wnt_g rfl rfl rfl rfl; apply sk; exact wnt_g rfl rfl rfl rfl; apply t0; exact s_pick_t rfl rfl rfl; apply t0; exact sM rfl; apply sk; exact wnt_g rfl rfl rfl rfl
 apply sk; exact wnt_g rfl rfl rfl rfl; apply sk; exact wnt_g rfl rfl rfl rfl; apply sk; exact wnt_g rfl rfl rfl rfl; apply t0; exact s_pick_t rfl rfl rfl
 dsimp only [reduceAdd, reduceMul]; exact dn; exact rfl)
    refine Gol.cond_t rfl (by simp [*]) ?_
    (apply Gol.sr; apply t0; exact sA rfl; dsimp only [reduceAdd, reduceMul]; exact dn; exact rfl; refine Gol.ret ?_; refine thn_r ?_)
    (apply RetQ.mk (by first | exact .inr rfl | exact .inl rfl); apply res_1 rfl; exact res_tmp rfl; exact out_val)
  by_cases h2 : 7 < v.kind
  · rw [valid_no (v := v) (fun h => by have := (valid_iff v).1 h; omega)]
    refine Fresh.of (fn := Tryz.f112) Tryz.func112 rfl (lb rfl) fun w => ?_
    (
 apply Gol.sr; apply t1; exact s_box rfl rfl; apply t0; exact sA rfl; dsimp only [reduceAdd, reduceMul]; exact dn; exact rfl; refine Gol.seq ?_
 apply Gol.sr; apply t0; exact sF rfl; apply t0; exact s_load rfl rfl rfl; apply t0; exact s_lt rfl rfl; apply t0; exact sM rfl; apply g0
 exact wnt_g rfl rfl rfl (by simp only [*]; rfl); exact sF rfl; apply g0; exact wnt_g rfl rfl rfl (by simp only [*]; rfl); exact s_load rfl rfl rfl
 apply g0; exact wnt_g rfl rfl rfl (by simp only [*]; rfl); exact s_gt rfl rfl; apply t0; exact s_pick_f rfl (by simp only [*]; rfl) rfl
 apply t0; exact sM rfl; apply sk; exact wnt_g rfl rfl rfl (by simp only [*]; rfl); apply sk; exact wnt_g rfl rfl rfl (by simp only [*]; rfl)
 apply sk; exact wnt_g rfl rfl rfl (by simp only [*]; rfl); apply t0; exact s_pick_t rfl (by simp only [*]; rfl) rfl; apply t0; exact sM rfl
 apply sk; exact wnt_g rfl rfl rfl rfl; apply sk; exact wnt_g rfl rfl rfl rfl; apply sk; exact wnt_g rfl rfl rfl rfl; apply t0; exact s_pick_t rfl rfl rfl
 apply t0; exact sM rfl; apply sk; exact wnt_g rfl rfl rfl rfl; apply sk; exact wnt_g rfl rfl rfl rfl; apply sk; exact wnt_g rfl rfl rfl rfl; apply sk
 exact wnt_g rfl rfl rfl rfl; apply t0; exact s_pick_t rfl rfl rfl; dsimp only [reduceAdd, reduceMul]; exact dn; exact rfl)
    refine Gol.cond_t rfl (by simp [*]) ?_
    (apply Gol.sr; apply t0; exact sA rfl; dsimp only [reduceAdd, reduceMul]; exact dn; exact rfl; refine Gol.ret ?_; refine thn_r ?_)
    (apply RetQ.mk (by first | exact .inr rfl | exact .inl rfl); apply res_1 rfl; exact res_tmp rfl; exact out_val)
  by_cases h3 : v.signer < 0
  · rw [valid_no (v := v) (fun h => by have := (valid_iff v).1 h; omega)]
    refine Fresh.of (fn := Tryz.f112) Tryz.func112 rfl (lb rfl) fun w => ?_
    (
 apply Gol.sr; apply t1; exact s_box rfl rfl; apply t0; exact sA rfl; dsimp only [reduceAdd, reduceMul]; exact dn; exact rfl; refine Gol.seq ?_
 apply Gol.sr; apply t0; exact sF rfl; apply t0; exact s_load rfl rfl rfl; apply t0; exact s_lt rfl rfl; apply t0; exact sM rfl; apply g0
 exact wnt_g rfl rfl rfl (by simp only [*]; rfl); exact sF rfl; apply g0; exact wnt_g rfl rfl rfl (by simp only [*]; rfl); exact s_load rfl rfl rfl
 apply g0; exact wnt_g rfl rfl rfl (by simp only [*]; rfl); exact s_gt rfl rfl; apply t0; exact s_pick_f rfl (by simp only [*]; rfl) rfl
 apply t0; exact sM rfl; apply g0; exact wnt_g rfl rfl rfl (by simp only [*]; rfl); exact sF rfl; apply g0; exact wnt_g rfl rfl rfl (by simp only [*]; rfl)
 exact s_load rfl rfl rfl; apply g0; exact wnt_g rfl rfl rfl (by simp only [*]; rfl); exact s_lt rfl rfl; apply t0; exact s_pick_f rfl (by simp only [*]; rfl) rfl
 apply t0; exact sM rfl; apply sk; exact wnt_g rfl rfl rfl (by simp only [*]; rfl); apply sk; exact wnt_g rfl rfl rfl (by simp only [*]; rfl)
 apply sk; exact wnt_g rfl rfl rfl (by simp only [*]; rfl); apply t0; exact s_pick_t rfl (by simp only [*]; rfl) rfl; apply t0; exact sM rfl
 apply sk; exact wnt_g rfl rfl rfl rfl; apply sk; exact wnt_g rfl rfl rfl rfl; apply sk; exact wnt_g rfl rfl rfl rfl; apply sk; exact wnt_g rfl rfl rfl rfl
 apply t0; exact s_pick_t rfl rfl rfl; dsimp only [reduceAdd, reduceMul]; exact dn; exact rfl)
    refine Gol.cond_t rfl (by simp [*]) ?_
    (apply Gol.sr; apply t0; exact sA rfl; dsimp only [reduceAdd, reduceMul]; exact dn; exact rfl; refine Gol.ret ?_; refine thn_r ?_)
    (apply RetQ.mk (by first | exact .inr rfl | exact .inl rfl); apply res_1 rfl; exact res_tmp rfl; exact out_val)
  by_cases h4 : 10 ≤ v.signer
  · rw [valid_no (v := v) (fun h => by have := (valid_iff v).1 h; omega)]
    refine Fresh.of (fn := Tryz.f112) Tryz.func112 rfl (lb rfl) fun w => ?_
    (
 apply Gol.sr; apply t1; exact s_box rfl rfl; apply t0; exact sA rfl; dsimp only [reduceAdd, reduceMul]; exact dn; exact rfl; refine Gol.seq ?_
 apply Gol.sr; apply t0; exact sF rfl; apply t0; exact s_load rfl rfl rfl; apply t0; exact s_lt rfl rfl; apply t0; exact sM rfl; apply g0
 exact wnt_g rfl rfl rfl (by simp only [*]; rfl); exact sF rfl; apply g0; exact wnt_g rfl rfl rfl (by simp only [*]; rfl); exact s_load rfl rfl rfl
 apply g0; exact wnt_g rfl rfl rfl (by simp only [*]; rfl); exact s_gt rfl rfl; apply t0; exact s_pick_f rfl (by simp only [*]; rfl) rfl
 apply t0; exact sM rfl; apply g0; exact wnt_g rfl rfl rfl (by simp only [*]; rfl); exact sF rfl; apply g0; exact wnt_g rfl rfl rfl (by simp only [*]; rfl)
 exact s_load rfl rfl rfl; apply g0; exact wnt_g rfl rfl rfl (by simp only [*]; rfl); exact s_lt rfl rfl; apply t0; exact s_pick_f rfl (by simp only [*]; rfl) rfl
 apply t0; exact sM rfl; apply g0; exact wnt_g rfl rfl rfl (by simp only [*]; rfl); exact sF rfl; apply g0; exact wnt_g rfl rfl rfl (by simp only [*]; rfl)
 exact s_load rfl rfl rfl; apply g0; exact wnt_g rfl rfl rfl (by simp only [*]; rfl); exact s_ge rfl rfl; apply t0; exact s_pick_f rfl (by simp only [*]; rfl) rfl
 apply t0; exact sM rfl; apply sk; exact wnt_g rfl rfl rfl (by simp only [*]; rfl); apply sk; exact wnt_g rfl rfl rfl (by simp only [*]; rfl)
 apply sk; exact wnt_g rfl rfl rfl (by simp only [*]; rfl); apply sk; exact wnt_g rfl rfl rfl (by simp only [*]; rfl); apply t0; exact s_pick_t rfl (by simp only [*]; rfl) rfl
 dsimp only [reduceAdd, reduceMul]; exact dn; exact rfl)
    refine Gol.cond_t rfl (by simp [*]) ?_
    (apply Gol.sr; apply t0; exact sA rfl; dsimp only [reduceAdd, reduceMul]; exact dn; exact rfl; refine Gol.ret ?_; refine thn_r ?_)
    (apply RetQ.mk (by first | exact .inr rfl | exact .inl rfl); apply res_1 rfl; exact res_tmp rfl; exact out_val)
  by_cases h5 : andNotI v.support 1023 = 0
  rotate_left
  · rw [valid_no (v := v) (fun h => by have := (valid_iff v).1 h; omega)]
    refine Fresh.of (fn := Tryz.f112) Tryz.func112 rfl (lb rfl) fun w => ?_
    (
 apply Gol.sr; apply t1; exact s_box rfl rfl; apply t0; exact sA rfl; dsimp only [reduceAdd, reduceMul]; exact dn; exact rfl; refine Gol.seq ?_
 apply Gol.sr; apply t0; exact sF rfl; apply t0; exact s_load rfl rfl rfl; apply t0; exact s_lt rfl rfl; apply t0; exact sM rfl; apply g0
 exact wnt_g rfl rfl rfl (by simp only [*]; rfl); exact sF rfl; apply g0; exact wnt_g rfl rfl rfl (by simp only [*]; rfl); exact s_load rfl rfl rfl
 apply g0; exact wnt_g rfl rfl rfl (by simp only [*]; rfl); exact s_gt rfl rfl; apply t0; exact s_pick_f rfl (by simp only [*]; rfl) rfl
 apply t0; exact sM rfl; apply g0; exact wnt_g rfl rfl rfl (by simp only [*]; rfl); exact sF rfl; apply g0; exact wnt_g rfl rfl rfl (by simp only [*]; rfl)
 exact s_load rfl rfl rfl; apply g0; exact wnt_g rfl rfl rfl (by simp only [*]; rfl); exact s_lt rfl rfl; apply t0; exact s_pick_f rfl (by simp only [*]; rfl) rfl
 apply t0; exact sM rfl; apply g0; exact wnt_g rfl rfl rfl (by simp only [*]; rfl); exact sF rfl; apply g0; exact wnt_g rfl rfl rfl (by simp only [*]; rfl)
 exact s_load rfl rfl rfl; apply g0; exact wnt_g rfl rfl rfl (by simp only [*]; rfl); exact s_ge rfl rfl; apply t0; exact s_pick_f rfl (by simp only [*]; rfl) rfl
 apply t0; exact sM rfl; apply g0; exact wnt_g rfl rfl rfl (by simp only [*]; rfl); exact sF rfl; apply g0; exact wnt_g rfl rfl rfl (by simp only [*]; rfl)
 exact s_load rfl rfl rfl; apply g0; exact wnt_g rfl rfl rfl (by simp only [*]; rfl); exact s_andNotI rfl rfl; apply g0; exact wnt_g rfl rfl rfl (by simp only [*]; rfl)
 exact s_ne rfl rfl; apply t0; exact s_pick_f rfl (by simp only [*]; rfl) rfl; dsimp only [reduceAdd, reduceMul]; exact dn; exact rfl)
    refine Gol.cond_t rfl (by simp [*]) ?_
    (apply Gol.sr; apply t0; exact sA rfl; dsimp only [reduceAdd, reduceMul]; exact dn; exact rfl; refine Gol.ret ?_; refine thn_r ?_)
    (apply RetQ.mk (by first | exact .inr rfl | exact .inl rfl); apply res_1 rfl; exact res_tmp rfl; exact out_val)
  refine Fresh.of (fn := Tryz.f112) Tryz.func112 rfl (lb rfl) fun w => ?_
  (
 apply Gol.sr; apply t1; exact s_box rfl rfl; apply t0; exact sA rfl; dsimp only [reduceAdd, reduceMul]; exact dn; exact rfl; refine Gol.seq ?_
 apply Gol.sr; apply t0; exact sF rfl; apply t0; exact s_load rfl rfl rfl; apply t0; exact s_lt rfl rfl; apply t0; exact sM rfl; apply g0
 exact wnt_g rfl rfl rfl (by simp only [*]; rfl); exact sF rfl; apply g0; exact wnt_g rfl rfl rfl (by simp only [*]; rfl); exact s_load rfl rfl rfl
 apply g0; exact wnt_g rfl rfl rfl (by simp only [*]; rfl); exact s_gt rfl rfl; apply t0; exact s_pick_f rfl (by simp only [*]; rfl) rfl
 apply t0; exact sM rfl; apply g0; exact wnt_g rfl rfl rfl (by simp only [*]; rfl); exact sF rfl; apply g0; exact wnt_g rfl rfl rfl (by simp only [*]; rfl)
 exact s_load rfl rfl rfl; apply g0; exact wnt_g rfl rfl rfl (by simp only [*]; rfl); exact s_lt rfl rfl; apply t0; exact s_pick_f rfl (by simp only [*]; rfl) rfl
 apply t0; exact sM rfl; apply g0; exact wnt_g rfl rfl rfl (by simp only [*]; rfl); exact sF rfl; apply g0; exact wnt_g rfl rfl rfl (by simp only [*]; rfl)
 exact s_load rfl rfl rfl; apply g0; exact wnt_g rfl rfl rfl (by simp only [*]; rfl); exact s_ge rfl rfl; apply t0; exact s_pick_f rfl (by simp only [*]; rfl) rfl
 apply t0; exact sM rfl; apply g0; exact wnt_g rfl rfl rfl (by simp only [*]; rfl); exact sF rfl; apply g0; exact wnt_g rfl rfl rfl (by simp only [*]; rfl)
 exact s_load rfl rfl rfl; apply g0; exact wnt_g rfl rfl rfl (by simp only [*]; rfl); exact s_andNotI rfl rfl; apply g0; exact wnt_g rfl rfl rfl (by simp only [*]; rfl)
 exact s_ne rfl rfl; apply t0; exact s_pick_f rfl (by simp only [*]; rfl) rfl; dsimp only [reduceAdd, reduceMul]; exact dn; exact rfl)
  refine Gol.cond_f rfl (by simp [*]) ?_
  (repeat (first | (with_reducible refine thn_n ?_) | (with_reducible refine Gol.skip ?_)))
  have ev : validB v = ((!clashB v) && tailB v) := by simp [validB, kindB, signB, h5, show 1 ≤ v.kind by omega, show v.kind ≤ 7 by omega, show 0 ≤ v.signer by omega, show v.signer ≤ 9 by omega]
  rw [ev]
  refine Gol.join (ι := Unit) (fun _ => slotOk v) 8 (fun _ => [(0, some ⟨cu (.v (.agg (voteC v))), 87, 22⟩)]) (fun _ => [(1, .pt 0 0)]) ?_ ?_
  · cases ha : decide (1 ≤ v.kind ∧ v.kind ≤ 4)
    · have ha' := of_decide_eq_false ha
      by_cases h8 : v.slot = 0
      · (
 apply Gol.sr; apply t0; exact sF rfl; apply t0; exact s_load rfl rfl rfl; apply tq; exact s_call (f := 138) rfl (eC rfl eN) (aC aL aN) (agreement_ok _) (lb rfl)
 dsimp only [reduceAdd, reduceMul, reduceSub, na, ca, nbk, mc, ml]; apply t0; exact sM rfl
 apply sk; exact wnt_g rfl rfl rfl (by simp only [*]; rfl); apply sk; exact wnt_g rfl rfl rfl (by simp only [*]; rfl); apply sk; exact wnt_g rfl rfl rfl (by simp only [*]; rfl)
 apply sk; exact wnt_g rfl rfl rfl (by simp only [*]; rfl); apply sk; exact wnt_u rfl rfl rfl; apply sk; exact wnt_u rfl rfl rfl; apply sk; exact wnt_u rfl rfl rfl
 apply sk; exact wnt_g rfl rfl rfl (by simp only [*]; rfl); apply t0; exact s_pick_f rfl (by assumption) rfl; apply t0; exact sM rfl; apply g0
 exact wnt_g rfl rfl rfl rfl; exact sF rfl; apply g0; exact wnt_g rfl rfl rfl rfl; exact s_load rfl rfl rfl; apply gq; exact wnt_g rfl rfl rfl rfl
 exact s_call (f := 138) rfl (eC rfl eN) (aC aL aN) (agreement_ok _) (lb rfl)
 dsimp only [reduceAdd, reduceMul, reduceSub, na, ca, nbk, mc, ml]; apply g0; exact wnt_g rfl rfl rfl rfl
 exact s_not rfl; apply g0; exact wnt_g rfl rfl rfl rfl; exact sM rfl; apply g0; exact wnt_g rfl rfl rfl (by simp only [*]; rfl); exact sF rfl
 apply g0; exact wnt_g rfl rfl rfl (by simp only [*]; rfl); exact s_load rfl rfl rfl; apply g0; exact wnt_g rfl rfl rfl (by simp only [*]; rfl)
 exact s_ne rfl rfl; apply g0; exact wnt_g rfl rfl rfl rfl; exact s_pick_t rfl (by simp only [*]; rfl) rfl; apply t0; exact s_pick_f rfl rfl rfl
 dsimp only [reduceAdd, reduceMul]; exact dn; exact rfl)
        refine Gol.cond_f rfl (by simp [h8]) ?_
        (refine Gol.skip ?_)
        refine jn_n () (.inr ⟨ha', h8⟩) ?_
        (
 apply Le.mk' []; apply RnT.c; exact rfl; exact Rn.pt rfl rfl; exact RnT.n; apply RnH.c; exact rfl; exact rfl; rfl; exact rfl; exact rfl; exact RnH.n; exact rfl
 exact rfl)
      · rw [tail_no (v := v) (fun h => by have := tail_slot h; omega)]
        (
 apply Gol.sr; apply t0; exact sF rfl; apply t0; exact s_load rfl rfl rfl; apply tq; exact s_call (f := 138) rfl (eC rfl eN) (aC aL aN) (agreement_ok _) (lb rfl)
 dsimp only [reduceAdd, reduceMul, reduceSub, na, ca, nbk, mc, ml]; apply t0; exact sM rfl
 apply sk; exact wnt_g rfl rfl rfl (by simp only [*]; rfl); apply sk; exact wnt_g rfl rfl rfl (by simp only [*]; rfl); apply sk; exact wnt_g rfl rfl rfl (by simp only [*]; rfl)
 apply sk; exact wnt_g rfl rfl rfl (by simp only [*]; rfl); apply sk; exact wnt_u rfl rfl rfl; apply sk; exact wnt_u rfl rfl rfl; apply sk; exact wnt_u rfl rfl rfl
 apply sk; exact wnt_g rfl rfl rfl (by simp only [*]; rfl); apply t0; exact s_pick_f rfl (by assumption) rfl; apply t0; exact sM rfl; apply g0
 exact wnt_g rfl rfl rfl rfl; exact sF rfl; apply g0; exact wnt_g rfl rfl rfl rfl; exact s_load rfl rfl rfl; apply gq; exact wnt_g rfl rfl rfl rfl
 exact s_call (f := 138) rfl (eC rfl eN) (aC aL aN) (agreement_ok _) (lb rfl)
 dsimp only [reduceAdd, reduceMul, reduceSub, na, ca, nbk, mc, ml]; apply g0; exact wnt_g rfl rfl rfl rfl
 exact s_not rfl; apply g0; exact wnt_g rfl rfl rfl rfl; exact sM rfl; apply g0; exact wnt_g rfl rfl rfl (by simp only [*]; rfl); exact sF rfl
 apply g0; exact wnt_g rfl rfl rfl (by simp only [*]; rfl); exact s_load rfl rfl rfl; apply g0; exact wnt_g rfl rfl rfl (by simp only [*]; rfl)
 exact s_ne rfl rfl; apply g0; exact wnt_g rfl rfl rfl rfl; exact s_pick_t rfl (by simp only [*]; rfl) rfl; apply t0; exact s_pick_f rfl rfl rfl
 dsimp only [reduceAdd, reduceMul]; exact dn; exact rfl)
        refine Gol.cond_t rfl (by simp [h8]) ?_
        (apply Gol.sr; apply t0; exact sA rfl; dsimp only [reduceAdd, reduceMul]; exact dn; exact rfl; refine Gol.ret ?_; refine jn_r ?_)
        apply RetQ.bool
        · (apply RetQ.mk (by first | exact .inr rfl | exact .inl rfl); apply res_1 rfl; exact res_tmp rfl; exact out_val)
        · simp
    · have ha' := of_decide_eq_true ha
      by_cases h6 : v.slot < 0
      · rw [tail_no (v := v) (fun h => by have := tail_slot h; omega)]
        (
 apply Gol.sr; apply t0; exact sF rfl; apply t0; exact s_load rfl rfl rfl; apply tq; exact s_call (f := 138) rfl (eC rfl eN) (aC aL aN) (agreement_ok _) (lb rfl)
 dsimp only [reduceAdd, reduceMul, reduceSub, na, ca, nbk, mc, ml]; apply t0; exact sM rfl
 apply g0; exact wnt_g rfl rfl rfl (by simp only [*]; rfl); exact sF rfl; apply g0; exact wnt_g rfl rfl rfl (by simp only [*]; rfl)
 exact s_load rfl rfl rfl; apply g0; exact wnt_g rfl rfl rfl (by simp only [*]; rfl); exact s_lt rfl rfl; apply g0; exact wnt_g rfl rfl rfl (by simp only [*]; rfl)
 exact sM rfl; apply sk; exact wnt_g rfl rfl rfl (by simp only [*]; rfl); apply sk; exact wnt_g rfl rfl rfl (by simp only [*]; rfl)
 apply sk; exact wnt_g rfl rfl rfl (by simp only [*]; rfl); apply g0; exact wnt_g rfl rfl rfl (by simp only [*]; rfl); exact s_pick_t rfl (by simp only [*]; rfl) rfl
 apply t0; exact s_pick_t rfl (by assumption) rfl; apply t0; exact sM rfl; apply sk; exact wnt_g rfl rfl rfl rfl; apply sk; exact wnt_g rfl rfl rfl rfl
 apply sk; exact wnt_g rfl rfl rfl rfl; apply sk; exact wnt_g rfl rfl rfl rfl; apply sk; exact wnt_g rfl rfl rfl rfl; apply sk; exact wnt_u rfl rfl rfl
 apply sk; exact wnt_u rfl rfl rfl; apply sk; exact wnt_u rfl rfl rfl; apply sk; exact wnt_g rfl rfl rfl rfl; apply t0; exact s_pick_t rfl rfl rfl; dsimp only [reduceAdd, reduceMul]
 exact dn; exact rfl)
        refine Gol.cond_t rfl (by simp [h6]) ?_
        (apply Gol.sr; apply t0; exact sA rfl; dsimp only [reduceAdd, reduceMul]; exact dn; exact rfl; refine Gol.ret ?_; refine jn_r ?_)
        apply RetQ.bool
        · (apply RetQ.mk (by first | exact .inr rfl | exact .inl rfl); apply res_1 rfl; exact res_tmp rfl; exact out_val)
        · simp
      by_cases h7 : 10 ≤ v.slot
      · rw [tail_no (v := v) (fun h => by have := tail_slot h; omega)]
        (
 apply Gol.sr; apply t0; exact sF rfl; apply t0; exact s_load rfl rfl rfl; apply tq; exact s_call (f := 138) rfl (eC rfl eN) (aC aL aN) (agreement_ok _) (lb rfl)
 dsimp only [reduceAdd, reduceMul, reduceSub, na, ca, nbk, mc, ml]; apply t0; exact sM rfl
 apply g0; exact wnt_g rfl rfl rfl (by simp only [*]; rfl); exact sF rfl; apply g0; exact wnt_g rfl rfl rfl (by simp only [*]; rfl)
 exact s_load rfl rfl rfl; apply g0; exact wnt_g rfl rfl rfl (by simp only [*]; rfl); exact s_lt rfl rfl; apply g0; exact wnt_g rfl rfl rfl (by simp only [*]; rfl)
 exact sM rfl; apply g0; exact wnt_g rfl rfl rfl (by simp only [*]; rfl); exact sF rfl; apply g0; exact wnt_g rfl rfl rfl (by simp only [*]; rfl)
 exact s_load rfl rfl rfl; apply g0; exact wnt_g rfl rfl rfl (by simp only [*]; rfl); exact s_ge rfl rfl; apply g0; exact wnt_g rfl rfl rfl (by simp only [*]; rfl)
 exact s_pick_f rfl (by simp only [*]; rfl) rfl; apply t0; exact s_pick_t rfl (by assumption) rfl; apply t0; exact sM rfl; apply sk; exact wnt_g rfl rfl rfl (by simp only [*]; rfl)
 apply sk; exact wnt_g rfl rfl rfl (by simp only [*]; rfl); apply sk; exact wnt_g rfl rfl rfl (by simp only [*]; rfl); apply sk; exact wnt_g rfl rfl rfl (by simp only [*]; rfl)
 apply sk; exact wnt_g rfl rfl rfl (by simp only [*]; rfl); apply sk; exact wnt_u rfl rfl rfl; apply sk; exact wnt_u rfl rfl rfl; apply sk; exact wnt_u rfl rfl rfl
 apply sk; exact wnt_g rfl rfl rfl (by simp only [*]; rfl); apply t0; exact s_pick_t rfl (by simp only [*]; rfl) rfl; dsimp only [reduceAdd, reduceMul]
 exact dn; exact rfl)
        refine Gol.cond_t rfl (by simp [h7]) ?_
        (apply Gol.sr; apply t0; exact sA rfl; dsimp only [reduceAdd, reduceMul]; exact dn; exact rfl; refine Gol.ret ?_; refine jn_r ?_)
        apply RetQ.bool
        · (apply RetQ.mk (by first | exact .inr rfl | exact .inl rfl); apply res_1 rfl; exact res_tmp rfl; exact out_val)
        · simp
      · (
 apply Gol.sr; apply t0; exact sF rfl; apply t0; exact s_load rfl rfl rfl; apply tq; exact s_call (f := 138) rfl (eC rfl eN) (aC aL aN) (agreement_ok _) (lb rfl)
 dsimp only [reduceAdd, reduceMul, reduceSub, na, ca, nbk, mc, ml]; apply t0; exact sM rfl
 apply g0; exact wnt_g rfl rfl rfl (by simp only [*]; rfl); exact sF rfl; apply g0; exact wnt_g rfl rfl rfl (by simp only [*]; rfl)
 exact s_load rfl rfl rfl; apply g0; exact wnt_g rfl rfl rfl (by simp only [*]; rfl); exact s_lt rfl rfl; apply g0; exact wnt_g rfl rfl rfl (by simp only [*]; rfl)
 exact sM rfl; apply g0; exact wnt_g rfl rfl rfl (by simp only [*]; rfl); exact sF rfl; apply g0; exact wnt_g rfl rfl rfl (by simp only [*]; rfl)
 exact s_load rfl rfl rfl; apply g0; exact wnt_g rfl rfl rfl (by simp only [*]; rfl); exact s_ge rfl rfl; apply g0; exact wnt_g rfl rfl rfl (by simp only [*]; rfl)
 exact s_pick_f rfl (by simp only [*]; rfl) rfl; apply t0; exact s_pick_t rfl (by assumption) rfl; apply t0; exact sM rfl; apply g0; exact wnt_g rfl rfl rfl (by simp only [*]; rfl)
 exact sF rfl; apply g0; exact wnt_g rfl rfl rfl (by simp only [*]; rfl); exact s_load rfl rfl rfl; apply gq; exact wnt_g rfl rfl rfl (by simp only [*]; rfl)
 exact s_call (f := 138) rfl (eC rfl eN) (aC aL aN) (agreement_ok _) (lb rfl)
 dsimp only [reduceAdd, reduceMul, reduceSub, na, ca, nbk, mc, ml]; apply g0; exact wnt_g rfl rfl rfl (by simp only [*]; rfl)
 exact s_not rfl; apply g0; exact wnt_g rfl rfl rfl (by simp only [*]; rfl); exact sM rfl; apply sk; exact wnt_g rfl rfl rfl (by simp only [*]; rfl)
 apply sk; exact wnt_g rfl rfl rfl (by simp only [*]; rfl); apply sk; exact wnt_g rfl rfl rfl (by simp only [*]; rfl); apply g0; exact wnt_g rfl rfl rfl (by simp only [*]; rfl)
 exact s_pick_f rfl (by simp only [*]; rfl) rfl; apply t0; exact s_pick_f rfl (by simp only [*]; rfl) rfl; dsimp only [reduceAdd, reduceMul]
 exact dn; exact rfl)
        refine Gol.cond_f rfl (by simp [h7]) ?_
        (refine Gol.skip ?_)
        refine jn_n () (.inl ⟨ha', by omega, by omega⟩) ?_
        (
 apply Le.mk' []; apply RnT.c; exact rfl; exact Rn.pt rfl rfl; exact RnT.n; apply RnH.c; exact rfl; exact rfl; rfl; exact rfl; exact rfl; exact RnH.n; exact rfl
 exact rfl)
  intro _ hso
  cases hc : clashB v
  rotate_left
  · have hc' : ((v.value == 0) == decide (v.choice = 1)) = true := by rw [← hc, clashB, Bool.beq_comm]
    (
 refine Gol.seq ?_; refine Gol.seq ?_; apply Gol.any; kernel_rfl; apply t0; exact sF rfl; apply t0
 exact s_loadN rfl rfl (lb rfl) (agu_nm8 rfl); apply t0; exact s_zero; apply t0; exact s_eqN rfl rfl; apply t0; exact sF rfl
 apply t0; exact s_load rfl rfl rfl; apply t0; exact s_eq rfl rfl; apply t0; exact s_eqb rfl rfl; dsimp only [reduceAdd, reduceMul]; exact dn; kernel_rfl
 exact rfl; refine thn_n ?_)
    refine Gol.cond_t rfl hc' ?_
    (apply Gol.sr; apply t0; exact sA rfl; dsimp only [reduceAdd, reduceMul]; exact dn; exact rfl; refine Gol.ret ?_; refine thn_r ?_)
    apply RetQ.bool
    · (apply RetQ.mk (by first | exact .inr rfl | exact .inl rfl); apply res_1 rfl; exact res_tmp rfl; exact out_val)
    · simp
  have hc' : ((v.value == 0) == decide (v.choice = 1)) = false := by rw [← hc, clashB, Bool.beq_comm]
  (
 refine Gol.seq ?_; refine Gol.seq ?_; apply Gol.any; kernel_rfl; apply t0; exact sF rfl; apply t0
 exact s_loadN rfl rfl (lb rfl) (agu_nm8 rfl); apply t0; exact s_zero; apply t0; exact s_eqN rfl rfl; apply t0; exact sF rfl
 apply t0; exact s_load rfl rfl rfl; apply t0; exact s_eq rfl rfl; apply t0; exact s_eqb rfl rfl; dsimp only [reduceAdd, reduceMul]; exact dn; kernel_rfl
 exact rfl; refine thn_n ?_)
  refine Gol.cond_f rfl hc' ?_
  (
 refine Gol.skip ?_; refine thn_n ?_; refine Gol.seq ?_; apply Gol.sr; apply t0; exact sF rfl
 apply t0; exact s_load rfl rfl rfl; dsimp only [reduceAdd, reduceMul]; exact dn; exact rfl; refine Gol.block ?_; apply Gol.sr
 apply t0; exact s_eq rfl rfl; apply t0; exact sA rfl; dsimp only [reduceAdd, reduceMul]; exact dn; exact rfl)
  refine Gol.cond rfl (fun h => ?_) (fun h => ?_)
  · have hk3 := of_decide_eq_true h
    have hsl : 0 ≤ v.slot ∧ v.slot ≤ 9 := by unfold slotOk at hso; omega
    by_cases r1 : 1 ≤ v.round
    rotate_left
    · (
 apply Gol.sr; apply t0; exact sF rfl; apply t0; exact s_load rfl rfl rfl; apply t0; exact s_ge rfl rfl; apply t0; exact sM rfl; apply sk
 exact wnt_g rfl rfl rfl (by simp only [*]; rfl); apply sk; exact wnt_g rfl rfl rfl (by simp only [*]; rfl); apply sk; exact wnt_g rfl rfl rfl (by simp only [*]; rfl)
 apply t0; exact s_pick_f rfl (by simp only [*]; rfl) rfl; apply t0; exact sM rfl; apply sk; exact wnt_g rfl rfl rfl rfl; apply sk; exact wnt_g rfl rfl rfl rfl
 apply sk; exact wnt_g rfl rfl rfl rfl; apply sk; exact wnt_g rfl rfl rfl rfl; apply sk; exact wnt_u rfl rfl rfl; apply sk; exact wnt_u rfl rfl rfl; apply sk
 exact wnt_u rfl rfl rfl; apply sk; exact wnt_g rfl rfl rfl rfl; apply t0; exact s_pick_f rfl rfl rfl; apply t0; exact sM rfl; apply sk; exact wnt_g rfl rfl rfl rfl
 apply sk; exact wnt_g rfl rfl rfl rfl; apply sk; exact wnt_g rfl rfl rfl rfl; apply sk; exact wnt_g rfl rfl rfl rfl; apply sk; exact wnt_u rfl rfl rfl
 apply sk; exact wnt_u rfl rfl rfl; apply sk; exact wnt_u rfl rfl rfl; apply sk; exact wnt_g rfl rfl rfl rfl; apply sk; exact wnt_g rfl rfl rfl rfl; apply sk
 exact wnt_u rfl rfl rfl; apply sk; exact wnt_u rfl rfl rfl; apply sk; exact wnt_u rfl rfl rfl; apply sk; exact wnt_g rfl rfl rfl rfl; apply t0; exact s_pick_f rfl rfl rfl
 apply t0; exact sA rfl; dsimp only [reduceAdd, reduceMul]; exact dn; exact rfl; refine Gol.ret ?_; refine inBlk_r ?_
 refine thn_r ?_)
      apply RetQ.bool
      · (apply RetQ.mk (by first | exact .inr rfl | exact .inl rfl); apply res_1 rfl; exact res_tmp rfl; exact out_val)
      · simp [tailB, *]
    by_cases r2 : v.round ≤ 12
    rotate_left
    · (
 apply Gol.sr; apply t0; exact sF rfl; apply t0; exact s_load rfl rfl rfl; apply t0; exact s_ge rfl rfl; apply t0; exact sM rfl; apply g0
 exact wnt_g rfl rfl rfl (by simp only [*]; rfl); exact sF rfl; apply g0; exact wnt_g rfl rfl rfl (by simp only [*]; rfl); exact s_load rfl rfl rfl
 apply g0; exact wnt_g rfl rfl rfl (by simp only [*]; rfl); exact s_le rfl rfl; apply t0; exact s_pick_t rfl (by simp only [*]; rfl) rfl
 apply t0; exact sM rfl; apply sk; exact wnt_g rfl rfl rfl (by simp only [*]; rfl); apply sk; exact wnt_g rfl rfl rfl (by simp only [*]; rfl)
 apply sk; exact wnt_g rfl rfl rfl (by simp only [*]; rfl); apply sk; exact wnt_g rfl rfl rfl (by simp only [*]; rfl); apply sk; exact wnt_u rfl rfl rfl
 apply sk; exact wnt_u rfl rfl rfl; apply sk; exact wnt_u rfl rfl rfl; apply sk; exact wnt_g rfl rfl rfl (by simp only [*]; rfl); apply t0; exact s_pick_f rfl (by simp only [*]; rfl) rfl
 apply t0; exact sM rfl; apply sk; exact wnt_g rfl rfl rfl rfl; apply sk; exact wnt_g rfl rfl rfl rfl; apply sk; exact wnt_g rfl rfl rfl rfl; apply sk
 exact wnt_g rfl rfl rfl rfl; apply sk; exact wnt_u rfl rfl rfl; apply sk; exact wnt_u rfl rfl rfl; apply sk; exact wnt_u rfl rfl rfl; apply sk; exact wnt_g rfl rfl rfl rfl
 apply sk; exact wnt_g rfl rfl rfl rfl; apply sk; exact wnt_u rfl rfl rfl; apply sk; exact wnt_u rfl rfl rfl; apply sk; exact wnt_u rfl rfl rfl; apply sk
 exact wnt_g rfl rfl rfl rfl; apply t0; exact s_pick_f rfl rfl rfl; apply t0; exact sA rfl; dsimp only [reduceAdd, reduceMul]; exact dn; exact rfl
 refine Gol.ret ?_; refine inBlk_r ?_; refine thn_r ?_)
      apply RetQ.bool
      · (apply RetQ.mk (by first | exact .inr rfl | exact .inl rfl); apply res_1 rfl; exact res_tmp rfl; exact out_val)
      · simp [tailB, *]
    by_cases c0 : v.choice = 0
    · by_cases r3 : v.round = 1
      · (
 apply Gol.sr; apply t0; exact sF rfl; apply t0; exact s_load rfl rfl rfl; apply t0; exact s_ge rfl rfl; apply t0; exact sM rfl; apply g0
 exact wnt_g rfl rfl rfl (by simp only [*]; rfl); exact sF rfl; apply g0; exact wnt_g rfl rfl rfl (by simp only [*]; rfl); exact s_load rfl rfl rfl
 apply g0; exact wnt_g rfl rfl rfl (by simp only [*]; rfl); exact s_le rfl rfl; apply t0; exact s_pick_t rfl (by simp only [*]; rfl) rfl
 apply t0; exact sM rfl; apply g0; exact wnt_g rfl rfl rfl (by simp only [*]; rfl); exact sF rfl; apply g0; exact wnt_g rfl rfl rfl (by simp only [*]; rfl)
 exact s_load rfl rfl rfl; apply g0; exact wnt_g rfl rfl rfl (by simp only [*]; rfl); exact s_eq rfl rfl; apply g0; exact wnt_g rfl rfl rfl (by simp only [*]; rfl)
 exact sM rfl; apply sk; exact wnt_g rfl rfl rfl (by simp only [*]; rfl); apply sk; exact wnt_g rfl rfl rfl (by simp only [*]; rfl)
 apply sk; exact wnt_g rfl rfl rfl (by simp only [*]; rfl); apply g0; exact wnt_g rfl rfl rfl (by simp only [*]; rfl); exact s_pick_t rfl (by simp only [*]; rfl) rfl
 apply t0; exact s_pick_t rfl (by simp only [*]; rfl) rfl; apply t0; exact sM rfl; apply g0; exact wnt_g rfl rfl rfl rfl; exact sF rfl
 apply g0; exact wnt_g rfl rfl rfl rfl; exact s_load rfl rfl rfl; apply g0; exact wnt_g rfl rfl rfl rfl; exact s_ne rfl rfl; apply g0; exact wnt_g rfl rfl rfl rfl
 exact sM rfl; apply g0; exact wnt_g rfl rfl rfl (by simp only [*]; rfl); exact sF rfl; apply g0; exact wnt_g rfl rfl rfl (by simp only [*]; rfl)
 exact s_load rfl rfl rfl; apply g0; exact wnt_g rfl rfl rfl (by simp only [*]; rfl); exact s_ne rfl rfl; apply g0; exact wnt_g rfl rfl rfl rfl
 exact s_pick_f rfl (by simp only [*]; rfl) rfl; apply g0; exact wnt_g rfl rfl rfl rfl; exact sM rfl; apply g0; exact wnt_g rfl rfl rfl (by simp only [*]; rfl)
 exact sF rfl; apply g0; exact wnt_g rfl rfl rfl (by simp only [*]; rfl); exact s_load rfl rfl rfl; apply g0; exact wnt_g rfl rfl rfl (by simp only [*]; rfl)
 exact s_eq rfl rfl; apply g0; exact wnt_g rfl rfl rfl rfl; exact s_pick_f rfl (by simp only [*]; rfl) rfl; apply t0; exact s_pick_t rfl rfl rfl
 apply t0; exact sA rfl; dsimp only [reduceAdd, reduceMul]; exact dn; exact rfl; refine Gol.ret ?_; refine inBlk_r ?_
 refine thn_r ?_)
        apply RetQ.bool
        · (apply RetQ.mk (by first | exact .inr rfl | exact .inl rfl); apply res_1 rfl; exact res_tmp rfl; exact out_val)
        · simp [tailB, *]
      · (
 apply Gol.sr; apply t0; exact sF rfl; apply t0; exact s_load rfl rfl rfl; apply t0; exact s_ge rfl rfl; apply t0; exact sM rfl; apply g0
 exact wnt_g rfl rfl rfl (by simp only [*]; rfl); exact sF rfl; apply g0; exact wnt_g rfl rfl rfl (by simp only [*]; rfl); exact s_load rfl rfl rfl
 apply g0; exact wnt_g rfl rfl rfl (by simp only [*]; rfl); exact s_le rfl rfl; apply t0; exact s_pick_t rfl (by simp only [*]; rfl) rfl
 apply t0; exact sM rfl; apply g0; exact wnt_g rfl rfl rfl (by simp only [*]; rfl); exact sF rfl; apply g0; exact wnt_g rfl rfl rfl (by simp only [*]; rfl)
 exact s_load rfl rfl rfl; apply g0; exact wnt_g rfl rfl rfl (by simp only [*]; rfl); exact s_eq rfl rfl; apply g0; exact wnt_g rfl rfl rfl (by simp only [*]; rfl)
 exact sM rfl; apply sk; exact wnt_g rfl rfl rfl (by simp only [*]; rfl); apply sk; exact wnt_g rfl rfl rfl (by simp only [*]; rfl)
 apply sk; exact wnt_g rfl rfl rfl (by simp only [*]; rfl); apply g0; exact wnt_g rfl rfl rfl (by simp only [*]; rfl); exact s_pick_t rfl (by simp only [*]; rfl) rfl
 apply t0; exact s_pick_t rfl (by simp only [*]; rfl) rfl; apply t0; exact sM rfl; apply g0; exact wnt_g rfl rfl rfl rfl; exact sF rfl
 apply g0; exact wnt_g rfl rfl rfl rfl; exact s_load rfl rfl rfl; apply g0; exact wnt_g rfl rfl rfl rfl; exact s_ne rfl rfl; apply g0; exact wnt_g rfl rfl rfl rfl
 exact sM rfl; apply sk; exact wnt_g rfl rfl rfl (by simp only [*]; rfl); apply sk; exact wnt_g rfl rfl rfl (by simp only [*]; rfl)
 apply sk; exact wnt_g rfl rfl rfl (by simp only [*]; rfl); apply g0; exact wnt_g rfl rfl rfl rfl; exact s_pick_t rfl (by simp only [*]; rfl) rfl
 apply g0; exact wnt_g rfl rfl rfl rfl; exact sM rfl; apply sk; exact wnt_g rfl rfl rfl rfl; apply sk; exact wnt_g rfl rfl rfl rfl; apply sk; exact wnt_g rfl rfl rfl rfl
 apply g0; exact wnt_g rfl rfl rfl rfl; exact s_pick_t rfl rfl rfl; apply t0; exact s_pick_t rfl rfl rfl; apply t0; exact sA rfl; dsimp only [reduceAdd, reduceMul]
 exact dn; exact rfl; refine Gol.ret ?_; refine inBlk_r ?_; refine thn_r ?_)
        apply RetQ.bool
        · (apply RetQ.mk (by first | exact .inr rfl | exact .inl rfl); apply res_1 rfl; exact res_tmp rfl; exact out_val)
        · simp [tailB, *]
    by_cases c1 : v.choice = 1
    · by_cases r3 : v.round = 1
      · (
 apply Gol.sr; apply t0; exact sF rfl; apply t0; exact s_load rfl rfl rfl; apply t0; exact s_ge rfl rfl; apply t0; exact sM rfl; apply g0
 exact wnt_g rfl rfl rfl (by simp only [*]; rfl); exact sF rfl; apply g0; exact wnt_g rfl rfl rfl (by simp only [*]; rfl); exact s_load rfl rfl rfl
 apply g0; exact wnt_g rfl rfl rfl (by simp only [*]; rfl); exact s_le rfl rfl; apply t0; exact s_pick_t rfl (by simp only [*]; rfl) rfl
 apply t0; exact sM rfl; apply g0; exact wnt_g rfl rfl rfl (by simp only [*]; rfl); exact sF rfl; apply g0; exact wnt_g rfl rfl rfl (by simp only [*]; rfl)
 exact s_load rfl rfl rfl; apply g0; exact wnt_g rfl rfl rfl (by simp only [*]; rfl); exact s_eq rfl rfl; apply g0; exact wnt_g rfl rfl rfl (by simp only [*]; rfl)
 exact sM rfl; apply g0; exact wnt_g rfl rfl rfl (by simp only [*]; rfl); exact sF rfl; apply g0; exact wnt_g rfl rfl rfl (by simp only [*]; rfl)
 exact s_load rfl rfl rfl; apply g0; exact wnt_g rfl rfl rfl (by simp only [*]; rfl); exact s_eq rfl rfl; apply g0; exact wnt_g rfl rfl rfl (by simp only [*]; rfl)
 exact s_pick_f rfl (by simp only [*]; rfl) rfl; apply t0; exact s_pick_t rfl (by simp only [*]; rfl) rfl; apply t0; exact sM rfl; apply g0
 exact wnt_g rfl rfl rfl (by simp only [*]; rfl); exact sF rfl; apply g0; exact wnt_g rfl rfl rfl (by simp only [*]; rfl); exact s_load rfl rfl rfl
 apply g0; exact wnt_g rfl rfl rfl (by simp only [*]; rfl); exact s_ne rfl rfl; apply g0; exact wnt_g rfl rfl rfl (by simp only [*]; rfl)
 exact sM rfl; apply g0; exact wnt_g rfl rfl rfl (by simp only [*]; rfl); exact sF rfl; apply g0; exact wnt_g rfl rfl rfl (by simp only [*]; rfl)
 exact s_load rfl rfl rfl; apply g0; exact wnt_g rfl rfl rfl (by simp only [*]; rfl); exact s_ne rfl rfl; apply g0; exact wnt_g rfl rfl rfl (by simp only [*]; rfl)
 exact s_pick_f rfl (by simp only [*]; rfl) rfl; apply g0; exact wnt_g rfl rfl rfl (by simp only [*]; rfl); exact sM rfl; apply sk
 exact wnt_g rfl rfl rfl (by simp only [*]; rfl); apply sk; exact wnt_g rfl rfl rfl (by simp only [*]; rfl); apply sk; exact wnt_g rfl rfl rfl (by simp only [*]; rfl)
 apply g0; exact wnt_g rfl rfl rfl (by simp only [*]; rfl); exact s_pick_t rfl (by simp only [*]; rfl) rfl; apply t0; exact s_pick_t rfl (by simp only [*]; rfl) rfl
 apply t0; exact sA rfl; dsimp only [reduceAdd, reduceMul]; exact dn; exact rfl; refine Gol.ret ?_; refine inBlk_r ?_
 refine thn_r ?_)
        apply RetQ.bool
        · (apply RetQ.mk (by first | exact .inr rfl | exact .inl rfl); apply res_1 rfl; exact res_tmp rfl; exact out_val)
        · simp [tailB, *]
      · (
 apply Gol.sr; apply t0; exact sF rfl; apply t0; exact s_load rfl rfl rfl; apply t0; exact s_ge rfl rfl; apply t0; exact sM rfl; apply g0
 exact wnt_g rfl rfl rfl (by simp only [*]; rfl); exact sF rfl; apply g0; exact wnt_g rfl rfl rfl (by simp only [*]; rfl); exact s_load rfl rfl rfl
 apply g0; exact wnt_g rfl rfl rfl (by simp only [*]; rfl); exact s_le rfl rfl; apply t0; exact s_pick_t rfl (by simp only [*]; rfl) rfl
 apply t0; exact sM rfl; apply g0; exact wnt_g rfl rfl rfl (by simp only [*]; rfl); exact sF rfl; apply g0; exact wnt_g rfl rfl rfl (by simp only [*]; rfl)
 exact s_load rfl rfl rfl; apply g0; exact wnt_g rfl rfl rfl (by simp only [*]; rfl); exact s_eq rfl rfl; apply g0; exact wnt_g rfl rfl rfl (by simp only [*]; rfl)
 exact sM rfl; apply g0; exact wnt_g rfl rfl rfl (by simp only [*]; rfl); exact sF rfl; apply g0; exact wnt_g rfl rfl rfl (by simp only [*]; rfl)
 exact s_load rfl rfl rfl; apply g0; exact wnt_g rfl rfl rfl (by simp only [*]; rfl); exact s_eq rfl rfl; apply g0; exact wnt_g rfl rfl rfl (by simp only [*]; rfl)
 exact s_pick_f rfl (by simp only [*]; rfl) rfl; apply t0; exact s_pick_t rfl (by simp only [*]; rfl) rfl; apply t0; exact sM rfl; apply g0
 exact wnt_g rfl rfl rfl (by simp only [*]; rfl); exact sF rfl; apply g0; exact wnt_g rfl rfl rfl (by simp only [*]; rfl); exact s_load rfl rfl rfl
 apply g0; exact wnt_g rfl rfl rfl (by simp only [*]; rfl); exact s_ne rfl rfl; apply g0; exact wnt_g rfl rfl rfl (by simp only [*]; rfl)
 exact sM rfl; apply sk; exact wnt_g rfl rfl rfl (by simp only [*]; rfl); apply sk; exact wnt_g rfl rfl rfl (by simp only [*]; rfl)
 apply sk; exact wnt_g rfl rfl rfl (by simp only [*]; rfl); apply g0; exact wnt_g rfl rfl rfl (by simp only [*]; rfl); exact s_pick_t rfl (by simp only [*]; rfl) rfl
 apply g0; exact wnt_g rfl rfl rfl (by simp only [*]; rfl); exact sM rfl; apply sk; exact wnt_g rfl rfl rfl rfl; apply sk; exact wnt_g rfl rfl rfl rfl
 apply sk; exact wnt_g rfl rfl rfl rfl; apply g0; exact wnt_g rfl rfl rfl (by simp only [*]; rfl); exact s_pick_t rfl rfl rfl; apply t0; exact s_pick_t rfl (by simp only [*]; rfl) rfl
 apply t0; exact sA rfl; dsimp only [reduceAdd, reduceMul]; exact dn; exact rfl; refine Gol.ret ?_; refine inBlk_r ?_
 refine thn_r ?_)
        apply RetQ.bool
        · (apply RetQ.mk (by first | exact .inr rfl | exact .inl rfl); apply res_1 rfl; exact res_tmp rfl; exact out_val)
        · simp [tailB, *]
    · (
 apply Gol.sr; apply t0; exact sF rfl; apply t0; exact s_load rfl rfl rfl; apply t0; exact s_ge rfl rfl; apply t0; exact sM rfl; apply g0
 exact wnt_g rfl rfl rfl (by simp only [*]; rfl); exact sF rfl; apply g0; exact wnt_g rfl rfl rfl (by simp only [*]; rfl); exact s_load rfl rfl rfl
 apply g0; exact wnt_g rfl rfl rfl (by simp only [*]; rfl); exact s_le rfl rfl; apply t0; exact s_pick_t rfl (by simp only [*]; rfl) rfl
 apply t0; exact sM rfl; apply g0; exact wnt_g rfl rfl rfl (by simp only [*]; rfl); exact sF rfl; apply g0; exact wnt_g rfl rfl rfl (by simp only [*]; rfl)
 exact s_load rfl rfl rfl; apply g0; exact wnt_g rfl rfl rfl (by simp only [*]; rfl); exact s_eq rfl rfl; apply g0; exact wnt_g rfl rfl rfl (by simp only [*]; rfl)
 exact sM rfl; apply g0; exact wnt_g rfl rfl rfl (by simp only [*]; rfl); exact sF rfl; apply g0; exact wnt_g rfl rfl rfl (by simp only [*]; rfl)
 exact s_load rfl rfl rfl; apply g0; exact wnt_g rfl rfl rfl (by simp only [*]; rfl); exact s_eq rfl rfl; apply g0; exact wnt_g rfl rfl rfl (by simp only [*]; rfl)
 exact s_pick_f rfl (by simp only [*]; rfl) rfl; apply t0; exact s_pick_t rfl (by simp only [*]; rfl) rfl; apply t0; exact sM rfl; apply sk
 exact wnt_g rfl rfl rfl (by simp only [*]; rfl); apply sk; exact wnt_g rfl rfl rfl (by simp only [*]; rfl); apply sk; exact wnt_g rfl rfl rfl (by simp only [*]; rfl)
 apply sk; exact wnt_g rfl rfl rfl (by simp only [*]; rfl); apply sk; exact wnt_u rfl rfl rfl; apply sk; exact wnt_u rfl rfl rfl; apply sk; exact wnt_u rfl rfl rfl
 apply sk; exact wnt_g rfl rfl rfl (by simp only [*]; rfl); apply sk; exact wnt_g rfl rfl rfl (by simp only [*]; rfl); apply sk; exact wnt_u rfl rfl rfl
 apply sk; exact wnt_u rfl rfl rfl; apply sk; exact wnt_u rfl rfl rfl; apply sk; exact wnt_g rfl rfl rfl (by simp only [*]; rfl); apply t0; exact s_pick_f rfl (by simp only [*]; rfl) rfl
 apply t0; exact sA rfl; dsimp only [reduceAdd, reduceMul]; exact dn; exact rfl; refine Gol.ret ?_; refine inBlk_r ?_
 refine thn_r ?_)
      apply RetQ.bool
      · (apply RetQ.mk (by first | exact .inr rfl | exact .inl rfl); apply res_1 rfl; exact res_tmp rfl; exact out_val)
      · have cc : ¬ (0 ≤ v.choice ∧ v.choice ≤ 1) := by omega
        simp [tailB, *] <;> omega
  (apply Gol.sr; apply t0; exact s_eq rfl rfl; apply t0; exact sA rfl; dsimp only [reduceAdd, reduceMul]; exact dn; exact rfl)
  refine Gol.cond rfl (fun h' => ?_) (fun h' => ?_)
  · have hk4 := of_decide_eq_true h'
    have hsl : 0 ≤ v.slot ∧ v.slot ≤ 9 := by unfold slotOk at hso; omega
    by_cases r1 : 1 ≤ v.round
    · by_cases r2 : v.round ≤ 12
      · by_cases c0 : 0 ≤ v.choice
        · (
 apply Gol.sr; apply t0; exact sF rfl; apply t0; exact s_load rfl rfl rfl; apply t0; exact s_ge rfl rfl; apply t0; exact sM rfl; apply g0
 exact wnt_g rfl rfl rfl (by simp only [*]; rfl); exact sF rfl; apply g0; exact wnt_g rfl rfl rfl (by simp only [*]; rfl); exact s_load rfl rfl rfl
 apply g0; exact wnt_g rfl rfl rfl (by simp only [*]; rfl); exact s_le rfl rfl; apply t0; exact s_pick_t rfl (by simp only [*]; rfl) rfl
 apply t0; exact sM rfl; apply g0; exact wnt_g rfl rfl rfl (by simp only [*]; rfl); exact sF rfl; apply g0; exact wnt_g rfl rfl rfl (by simp only [*]; rfl)
 exact s_load rfl rfl rfl; apply g0; exact wnt_g rfl rfl rfl (by simp only [*]; rfl); exact s_ge rfl rfl; apply t0; exact s_pick_t rfl (by simp only [*]; rfl) rfl
 apply t0; exact sM rfl; apply g0; exact wnt_g rfl rfl rfl (by simp only [*]; rfl); exact sF rfl; apply g0; exact wnt_g rfl rfl rfl (by simp only [*]; rfl)
 exact s_load rfl rfl rfl; apply g0; exact wnt_g rfl rfl rfl (by simp only [*]; rfl); exact s_le rfl rfl; apply t0; exact s_pick_t rfl (by simp only [*]; rfl) rfl
 apply t0; exact sA rfl; dsimp only [reduceAdd, reduceMul]; exact dn; exact rfl; refine Gol.ret ?_; refine inBlk_r ?_
 refine thn_r ?_)
          apply RetQ.bool
          · (apply RetQ.mk (by first | exact .inr rfl | exact .inl rfl); apply res_1 rfl; exact res_tmp rfl; exact out_val)
          · simp [tailB, *]
        · (
 apply Gol.sr; apply t0; exact sF rfl; apply t0; exact s_load rfl rfl rfl; apply t0; exact s_ge rfl rfl; apply t0; exact sM rfl; apply g0
 exact wnt_g rfl rfl rfl (by simp only [*]; rfl); exact sF rfl; apply g0; exact wnt_g rfl rfl rfl (by simp only [*]; rfl); exact s_load rfl rfl rfl
 apply g0; exact wnt_g rfl rfl rfl (by simp only [*]; rfl); exact s_le rfl rfl; apply t0; exact s_pick_t rfl (by simp only [*]; rfl) rfl
 apply t0; exact sM rfl; apply g0; exact wnt_g rfl rfl rfl (by simp only [*]; rfl); exact sF rfl; apply g0; exact wnt_g rfl rfl rfl (by simp only [*]; rfl)
 exact s_load rfl rfl rfl; apply g0; exact wnt_g rfl rfl rfl (by simp only [*]; rfl); exact s_ge rfl rfl; apply t0; exact s_pick_t rfl (by simp only [*]; rfl) rfl
 apply t0; exact sM rfl; apply sk; exact wnt_g rfl rfl rfl (by simp only [*]; rfl); apply sk; exact wnt_g rfl rfl rfl (by simp only [*]; rfl)
 apply sk; exact wnt_g rfl rfl rfl (by simp only [*]; rfl); apply t0; exact s_pick_f rfl (by simp only [*]; rfl) rfl; apply t0; exact sA rfl
 dsimp only [reduceAdd, reduceMul]; exact dn; exact rfl; refine Gol.ret ?_; refine inBlk_r ?_; refine thn_r ?_)
          apply RetQ.bool
          · (apply RetQ.mk (by first | exact .inr rfl | exact .inl rfl); apply res_1 rfl; exact res_tmp rfl; exact out_val)
          · simp [tailB, *]
      · (
 apply Gol.sr; apply t0; exact sF rfl; apply t0; exact s_load rfl rfl rfl; apply t0; exact s_ge rfl rfl; apply t0; exact sM rfl; apply g0
 exact wnt_g rfl rfl rfl (by simp only [*]; rfl); exact sF rfl; apply g0; exact wnt_g rfl rfl rfl (by simp only [*]; rfl); exact s_load rfl rfl rfl
 apply g0; exact wnt_g rfl rfl rfl (by simp only [*]; rfl); exact s_le rfl rfl; apply t0; exact s_pick_t rfl (by simp only [*]; rfl) rfl
 apply t0; exact sM rfl; apply sk; exact wnt_g rfl rfl rfl (by simp only [*]; rfl); apply sk; exact wnt_g rfl rfl rfl (by simp only [*]; rfl)
 apply sk; exact wnt_g rfl rfl rfl (by simp only [*]; rfl); apply t0; exact s_pick_f rfl (by simp only [*]; rfl) rfl; apply t0; exact sM rfl
 apply sk; exact wnt_g rfl rfl rfl rfl; apply sk; exact wnt_g rfl rfl rfl rfl; apply sk; exact wnt_g rfl rfl rfl rfl; apply t0; exact s_pick_f rfl rfl rfl
 apply t0; exact sA rfl; dsimp only [reduceAdd, reduceMul]; exact dn; exact rfl; refine Gol.ret ?_; refine inBlk_r ?_
 refine thn_r ?_)
        apply RetQ.bool
        · (apply RetQ.mk (by first | exact .inr rfl | exact .inl rfl); apply res_1 rfl; exact res_tmp rfl; exact out_val)
        · simp [tailB, *]
    · (
 apply Gol.sr; apply t0; exact sF rfl; apply t0; exact s_load rfl rfl rfl; apply t0; exact s_ge rfl rfl; apply t0; exact sM rfl; apply sk
 exact wnt_g rfl rfl rfl (by simp only [*]; rfl); apply sk; exact wnt_g rfl rfl rfl (by simp only [*]; rfl); apply sk; exact wnt_g rfl rfl rfl (by simp only [*]; rfl)
 apply t0; exact s_pick_f rfl (by simp only [*]; rfl) rfl; apply t0; exact sM rfl; apply sk; exact wnt_g rfl rfl rfl rfl; apply sk; exact wnt_g rfl rfl rfl rfl
 apply sk; exact wnt_g rfl rfl rfl rfl; apply t0; exact s_pick_f rfl rfl rfl; apply t0; exact sM rfl; apply sk; exact wnt_g rfl rfl rfl rfl; apply sk
 exact wnt_g rfl rfl rfl rfl; apply sk; exact wnt_g rfl rfl rfl rfl; apply t0; exact s_pick_f rfl rfl rfl; apply t0; exact sA rfl; dsimp only [reduceAdd, reduceMul]
 exact dn; exact rfl; refine Gol.ret ?_; refine inBlk_r ?_; refine thn_r ?_)
      apply RetQ.bool
      · (apply RetQ.mk (by first | exact .inr rfl | exact .inl rfl); apply res_1 rfl; exact res_tmp rfl; exact out_val)
      · simp [tailB, *]
  have hk3 := of_decide_eq_false h
  have hk4 := of_decide_eq_false h'
  have hsl : 0 ≤ v.slot ∧ v.slot ≤ (if v.kind = 1 ∨ v.kind = 2 then 9 else 0) := by unfold slotOk at hso; split <;> omega
  by_cases r0 : v.round = 0
  · by_cases c1 : v.choice = 1
    · (
 refine Gol.skip ?_; refine inBlk_n ?_; refine thn_n ?_; apply Gol.sr; apply t0; exact sF rfl
 apply t0; exact s_load rfl rfl rfl; apply t0; exact s_eq rfl rfl; apply t0; exact sM rfl; apply g0; exact wnt_g rfl rfl rfl (by simp only [*]; rfl)
 exact sF rfl; apply g0; exact wnt_g rfl rfl rfl (by simp only [*]; rfl); exact s_load rfl rfl rfl; apply g0; exact wnt_g rfl rfl rfl (by simp only [*]; rfl)
 exact s_eq rfl rfl; apply t0; exact s_pick_t rfl (by simp only [*]; rfl) rfl; apply t0; exact sM rfl; apply g0; exact wnt_g rfl rfl rfl (by simp only [*]; rfl)
 exact sF rfl; apply g0; exact wnt_g rfl rfl rfl (by simp only [*]; rfl); exact s_load rfl rfl rfl; apply g0; exact wnt_g rfl rfl rfl (by simp only [*]; rfl)
 exact s_eq rfl rfl; apply t0; exact s_pick_t rfl (by simp only [*]; rfl) rfl; apply t0; exact sA rfl; dsimp only [reduceAdd, reduceMul]
 exact dn; exact rfl; refine Gol.ret ?_)
      apply RetQ.bool
      · (apply RetQ.mk (by first | exact .inr rfl | exact .inl rfl); apply res_1 rfl; exact res_tmp rfl; exact out_val)
      · simp [tailB, *]
    · (
 refine Gol.skip ?_; refine inBlk_n ?_; refine thn_n ?_; apply Gol.sr; apply t0; exact sF rfl
 apply t0; exact s_load rfl rfl rfl; apply t0; exact s_eq rfl rfl; apply t0; exact sM rfl; apply g0; exact wnt_g rfl rfl rfl (by simp only [*]; rfl)
 exact sF rfl; apply g0; exact wnt_g rfl rfl rfl (by simp only [*]; rfl); exact s_load rfl rfl rfl; apply g0; exact wnt_g rfl rfl rfl (by simp only [*]; rfl)
 exact s_eq rfl rfl; apply t0; exact s_pick_t rfl (by simp only [*]; rfl) rfl; apply t0; exact sM rfl; apply sk; exact wnt_g rfl rfl rfl (by simp only [*]; rfl)
 apply sk; exact wnt_g rfl rfl rfl (by simp only [*]; rfl); apply sk; exact wnt_g rfl rfl rfl (by simp only [*]; rfl); apply t0; exact s_pick_f rfl (by simp only [*]; rfl) rfl
 apply t0; exact sA rfl; dsimp only [reduceAdd, reduceMul]; exact dn; exact rfl; refine Gol.ret ?_)
      apply RetQ.bool
      · (apply RetQ.mk (by first | exact .inr rfl | exact .inl rfl); apply res_1 rfl; exact res_tmp rfl; exact out_val)
      · simp [tailB, *]
  · (
 refine Gol.skip ?_; refine inBlk_n ?_; refine thn_n ?_; apply Gol.sr; apply t0; exact sF rfl
 apply t0; exact s_load rfl rfl rfl; apply t0; exact s_eq rfl rfl; apply t0; exact sM rfl; apply sk; exact wnt_g rfl rfl rfl (by simp only [*]; rfl)
 apply sk; exact wnt_g rfl rfl rfl (by simp only [*]; rfl); apply sk; exact wnt_g rfl rfl rfl (by simp only [*]; rfl); apply t0; exact s_pick_f rfl (by simp only [*]; rfl) rfl
 apply t0; exact sM rfl; apply sk; exact wnt_g rfl rfl rfl rfl; apply sk; exact wnt_g rfl rfl rfl rfl; apply sk; exact wnt_g rfl rfl rfl rfl; apply t0
 exact s_pick_f rfl rfl rfl; apply t0; exact sA rfl; dsimp only [reduceAdd, reduceMul]; exact dn; exact rfl; refine Gol.ret ?_)
    apply RetQ.bool
    · (apply RetQ.mk (by first | exact .inr rfl | exact .inl rfl); apply res_1 rfl; exact res_tmp rfl; exact out_val)
    · simp [tailB, *]
end Go.Proofs.YtneeclacmhhblaaGreat


namespace Go.Proofs.YtneeclacmhhblaaGreat
open Go.RowKit
open Nat (reduceAdd reduceMul reduceSub)

noncomputable def vstep (m : List (Ky × Int)) (v : Vt) : List (Ky × Int) :=
  if validB v = true ∧ 5 ≤ v.kind then aput m ⟨v.kind, v.parent, v.value⟩ (orI ((alk m ⟨v.kind, v.parent, v.value⟩).getD 0) (shlI 1 v.signer.toNat)) else m
noncomputable def votM (vs : List Vt) : List (Ky × Int) := vs.foldl vstep []
theorem votM_next {vs : List Vt} {i : Nat} {v : Vt} (h : vs[i]? = some v) : votM (vs.take (i + 1)) = vstep (votM (vs.take i)) v := by
  obtain ⟨hl, e⟩ := List.getElem?_eq_some_iff.1 h
  rw [List.take_succ_eq_append_getElem hl, votM, List.foldl_append, e]; rfl
noncomputable def votN (vs : List Vt) (k : Ky) : Int := (alk (votM vs) k).getD 0
noncomputable def bookB (l : List It) (vs : List Vt) (f : Bool) : ABlk := ⟨[.ex l.length f (itsA l), .ex l.length f (itsA l), grM l, .em (kvA keK veM (votM vs)), .mp 1], 96, 5⟩
def knB (K : List (UInt64 × Stu)) : ABlk := ⟨kvA keN veS K, 94, 0⟩
instance (K : List (UInt64 × Stu)) : CloL (knB K).cells := inferInstanceAs (CloL (kvA keN veS K))
set_option maxHeartbeats 3200000 in
theorem open_ok (l : List It) (vs : List Vt) (f f2 : Bool) (hl : l.length ≤ 1000000) (hv : vs.length ≤ 1000000) : Acts Tryz.prog 45 [] [.ex l.length f (itsA l), .ex vs.length f2 (vtsA vs)] (.pt 0 0) [some (bookB l vs f), some (knB [])] := by
  refine Acts.of (fn := Tryz.f45) Tryz.func45 rfl (lb rfl) (lb rfl) fun w bl hid loc => ?_
  (
 apply Gol.sr; apply t0; exact sA rfl; dsimp only [reduceAdd, reduceMul]; exact dn; exact rfl; apply Gol.sr; apply t0; exact sM rfl; apply t0
 exact sM rfl; dsimp only [reduceAdd, reduceMul, reduceSub, na, ca, nbk, mc, ml]; apply tq; apply s_acts (f := 78) [] rfl inferInstance; exact newGraph_ok l f hl; apply eC rfl; exact eN
 exact rfl; exact ABs.nil; dsimp only [List.cons_append, List.nil_append, List.append_nil]; exact RenL.clo; exact rZ; exact HRen.nil
 exact lb rfl; dsimp only [reduceAdd, reduceMul, reduceSub, na, ca, nbk, nones, mc, ml]
 apply t1; exact s_makeMapN; apply t1; exact s_makeMapN; dsimp only [reduceAdd, reduceMul, reduceSub, na, ca, nbk, mc, ml]
 apply tq; apply s_bld; exact rfl; (focus (dsimp only [splB, cuB, spl, cu, Value.cells, nameC, List.map, List.take, List.drop, List.append, List.length, List.cons_append, List.nil_append, Nat.reduceAdd, List.take_succ_cons, List.take_zero, List.drop_succ_cons, List.drop_zero, List.take_nil, List.drop_nil, List.append_nil, List.length_cons, List.length_nil]; done))
 dsimp only [reduceAdd, reduceMul, reduceSub, na, ca, nbk, mc, ml]; apply t1; exact s_box rfl rfl
 apply t0; exact sA rfl; dsimp only [reduceAdd, reduceMul]; exact dn; exact rfl; refine Gol.seq ?_; apply Gol.sr; apply t0
 exact sM rfl; apply t0; exact s_len rfl ln_ex; apply t0; exact sM rfl; dsimp only [reduceAdd, reduceMul]; exact dn; exact rfl; refine Gol.block ?_)
  refine Gol.loop (ι := Nat) (fun i => i ≤ vs.length) (fun i => vs.length - i) 200 (fun i => [(100, some ⟨[.ex l.length f (itsA l), .ex l.length f (itsA l), grM l, .mp 101, .mp 102], 96, 5⟩), (101, some ⟨kvA keK veM (votM (vs.take i)), 93, 0⟩), (102, some ⟨kvA keN veS ([] : List (UInt64 × Stu)), 94, 0⟩)])
    (fun i => [(5, .pt 100 0), (15, .ex vs.length f2 (vtsA vs)), (16, .v (.int .i64 (vs.length : Int))), (17, .v (.int .i64 (i : Int)))]) 0 (Nat.zero_le _) ?_ ?_
  · (
 apply Le.mk3' [(100, 64), (101, 40), (102, 48)]; apply RnT3.c; exact rfl; apply Rn3.r; exact Rn.pt rfl rfl; apply RnT3.c; exact rfl; apply Rn3.r; exact Rn.clo inferInstance rfl
 apply RnT3.c; exact rfl; apply Rn3.r; exact Rn.v rfl; apply RnT3.c; exact rfl; apply Rn3.r; exact Rn.v rfl; exact RnT3.n; apply RnH3.c; exact rfl; exact rfl
 apply RnC.l; apply Rn3L.cons; apply Rn3.r; exact Rn.clo inferInstance rfl; apply Rn3L.cons; apply Rn3.r; exact Rn.clo inferInstance rfl; apply Rn3L.cons
 apply Rn3.r; exact Rn.clo inferInstance rfl; apply Rn3L.cons; apply Rn3.r; exact Rn.mp rfl; apply Rn3L.cons; apply Rn3.r; exact Rn.mp rfl; exact Rn3L.nil
 exact rfl; exact rfl; apply RnH3.c; exact rfl; exact rfl; apply RnC.cl; rfl; exact inferInstance; exact rfl; exact rfl; apply RnH3.c; exact rfl; exact rfl
 apply RnC.cl; rfl; exact inferInstance; exact rfl; exact rfl; exact RnH3.n; exact rfl; exact rfl)
  intro i hi
  (apply Gol.sr; apply t0; exact s_ltn rfl rfl; dsimp only [reduceAdd, reduceMul]; exact dn; exact rfl; refine Gol.seq ?_)
  refine Gol.cond rfl (fun h => ?_) (fun h => ?_)
  · have hlt : i < vs.length := of_decide_eq_true h
    have hx : vs[i]? = some vs[i] := List.getElem?_eq_getElem hlt
    generalize vs[i] = v at hx
    have hn := votM_next hx
    by_cases hb : validB v = true
    · by_cases hk : 5 ≤ v.kind
      · have hs := ((valid_iff v).1 hb).2.1.1
        have e : vstep (votM (vs.take i)) v = aput (votM (vs.take i)) ⟨v.kind, v.parent, v.value⟩ (orI ((alk (votM (vs.take i)) ⟨v.kind, v.parent, v.value⟩).getD 0) (shlI 1 v.signer.toNat)) := if_pos ⟨hb, hk⟩
        rw [e] at hn
        have hk' : decide (5 ≤ v.kind) = true := decide_eq_true hk
        (
 refine Gol.skip ?_; refine thn_n ?_; refine Gol.seq ?_; refine Gol.block ?_; apply Gol.sr
 apply t0; exact s_ixeD rfl rfl (by omega) (vts_ne (by omega)) (vts_at (by assumption)); apply t0; exact s_loadEN rfl (lb rfl) agu_vt
 apply t1; exact s_alloc; apply n1; exact s_storeW rfl rfl rfl rfl rfl rfl; dsimp only [reduceAdd, reduceMul]; exact dn; exact rfl; apply Gol.sr
 apply t0; exact s_loadW rfl rfl rfl (agu_cuv _); dsimp only [reduceAdd, reduceMul, reduceSub, na, ca, nbk, mc, ml]
 apply tq; apply s_call (f := 79) rfl; apply eC rfl; exact eN; apply aC; exact aL
 exact aN; have hvv := valid_ok v; rw [hb] at hvv; exact hvv; exact lb rfl; dsimp only [reduceAdd, reduceMul, reduceSub, na, ca, nbk, mc, ml]
 apply t0; exact sM rfl; apply g0; exact wnt_g rfl rfl rfl rfl; exact sF rfl; apply g0; exact wnt_g rfl rfl rfl rfl; exact s_load rfl rfl rfl
 apply g0; exact wnt_g rfl rfl rfl rfl; exact s_ge rfl rfl; apply t0; exact s_pick_t rfl rfl rfl; dsimp only [reduceAdd, reduceMul]; exact dn; exact rfl)
        refine Gol.cond_t rfl hk' ?_
        with_reducible apply Gol.anyS
        kernel_rfl
        ((apply t0; exact sM rfl))
        ((apply t0; exact s_nilCheck rfl rfl))
        ((apply t0; exact sF rfl))
        ((apply t0; exact s_load rfl rfl rfl))
        ((apply t0; exact sF rfl))
        ((apply t0; exact s_load rfl rfl rfl))
        ((apply t0; exact sF rfl))
        ((apply t0; exact s_loadN rfl rfl (lb rfl) (agu_nm8 rfl)))
        ((apply t0; exact sF rfl))
        ((apply t0; exact s_loadN rfl rfl (lb rfl) (agu_nm8 rfl)))
        ((apply tq; apply s_bld; exact rfl; (focus (dsimp only [splB, cuB, spl, cu, Value.cells, nameC, List.map, List.take, List.drop, List.append, List.length, List.cons_append, List.nil_append, Nat.reduceAdd, List.take_succ_cons, List.take_zero, List.drop_succ_cons, List.drop_zero, List.take_nil, List.drop_nil, List.append_nil, List.length_cons, List.length_nil]; done))
          dsimp only [reduceAdd, reduceMul, reduceSub, na, ca, nbk, mc, ml]))
        (apply Trc.soft 101 (some ⟨kvA keK veM (aent (votM (vs.take i)) ⟨v.kind, v.parent, v.value⟩ 0), 93, 0⟩) 16 rfl rfl; exact wnt_n rfl; (apply s_lookM1; exact rfl; exact rfl; exact rfl; exact isV_ky rfl; exact inferInstance; exact lk_getD); (apply s_lookM1; exact rfl; exact rfl; exact rfl; exact isV_ky rfl; exact inferInstance; exact lk_aent))
        ((apply t0; exact sF rfl; apply t0; exact s_load rfl rfl rfl; apply t0; exact s_shlZ rfl rfl (by omega); apply t0; exact s_orI rfl rfl; apply tq
          exact s_mapEnt rfl rfl rfl (isV_ky rfl) inferInstance rfl; dsimp only [reduceAdd, reduceMul, reduceSub, na, ca, nbk, mc, ml]
          apply t0; exact s_extract rfl rfl; apply nq; exact s_entSt rfl rfl rfl rfl isV_v; dsimp only [reduceAdd, reduceMul, reduceSub, na, ca, nbk, mc, ml]); exact Trc.done _ _ _)
        kernel_rfl
        exact soft_one 11 (by kernel_rfl) ⟨_, rfl, rfl⟩ ⟨_, rfl, rfl⟩
        exact rfl
        (
 refine inBlk_n ?_; refine thn_n ?_; apply Gol.region; apply t0; exact s_addn rfl rfl (by simp <;> omega)
 apply t0; exact sM rfl; dsimp only [reduceAdd, reduceMul]; exact dn; exact rfl)
        exact rnd_n (i + 1) hlt (by show vs.length - (i + 1) < vs.length - i; omega) (by rw [hn]; (apply Le.mk3' [(100, 100), (101, 101), (102, 102)]; apply RnT3.c; exact rfl; apply Rn3.r; exact Rn.pt rfl rfl; apply RnT3.c; exact rfl; apply Rn3.r; exact Rn.clo inferInstance rfl
                                                                                                   apply RnT3.c; exact rfl; apply Rn3.r; exact Rn.v rfl; apply RnT3.c; exact rfl; apply Rn3.r; exact Rn.v rfl; exact RnT3.n; apply RnH3.c; exact rfl; exact rfl
                                                                                                   apply RnC.l; apply Rn3L.cons; apply Rn3.r; exact Rn.clo inferInstance rfl; apply Rn3L.cons; apply Rn3.r; exact Rn.clo inferInstance rfl; apply Rn3L.cons
                                                                                                   apply Rn3.r; exact Rn.clo inferInstance rfl; apply Rn3L.cons; apply Rn3.r; exact Rn.mp rfl; apply Rn3L.cons; apply Rn3.r; exact Rn.mp rfl; exact Rn3L.nil
                                                                                                   exact rfl; exact rfl; apply RnH3.c; exact rfl; exact rfl; apply RnC.cl; rfl; exact inferInstance; exact rfl; exact rfl; apply RnH3.c; exact rfl; exact rfl
                                                                                                   apply RnC.cl; rfl; exact inferInstance; exact rfl; exact rfl; exact RnH3.n; exact rfl; exact rfl))
      · have e : vstep (votM (vs.take i)) v = votM (vs.take i) := if_neg (fun h => hk h.2)
        rw [e] at hn
        have hk' : decide (5 ≤ v.kind) = false := decide_eq_false hk
        (
 refine Gol.skip ?_; refine thn_n ?_; refine Gol.seq ?_; refine Gol.block ?_; apply Gol.sr
 apply t0; exact s_ixeD rfl rfl (by omega) (vts_ne (by omega)) (vts_at (by assumption)); apply t0; exact s_loadEN rfl (lb rfl) agu_vt
 apply t1; exact s_alloc; apply n1; exact s_storeW rfl rfl rfl rfl rfl rfl; dsimp only [reduceAdd, reduceMul]; exact dn; exact rfl; apply Gol.sr
 apply t0; exact s_loadW rfl rfl rfl (agu_cuv _); dsimp only [reduceAdd, reduceMul, reduceSub, na, ca, nbk, mc, ml]
 apply tq; apply s_call (f := 79) rfl; apply eC rfl; exact eN; apply aC; exact aL
 exact aN; have hvv := valid_ok v; rw [hb] at hvv; exact hvv; exact lb rfl; dsimp only [reduceAdd, reduceMul, reduceSub, na, ca, nbk, mc, ml]
 apply t0; exact sM rfl; apply g0; exact wnt_g rfl rfl rfl rfl; exact sF rfl; apply g0; exact wnt_g rfl rfl rfl rfl; exact s_load rfl rfl rfl
 apply g0; exact wnt_g rfl rfl rfl rfl; exact s_ge rfl rfl; apply t0; exact s_pick_t rfl rfl rfl; dsimp only [reduceAdd, reduceMul]; exact dn; exact rfl)
        refine Gol.cond_f rfl hk' ?_
        (
 refine Gol.skip ?_; refine inBlk_n ?_; refine thn_n ?_; apply Gol.region; apply t0
 exact s_addn rfl rfl (by simp <;> omega); apply t0; exact sM rfl; dsimp only [reduceAdd, reduceMul]; exact dn; exact rfl)
        exact rnd_n (i + 1) hlt (by show vs.length - (i + 1) < vs.length - i; omega) (by rw [hn]; (apply Le.mk3' [(100, 100), (101, 101), (102, 102)]; apply RnT3.c; exact rfl; apply Rn3.r; exact Rn.pt rfl rfl; apply RnT3.c; exact rfl; apply Rn3.r; exact Rn.clo inferInstance rfl
                                                                                                   apply RnT3.c; exact rfl; apply Rn3.r; exact Rn.v rfl; apply RnT3.c; exact rfl; apply Rn3.r; exact Rn.v rfl; exact RnT3.n; apply RnH3.c; exact rfl; exact rfl
                                                                                                   apply RnC.l; apply Rn3L.cons; apply Rn3.r; exact Rn.clo inferInstance rfl; apply Rn3L.cons; apply Rn3.r; exact Rn.clo inferInstance rfl; apply Rn3L.cons
                                                                                                   apply Rn3.r; exact Rn.clo inferInstance rfl; apply Rn3L.cons; apply Rn3.r; exact Rn.mp rfl; apply Rn3L.cons; apply Rn3.r; exact Rn.mp rfl; exact Rn3L.nil
                                                                                                   exact rfl; exact rfl; apply RnH3.c; exact rfl; exact rfl; apply RnC.cl; rfl; exact inferInstance; exact rfl; exact rfl; apply RnH3.c; exact rfl; exact rfl
                                                                                                   apply RnC.cl; rfl; exact inferInstance; exact rfl; exact rfl; exact RnH3.n; exact rfl; exact rfl))
    · have hb : validB v = false := by cases h : validB v with | false => rfl | true => exact absurd h hb
      have e : vstep (votM (vs.take i)) v = votM (vs.take i) := if_neg (fun h => by rw [hb] at h; cases h.1)
      rw [e] at hn
      (
 refine Gol.skip ?_; refine thn_n ?_; refine Gol.seq ?_; refine Gol.block ?_; apply Gol.sr
 apply t0; exact s_ixeD rfl rfl (by omega) (vts_ne (by omega)) (vts_at (by assumption)); apply t0; exact s_loadEN rfl (lb rfl) agu_vt
 apply t1; exact s_alloc; apply n1; exact s_storeW rfl rfl rfl rfl rfl rfl; dsimp only [reduceAdd, reduceMul]; exact dn; exact rfl; apply Gol.sr
 apply t0; exact s_loadW rfl rfl rfl (agu_cuv _); dsimp only [reduceAdd, reduceMul, reduceSub, na, ca, nbk, mc, ml]
 apply tq; apply s_call (f := 79) rfl; apply eC rfl; exact eN; apply aC; exact aL
 exact aN; have hvv := valid_ok v; rw [hb] at hvv; exact hvv; exact lb rfl; dsimp only [reduceAdd, reduceMul, reduceSub, na, ca, nbk, mc, ml]
 apply t0; exact sM rfl; apply sk; exact wnt_g rfl rfl rfl rfl; apply sk; exact wnt_g rfl rfl rfl rfl; apply sk; exact wnt_g rfl rfl rfl rfl; apply t0
 exact s_pick_f rfl rfl rfl; dsimp only [reduceAdd, reduceMul]; exact dn; exact rfl)
      refine Gol.cond_f rfl rfl ?_
      (
 refine Gol.skip ?_; refine inBlk_n ?_; refine thn_n ?_; apply Gol.region; apply t0
 exact s_addn rfl rfl (by simp <;> omega); apply t0; exact sM rfl; dsimp only [reduceAdd, reduceMul]; exact dn; exact rfl)
      exact rnd_n (i + 1) hlt (by show vs.length - (i + 1) < vs.length - i; omega) (by rw [hn]; (apply Le.mk3' [(100, 100), (101, 101), (102, 102)]; apply RnT3.c; exact rfl; apply Rn3.r; exact Rn.pt rfl rfl; apply RnT3.c; exact rfl; apply Rn3.r; exact Rn.clo inferInstance rfl
                                                                                                 apply RnT3.c; exact rfl; apply Rn3.r; exact Rn.v rfl; apply RnT3.c; exact rfl; apply Rn3.r; exact Rn.v rfl; exact RnT3.n; apply RnH3.c; exact rfl; exact rfl
                                                                                                 apply RnC.l; apply Rn3L.cons; apply Rn3.r; exact Rn.clo inferInstance rfl; apply Rn3L.cons; apply Rn3.r; exact Rn.clo inferInstance rfl; apply Rn3L.cons
                                                                                                 apply Rn3.r; exact Rn.clo inferInstance rfl; apply Rn3L.cons; apply Rn3.r; exact Rn.mp rfl; apply Rn3L.cons; apply Rn3.r; exact Rn.mp rfl; exact Rn3L.nil
                                                                                                 exact rfl; exact rfl; apply RnH3.c; exact rfl; exact rfl; apply RnC.cl; rfl; exact inferInstance; exact rfl; exact rfl; apply RnH3.c; exact rfl; exact rfl
                                                                                                 apply RnC.cl; rfl; exact inferInstance; exact rfl; exact rfl; exact RnH3.n; exact rfl; exact rfl))
  · have hge : ¬ i < vs.length := of_decide_eq_false h
    obtain rfl : i = vs.length := by omega
    rw [List.take_length]
    refine Gol.le (Le.giveMC (B := 100) (b := 101) 3 rfl rfl rfl rfl rfl rfl) ?_
    (
 refine Gol.exit ?_; refine thn_x ?_; refine rnd_x ?_; refine inBlk_hit ?_; refine thn_n ?_
 apply Gol.sr; apply t0; exact sM rfl; apply t0; exact sA rfl; dsimp only [reduceAdd, reduceMul]; exact dn; exact rfl; refine Gol.ret ?_)
    (
 apply RetA.mk [100, 102] (by first | exact .inr rfl | exact .inl rfl); apply res_1 rfl; exact res_tmp rfl; exact rfl; exact rfl; exact rfl; apply OAs.kept
 exact rfl; exact rfl; exact rfl; apply rK; apply rK; apply rK
 apply rK; apply RenL.cons; apply Ren.mp; exact IdR.mk rfl; exact RenL.nil; apply OAs.kept; exact rfl; exact rfl; exact rfl
 exact RenL.clo; exact OAs.nil; apply Ren.pt; exact IdR.mk rfl)
end Go.Proofs.YtneeclacmhhblaaGreat


namespace Go.Proofs.YtneeclacmhhblaaGreat
open Go.RowKit
open Nat (reduceAdd reduceMul reduceSub)

section
variable (S : List UInt8 → UInt64)
variable (hS : HashF S)
include hS
set_option maxHeartbeats 1600000 in
theorem refLeaves_ok (s : Stt) (hs : Sm s) : Fresh Tryz.prog 74 [stA s] (fun k => .sl k (leavesN S s).length) [⟨byA (flat (leavesN S s)), 23, 8⟩] := by
  obtain ⟨h1, h2, h3, h4⟩ := hs
  unfold stA
  refine Fresh.of (fn := Tryz.f74) Tryz.func74 rfl (lb rfl) fun w => ?_
  (
 apply Gol.sr; apply t1; exact s_box rfl rfl; apply t0; exact sA rfl; dsimp only [reduceAdd, reduceMul]; exact dn; exact rfl; apply Gol.sr
 apply t0; exact sA rfl; dsimp only [reduceAdd, reduceMul]; exact dn; exact rfl; refine Gol.seq ?_; apply Gol.sr; apply t0
 exact sA rfl; dsimp only [reduceAdd, reduceMul]; exact dn; exact rfl; refine Gol.block ?_)
  refine Gol.le (Le.nilOwn (i := 3) 23 8 rfl) ?_
  refine Gol.loop (ι := Nat) (fun j => j ≤ s.cells.length) (fun j => s.cells.length - j) 200 (fun j => [(199, some ⟨byA (flat (lv1 S s j)), 23, 8⟩), (0, some ⟨[.ex s.cells.length false (dsA s.cells), .ex s.seqs.length false (inA s.seqs), .ex s.locks.length false (lsA s.locks), .ex s.applied.length false (byA (flat s.applied)), .v (.int .i64 s.guilty)], 31, 5⟩)]) (fun j => [(4, .v (.int .i64 (j : Int))), (3, .sl 199 (lv1 S s j).length), (1, .pt 0 0)]) 0 (Nat.zero_le _) ?_ ?_
  · (
 apply Le.mk3' [(199, 32)]; apply RnT3.c; exact rfl; apply Rn3.r; exact Rn.v rfl; apply RnT3.c; exact rfl; apply Rn3.r; exact Rn.sl rfl rfl; apply RnT3.c
 exact rfl; apply Rn3.r; exact Rn.pt rfl rfl; exact RnT3.n; apply RnH3.c; exact rfl; exact rfl; apply RnC.cl; rfl; exact inferInstance; exact rfl; exact rfl
 apply RnH3.c; exact rfl; exact rfl; apply RnC.cl; rfl; exact inferInstance; exact rfl; exact rfl; exact RnH3.n; exact rfl; exact rfl)
  intro j hj
  have hLj := lv1_len S s j
  (
 refine Gol.seq ?_; apply Gol.sr; apply t0; exact sM rfl; apply t0; exact sF rfl; apply t0; exact s_load rfl rfl rfl; apply t0
 exact s_len rfl ln_ex; apply t0; exact s_ltn rfl rfl; dsimp only [reduceAdd, reduceMul]; exact dn; exact rfl)
  refine Gol.cond rfl (fun h => ?_) (fun h => ?_)
  · have hlt : j < s.cells.length := of_decide_eq_true h
    obtain ⟨d, hd⟩ : ∃ d, s.cells[j]? = some d := ⟨s.cells[j], List.getElem?_eq_getElem hlt⟩
    have hN := lv1_next S hd
    (
 refine Gol.skip ?_; refine thn_n ?_; refine Gol.seq ?_; refine Gol.block ?_; apply Gol.region
 apply t0; exact sM rfl; apply t0; exact sF rfl; apply t0; exact s_load rfl rfl rfl; apply t0; exact sM rfl; apply t0; exact s_ixe rfl rfl (by omega) (ds_ne (by omega))
 apply t0; exact s_loadEN rfl (by simp only [byA_length, List.length_append, List.length_cons, List.length_nil, List.length_take, List.length_drop, List.length_replicate, List.length_map, Nat.mul_one, nameB_length, flat_length, List.length_set, inA_length, dsA_length, lsA_length, dA_length, lA_length] <;> omega) (agu_d (by assumption))
 apply tq; exact s_call (f := 108) rfl (eC rfl eN) (aC aL aN) (refCellLeaf_ok S hS d) (lb rfl)
 dsimp only [reduceAdd, reduceMul, reduceSub, na, ca, nbk, mc, ml]; apply t1; exact s_lit (PA.cons rfl rfl rfl PA.nil) rfl (by first | omega | exact lb rfl | decide | (simp <;> omega) | (dsimp <;> omega))
 apply tq; exact s_app rfl rfl rfl (rd_sl rfl rfl) (by simp only [byA_length, List.length_append, List.length_cons, List.length_nil, List.length_take, List.length_drop, List.length_replicate, List.length_map, Nat.mul_one, nameB_length, flat_length, List.length_set, inA_length, dsA_length, lsA_length, dA_length, lA_length] <;> omega) rfl rfl rfl (by omega)
 dsimp only [reduceAdd, reduceMul, reduceSub, na, ca, nbk, mc, ml]; apply t0; exact sA rfl
 dsimp only [reduceAdd, reduceMul]; exact dn; exact rfl; refine inBlk_n ?_; refine thn_n ?_; apply Gol.region
 apply t0; exact sM rfl; apply t0; exact s_addn rfl rfl (by simp <;> omega); apply t0; exact sA rfl; dsimp only [reduceAdd, reduceMul]
 exact dn; exact rfl)
    refine rnd_n (j + 1) (by omega) (by omega) ?_
    rw [hN, List.length_append, List.length_singleton]
    (
 apply Le.mk3' [(199, 304)]; apply RnT3.c; exact rfl; apply Rn3.r; exact Rn.v rfl; apply RnT3.c; exact rfl; apply Rn3.r; exact Rn.sl rfl rfl; apply RnT3.c
 exact rfl; apply Rn3.r; exact Rn.pt rfl rfl; exact RnT3.n; apply RnH3.c; exact rfl; exact rfl; apply RnC.cl; exact grow_eq2; exact inferInstance; exact rfl
 exact rfl; apply RnH3.c; exact rfl; exact rfl; apply RnC.cl; rfl; exact inferInstance; exact rfl; exact rfl; exact RnH3.n; exact rfl; exact rfl)
  have hge1 : ¬ j < s.cells.length := of_decide_eq_false h
  obtain rfl : j = s.cells.length := by omega
  (
 refine Gol.exit ?_; refine thn_x ?_; refine rnd_x ?_; refine inBlk_hit ?_; refine thn_n ?_
 refine Gol.seq ?_; apply Gol.sr; apply t0; exact sA rfl; dsimp only [reduceAdd, reduceMul]; exact dn; exact rfl; refine Gol.block ?_)
  refine Gol.loop (ι := Nat) (fun j => j ≤ s.seqs.length) (fun j => s.seqs.length - j) 200 (fun j => [(199, some ⟨byA (flat (lv2 S s j)), 23, 8⟩), (0, some ⟨[.ex s.cells.length false (dsA s.cells), .ex s.seqs.length false (inA s.seqs), .ex s.locks.length false (lsA s.locks), .ex s.applied.length false (byA (flat s.applied)), .v (.int .i64 s.guilty)], 31, 5⟩)]) (fun j => [(5, .v (.int .i64 (j : Int))), (3, .sl 199 (lv2 S s j).length), (1, .pt 0 0)]) 0 (Nat.zero_le _) ?_ ?_
  · rw [show lv2 S s 0 = lv1 S s s.cells.length by simp [lv2]]
    (
 apply Le.mk3' []; apply RnT3.c; exact rfl; apply Rn3.r; exact Rn.v rfl; apply RnT3.c; exact rfl; apply Rn3.r; exact Rn.sl rfl rfl; apply RnT3.c; exact rfl
 apply Rn3.r; exact Rn.pt rfl rfl; exact RnT3.n; apply RnH3.c; exact rfl; exact rfl; apply RnC.cl; rfl; exact inferInstance; exact rfl; exact rfl; apply RnH3.c
 exact rfl; exact rfl; apply RnC.cl; rfl; exact inferInstance; exact rfl; exact rfl; exact RnH3.n; exact rfl; exact rfl)
  intro j hj
  have hLj := lv2_len S s j
  (
 refine Gol.seq ?_; apply Gol.sr; apply t0; exact sM rfl; apply t0; exact sF rfl; apply t0; exact s_load rfl rfl rfl; apply t0
 exact s_len rfl ln_ex; apply t0; exact s_ltn rfl rfl; dsimp only [reduceAdd, reduceMul]; exact dn; exact rfl)
  refine Gol.cond rfl (fun h => ?_) (fun h => ?_)
  · have hlt : j < s.seqs.length := of_decide_eq_true h
    have hne : inA s.seqs ≠ [] := fun e => by have := inA_length s.seqs; rw [e] at this; simp at this; omega
    have hN := lv2_next S (s := s) (j := j)
    have e : [] ++ beB (toU64 (j : Int)) 1 ++ beB (toU64 (s.seqs.getD j 0)) 1 = [toU8 (j : Int), toU8 (s.seqs.getD j 0)] := by rw [byte1, byte1]; rfl
    have n1 := (refNum_ok [] (j : Int) 1 0 false (by decide) rfl (by decide)).sub sub_nil
    have n2 := fun f => refNum_ok ([] ++ beB (toU64 (j : Int)) 1) (s.seqs.getD j 0) 1 1 f (by decide) (by simp [beB_length]) (by decide)
    rw [e] at n2
    (
 refine Gol.skip ?_; refine thn_n ?_; refine Gol.seq ?_; refine Gol.block ?_; apply Gol.any
 kernel_rfl; apply t0; exact sM rfl; apply t0; exact sM rfl; apply tq; exact s_call (f := 109) rfl (eC rfl (eC rfl (eC rfl eN))) (aC aL (aC aL (aC aL aN))) n1 (lb rfl)
 dsimp only [reduceAdd, reduceMul, reduceSub, na, ca, nbk, mc, ml]; apply t0; exact sF rfl
 apply t0; exact s_load rfl rfl rfl; apply t0; exact sM rfl; apply t0; exact s_ixe rfl rfl (by omega) (by assumption); apply t0; exact s_loadE rfl (in_get0 (by assumption))
 apply tq; exact s_call (f := 109) rfl (eC rfl (eC rfl (eC rfl eN))) (aC (arg_sl rfl) (aC aL (aC aL aN))) (n2 _) (lb rfl)
 dsimp only [reduceAdd, reduceMul, reduceSub, na, ca, nbk, mc, ml]; apply tq; exact s_call (f := 72) rfl (eC rfl (eC rfl eN)) (aC aL (aC (arg_sl rfl) aN)) (hS.refTagged 0x53 [toU8 (j : Int), toU8 (s.seqs.getD j 0)] 2 _ rfl (by decide)) (lb rfl)
 dsimp only [reduceAdd, reduceMul, reduceSub, na, ca, nbk, mc, ml]; apply t1; exact s_lit (PA.cons rfl rfl rfl PA.nil) rfl (by first | omega | exact lb rfl | decide | (simp <;> omega) | (dsimp <;> omega))
 apply tq; exact s_app rfl rfl rfl (rd_sl rfl rfl) (by simp only [byA_length, List.length_append, List.length_cons, List.length_nil, List.length_take, List.length_drop, List.length_replicate, List.length_map, Nat.mul_one, nameB_length, flat_length, List.length_set, inA_length, dsA_length, lsA_length, dA_length, lA_length] <;> omega) rfl rfl rfl (by omega)
 dsimp only [reduceAdd, reduceMul, reduceSub, na, ca, nbk, mc, ml]; apply t0; exact sA rfl
 dsimp only [reduceAdd, reduceMul]; exact dn; kernel_rfl; exact rfl; refine inBlk_n ?_; refine thn_n ?_; apply Gol.region
 apply t0; exact sM rfl; apply t0; exact s_addn rfl rfl (by simp <;> omega); apply t0; exact sA rfl; dsimp only [reduceAdd, reduceMul]
 exact dn; exact rfl)
    refine rnd_n (j + 1) (by omega) (by omega) ?_
    rw [hN, List.length_append, List.length_singleton]
    (
 apply Le.mk3' [(199, 328)]; apply RnT3.c; exact rfl; apply Rn3.r; exact Rn.v rfl; apply RnT3.c; exact rfl; apply Rn3.r; exact Rn.sl rfl rfl; apply RnT3.c
 exact rfl; apply Rn3.r; exact Rn.pt rfl rfl; exact RnT3.n; apply RnH3.c; exact rfl; exact rfl; apply RnC.cl; exact grow_eq2; exact inferInstance; exact rfl
 exact rfl; apply RnH3.c; exact rfl; exact rfl; apply RnC.cl; rfl; exact inferInstance; exact rfl; exact rfl; exact RnH3.n; exact rfl; exact rfl)
  have hge2 : ¬ j < s.seqs.length := of_decide_eq_false h
  obtain rfl : j = s.seqs.length := by omega
  (
 refine Gol.exit ?_; refine thn_x ?_; refine rnd_x ?_; refine inBlk_hit ?_; refine thn_n ?_
 refine Gol.seq ?_; apply Gol.sr; apply t0; exact sA rfl; dsimp only [reduceAdd, reduceMul]; exact dn; exact rfl; refine Gol.block ?_)
  refine Gol.loop (ι := Nat) (fun j => j ≤ s.locks.length) (fun j => s.locks.length - j) 200 (fun j => [(199, some ⟨byA (flat (lv3 S s j)), 23, 8⟩), (0, some ⟨[.ex s.cells.length false (dsA s.cells), .ex s.seqs.length false (inA s.seqs), .ex s.locks.length false (lsA s.locks), .ex s.applied.length false (byA (flat s.applied)), .v (.int .i64 s.guilty)], 31, 5⟩)]) (fun j => [(6, .v (.int .i64 (j : Int))), (3, .sl 199 (lv3 S s j).length), (1, .pt 0 0)]) 0 (Nat.zero_le _) ?_ ?_
  · rw [show lv3 S s 0 = lv2 S s s.seqs.length by simp [lv3]]
    (
 apply Le.mk3' []; apply RnT3.c; exact rfl; apply Rn3.r; exact Rn.v rfl; apply RnT3.c; exact rfl; apply Rn3.r; exact Rn.sl rfl rfl; apply RnT3.c; exact rfl
 apply Rn3.r; exact Rn.pt rfl rfl; exact RnT3.n; apply RnH3.c; exact rfl; exact rfl; apply RnC.cl; rfl; exact inferInstance; exact rfl; exact rfl; apply RnH3.c
 exact rfl; exact rfl; apply RnC.cl; rfl; exact inferInstance; exact rfl; exact rfl; exact RnH3.n; exact rfl; exact rfl)
  intro j hj
  have hLj := lv3_len S s j
  (
 refine Gol.seq ?_; apply Gol.sr; apply t0; exact sM rfl; apply t0; exact sF rfl; apply t0; exact s_load rfl rfl rfl; apply t0
 exact s_len rfl ln_ex; apply t0; exact s_ltn rfl rfl; dsimp only [reduceAdd, reduceMul]; exact dn; exact rfl)
  refine Gol.cond rfl (fun h => ?_) (fun h => ?_)
  · have hlt : j < s.locks.length := of_decide_eq_true h
    obtain ⟨d, hd⟩ : ∃ d, s.locks[j]? = some d := ⟨s.locks[j], List.getElem?_eq_getElem hlt⟩
    have hN := lv3_next S hd
    have e : [] ++ nameB d.n ++ nameB d.h ++ beB (toU64 d.o) 1 ++ beB (toU64 d.t) 1 ++ beB (toU64 d.u) 2 = bytL d := by rw [byte1, byte1]; simp [bytL]
    have n1 := (refName_ok [] d.n 0 false rfl (by decide)).sub sub_nil
    have n2 := fun f => refName_ok ([] ++ nameB d.n) d.h 8 f rfl (by decide)
    have n3 := fun f => refNum_ok ([] ++ nameB d.n ++ nameB d.h) d.o 1 16 f (by decide) rfl (by decide)
    have n4 := fun f => refNum_ok ([] ++ nameB d.n ++ nameB d.h ++ beB (toU64 d.o) 1) d.t 1 17 f (by decide) (by simp [beB_length, nameB_length]) (by decide)
    have n5 := fun f => refNum_ok ([] ++ nameB d.n ++ nameB d.h ++ beB (toU64 d.o) 1 ++ beB (toU64 d.t) 1) d.u 2 18 f (by decide) (by simp [beB_length, nameB_length]) (by decide)
    have n6 := fun f => hS.refTagged 0x54 (bytL d) 20 f (by simp [bytL, nameB_length, beB_length]) (by decide)
    rw [e] at n5
    (
 refine Gol.skip ?_; refine thn_n ?_; refine Gol.seq ?_; refine Gol.block ?_; apply Gol.sr
 apply t0; exact sF rfl; apply t0; exact s_load rfl rfl rfl; apply t0; exact sM rfl; apply t0; exact s_ixe rfl rfl (by omega) (ls_ne (by omega))
 apply t0; exact s_loadEN rfl (by simp only [byA_length, List.length_append, List.length_cons, List.length_nil, List.length_take, List.length_drop, List.length_replicate, List.length_map, Nat.mul_one, nameB_length, flat_length, List.length_set, inA_length, dsA_length, lsA_length, dA_length, lA_length] <;> omega) (agu_l (by assumption))
 apply t1; exact s_alloc; apply YtneeclacmhhblaaGreat.n1; exact s_storeW rfl rfl rfl rfl rfl rfl; dsimp only [reduceAdd, reduceMul]; exact dn; exact rfl; apply Gol.any
 kernel_rfl; apply t0; exact sM rfl; apply t0; exact sF rfl; apply t0; exact s_loadN rfl rfl (lb rfl) (agu_nm8 rfl); apply tq
 exact s_call (f := 110) rfl (eC rfl (eC rfl eN)) (aC aL (aC aL aN)) n1 (lb rfl)
 dsimp only [reduceAdd, reduceMul, reduceSub, na, ca, nbk, mc, ml]; apply t0; exact sF rfl
 apply t0; exact s_loadN rfl rfl (lb rfl) (agu_nm8 rfl); apply tq; exact s_call (f := 110) rfl (eC rfl (eC rfl eN)) (aC (arg_sl rfl) (aC aL aN)) (n2 _) (lb rfl)
 dsimp only [reduceAdd, reduceMul, reduceSub, na, ca, nbk, mc, ml]; apply t0; exact sF rfl
 apply t0; exact s_load rfl rfl rfl; apply tq; exact s_call (f := 109) rfl (eC rfl (eC rfl (eC rfl eN))) (aC (arg_sl rfl) (aC aL (aC aL aN))) (n3 _) (lb rfl)
 dsimp only [reduceAdd, reduceMul, reduceSub, na, ca, nbk, mc, ml]; apply t0; exact sF rfl
 apply t0; exact s_load rfl rfl rfl; apply tq; exact s_call (f := 109) rfl (eC rfl (eC rfl (eC rfl eN))) (aC (arg_sl rfl) (aC aL (aC aL aN))) (n4 _) (lb rfl)
 dsimp only [reduceAdd, reduceMul, reduceSub, na, ca, nbk, mc, ml]; apply t0; exact sF rfl
 apply t0; exact s_load rfl rfl rfl; apply tq; exact s_call (f := 109) rfl (eC rfl (eC rfl (eC rfl eN))) (aC (arg_sl rfl) (aC aL (aC aL aN))) (n5 _) (lb rfl)
 dsimp only [reduceAdd, reduceMul, reduceSub, na, ca, nbk, mc, ml]; apply tq; exact s_call (f := 72) rfl (eC rfl (eC rfl eN)) (aC aL (aC (arg_sl rfl) aN)) (n6 _) (lb rfl)
 dsimp only [reduceAdd, reduceMul, reduceSub, na, ca, nbk, mc, ml]; apply t1; exact s_lit (PA.cons rfl rfl rfl PA.nil) rfl (by first | omega | exact lb rfl | decide | (simp <;> omega) | (dsimp <;> omega))
 apply tq; exact s_app rfl rfl rfl (rd_sl rfl rfl) (by simp only [byA_length, List.length_append, List.length_cons, List.length_nil, List.length_take, List.length_drop, List.length_replicate, List.length_map, Nat.mul_one, nameB_length, flat_length, List.length_set, inA_length, dsA_length, lsA_length, dA_length, lA_length] <;> omega) rfl rfl rfl (by omega)
 dsimp only [reduceAdd, reduceMul, reduceSub, na, ca, nbk, mc, ml]; apply t0; exact sA rfl
 dsimp only [reduceAdd, reduceMul]; exact dn; kernel_rfl; exact rfl; refine inBlk_n ?_; refine thn_n ?_; apply Gol.region
 apply t0; exact sM rfl; apply t0; exact s_addn rfl rfl (by simp <;> omega); apply t0; exact sA rfl; dsimp only [reduceAdd, reduceMul]
 exact dn; exact rfl)
    refine rnd_n (j + 1) (by omega) (by omega) ?_
    rw [hN, List.length_append, List.length_singleton]
    (
 apply Le.mk3' [(199, 440)]; apply RnT3.c; exact rfl; apply Rn3.r; exact Rn.v rfl; apply RnT3.c; exact rfl; apply Rn3.r; exact Rn.sl rfl rfl; apply RnT3.c
 exact rfl; apply Rn3.r; exact Rn.pt rfl rfl; exact RnT3.n; apply RnH3.c; exact rfl; exact rfl; apply RnC.cl; exact grow_eq2; exact inferInstance; exact rfl
 exact rfl; apply RnH3.c; exact rfl; exact rfl; apply RnC.cl; rfl; exact inferInstance; exact rfl; exact rfl; exact RnH3.n; exact rfl; exact rfl)
  have hge3 : ¬ j < s.locks.length := of_decide_eq_false h
  obtain rfl : j = s.locks.length := by omega
  (
 refine Gol.exit ?_; refine thn_x ?_; refine rnd_x ?_; refine inBlk_hit ?_; refine thn_n ?_
 refine Gol.seq ?_; apply Gol.sr; apply t0; exact sA rfl; dsimp only [reduceAdd, reduceMul]; exact dn; exact rfl; refine Gol.block ?_)
  refine Gol.loop (ι := Nat) (fun j => j ≤ s.applied.length) (fun j => s.applied.length - j) 200 (fun j => [(199, some ⟨byA (flat (lv4 S s j)), 23, 8⟩), (0, some ⟨[.ex s.cells.length false (dsA s.cells), .ex s.seqs.length false (inA s.seqs), .ex s.locks.length false (lsA s.locks), .ex s.applied.length false (byA (flat s.applied)), .v (.int .i64 s.guilty)], 31, 5⟩)]) (fun j => [(8, .v (.int .i64 (j : Int))), (3, .sl 199 (lv4 S s j).length), (1, .pt 0 0)]) 0 (Nat.zero_le _) ?_ ?_
  · rw [show lv4 S s 0 = lv3 S s s.locks.length by simp [lv4]]
    (
 apply Le.mk3' []; apply RnT3.c; exact rfl; apply Rn3.r; exact Rn.v rfl; apply RnT3.c; exact rfl; apply Rn3.r; exact Rn.sl rfl rfl; apply RnT3.c; exact rfl
 apply Rn3.r; exact Rn.pt rfl rfl; exact RnT3.n; apply RnH3.c; exact rfl; exact rfl; apply RnC.cl; rfl; exact inferInstance; exact rfl; exact rfl; apply RnH3.c
 exact rfl; exact rfl; apply RnC.cl; rfl; exact inferInstance; exact rfl; exact rfl; exact RnH3.n; exact rfl; exact rfl)
  intro j hj
  have hLj := lv4_len S s j
  (
 refine Gol.seq ?_; apply Gol.sr; apply t0; exact sM rfl; apply t0; exact sF rfl; apply t0; exact s_load rfl rfl rfl; apply t0
 exact s_len rfl ln_ex; apply t0; exact s_ltn rfl rfl; dsimp only [reduceAdd, reduceMul]; exact dn; exact rfl)
  refine Gol.cond rfl (fun h => ?_) (fun h => ?_)
  · have hlt : j < s.applied.length := of_decide_eq_true h
    have hd : s.applied[j]? = some (s.applied.getD j 0) := by rw [List.getD_eq_getElem?_getD, List.getElem?_eq_getElem hlt]; rfl
    have hN := lv4_next S hd
    (
 refine Gol.skip ?_; refine thn_n ?_; refine Gol.seq ?_; refine Gol.block ?_; apply Gol.region
 apply t0; exact sM rfl; apply t0; exact sF rfl; apply t0; exact s_load rfl rfl rfl; apply t0; exact sM rfl; apply t0; exact s_ixe rfl rfl (by omega) (flat_ne (by omega))
 apply t0; exact s_loadEN rfl (by simp only [byA_length, List.length_append, List.length_cons, List.length_nil, List.length_take, List.length_drop, List.length_replicate, List.length_map, Nat.mul_one, nameB_length, flat_length, List.length_set, inA_length, dsA_length, lsA_length, dA_length, lA_length] <;> omega) (agu_nm (by omega))
 apply tq; exact s_call (f := 111) rfl (eC rfl eN) (aC aL aN) (refAppliedLeaf_ok S hS _) (lb rfl)
 dsimp only [reduceAdd, reduceMul, reduceSub, na, ca, nbk, mc, ml]; apply t1; exact s_lit (PA.cons rfl rfl rfl PA.nil) rfl (by first | omega | exact lb rfl | decide | (simp <;> omega) | (dsimp <;> omega))
 apply tq; exact s_app rfl rfl rfl (rd_sl rfl rfl) (by simp only [byA_length, List.length_append, List.length_cons, List.length_nil, List.length_take, List.length_drop, List.length_replicate, List.length_map, Nat.mul_one, nameB_length, flat_length, List.length_set, inA_length, dsA_length, lsA_length, dA_length, lA_length] <;> omega) rfl rfl rfl (by omega)
 dsimp only [reduceAdd, reduceMul, reduceSub, na, ca, nbk, mc, ml]; apply t0; exact sA rfl
 dsimp only [reduceAdd, reduceMul]; exact dn; exact rfl; refine inBlk_n ?_; refine thn_n ?_; apply Gol.region
 apply t0; exact sM rfl; apply t0; exact s_addn rfl rfl (by simp <;> omega); apply t0; exact sA rfl; dsimp only [reduceAdd, reduceMul]
 exact dn; exact rfl)
    refine rnd_n (j + 1) (by omega) (by omega) ?_
    rw [hN, List.length_append, List.length_singleton]
    (
 apply Le.mk3' [(199, 304)]; apply RnT3.c; exact rfl; apply Rn3.r; exact Rn.v rfl; apply RnT3.c; exact rfl; apply Rn3.r; exact Rn.sl rfl rfl; apply RnT3.c
 exact rfl; apply Rn3.r; exact Rn.pt rfl rfl; exact RnT3.n; apply RnH3.c; exact rfl; exact rfl; apply RnC.cl; exact grow_eq2; exact inferInstance; exact rfl
 exact rfl; apply RnH3.c; exact rfl; exact rfl; apply RnC.cl; rfl; exact inferInstance; exact rfl; exact rfl; exact RnH3.n; exact rfl; exact rfl)
  have hge4 : ¬ j < s.applied.length := of_decide_eq_false h
  obtain rfl : j = s.applied.length := by omega
  (
 refine Gol.exit ?_; refine thn_x ?_; refine rnd_x ?_; refine inBlk_hit ?_; refine thn_n ?_
 apply Gol.sr; apply t0; exact sM rfl; apply t0; exact sF rfl; apply t0; exact s_load rfl rfl rfl; apply tq; exact s_call (f := 109) rfl (eC rfl (eC rfl (eC rfl eN))) (aC aL (aC aL (aC aL aN))) ((refNum_ok [] s.guilty 2 0 false (by decide) rfl (by decide)).sub sub_nil) (lb rfl)
 dsimp only [reduceAdd, reduceMul, reduceSub, na, ca, nbk, mc, ml]; apply tq; exact s_call (f := 72) rfl (eC rfl (eC rfl eN)) (aC aL (aC (arg_sl rfl) aN)) (hS.refTagged 0x56 (beB (toU64 s.guilty) 2) 2 _ (beB_length _ _) (by decide)) (lb rfl)
 dsimp only [reduceAdd, reduceMul, reduceSub, na, ca, nbk, mc, ml]; apply t1; exact s_lit (PA.cons rfl rfl rfl PA.nil) rfl (by first | omega | exact lb rfl | decide | (simp <;> omega) | (dsimp <;> omega))
 apply tq; exact s_app rfl rfl rfl (rd_sl rfl rfl) (by simp only [byA_length, List.length_append, List.length_cons, List.length_nil, List.length_take, List.length_drop, List.length_replicate, List.length_map, Nat.mul_one, nameB_length, flat_length, List.length_set, inA_length, dsA_length, lsA_length, dA_length, lA_length] <;> omega) rfl rfl rfl (by omega)
 dsimp only [reduceAdd, reduceMul, reduceSub, na, ca, nbk, mc, ml]; apply t0; exact sA rfl
 dsimp only [reduceAdd, reduceMul]; exact dn; exact rfl; refine Gol.ret ?_)
  rw [grow_eq2, show (lv4 S s s.applied.length).length + 1 = (leavesN S s).length by simp [leavesN]]
  (apply RetQ.mk (by first | exact .inr rfl | exact .inl rfl); apply res_1 rfl; exact res_tmp rfl; exact out_sl rfl)
theorem refRootS_ok (s : Stt) (hs : Sm s) : Fresh Tryz.prog 37 [stA s] (fun _ => .v (.agg (nameC (rootN S (leavesN S s))))) [] := by
  have hl := refLeaves_ok S hS s hs
  have hn := leavesN_len S s
  obtain ⟨h1, h2, h3, h4⟩ := hs
  unfold stA at hl ⊢
  refine Fresh.of (fn := Tryz.f37) Tryz.func37 rfl (lb rfl) fun w => ?_
  (
 apply Gol.sr; apply t1; exact s_box rfl rfl; apply t1; exact s_alloc; dsimp only [reduceAdd, reduceMul]; exact dn; exact rfl; apply Gol.sr; apply t0
 exact s_loadW rfl rfl rfl (agu_cua _); apply tq; exact s_call (f := 74) rfl (eC rfl eN) (aC aL aN) hl (lb rfl)
 dsimp only [reduceAdd, reduceMul, reduceSub, na, ca, nbk, mc, ml]; apply tq; exact s_call (f := 73) rfl (eC rfl eN) (aC (arg_sl rfl) aN) (refRoot_ok S hS _ _ _ rfl (by omega)) (lb rfl)
 dsimp only [reduceAdd, reduceMul, reduceSub, na, ca, nbk, mc, ml]; apply n1; exact s_storeW rfl rfl rfl rfl rfl rfl
 dsimp only [reduceAdd, reduceMul]; exact dn; exact rfl; refine Gol.ret ?_)
  (apply RetQ.mk (by first | exact .inr rfl | exact .inl rfl); apply res_1 rfl; exact res_cell rfl rfl rfl (agu_cuv _); exact out_val)
omit hS in
omit hS in
end
end Go.Proofs.YtneeclacmhhblaaGreat


namespace Go.Proofs.YtneeclacmhhblaaGreat
open Go.RowKit
open Nat (reduceAdd reduceMul reduceSub)

theorem isV_stuC {v : Stu} {cs : List AV} (h : cs = (stuC v).toList.map .v) : IsV (.ag cs) (veS v) := isV_ag h
section
variable (S : List UInt8 → UInt64)
def valN (x : It) : UInt64 := S (0x57 :: (nameB x.n ++ nameB (rootN S (leavesN S x.st))))
def cmOf (l : List It) (x : It) : Int := if x.k = 3 then (match itOf l x.p with | some p => p.cm | none => 0) else x.cm
noncomputable def stuN (l : List It) (vs : List Vt) (x : It) : Stu :=
  if x.k = 1 then ⟨cmOf l x, andI (cmOf l x) 1023, andI (cmOf l x) 1023, true⟩
  else ⟨cmOf l x, if x.k = 3 then andI (cmOf l x) (votN vs ⟨5, x.p, valN S x⟩) else if x.k = 4 then andI (cmOf l x) (votN vs ⟨6, x.n, valN S x⟩) else 0, andI (cmOf l x) (votN vs ⟨7, x.n, valN S x⟩), false⟩
noncomputable def stqN (l : List It) (vs : List Vt) (n : UInt64) : Stu := match itOf l n with | some x => stuN S l vs x | none => ⟨0, 0, 0, false⟩
def okqN (l : List It) (n : UInt64) : Bool := (itOf l n).isSome
def KnOk (l : List It) (vs : List Vt) (K : List (UInt64 × Stu)) : Prop := ∀ n s, alk K n = some s → ∃ x, itOf l n = some x ∧ s = stuN S l vs x
noncomputable def knF (l : List It) (vs : List Vt) (K : List (UInt64 × Stu)) (n : UInt64) : List (UInt64 × Stu) := match alk K n with
  | some _ => K
  | none => match itOf l n with
    | some x => aput K n (stuN S l vs x)
    | none => K
theorem knOk_nil (l : List It) (vs : List Vt) : KnOk S l vs [] := fun n s h => by cases h
theorem knOk_next {l : List It} {vs : List Vt} {K : List (UInt64 × Stu)} (h : KnOk S l vs K) (n : UInt64) : KnOk S l vs (knF S l vs K n) := by
  unfold knF
  cases hk : alk K n with
  | some s => exact h
  | none =>
    cases hx : itOf l n with
    | none => exact h
    | some x =>
      intro m s hm
      simp only [alk_aput] at hm
      by_cases he : m = n
      · rw [if_pos he] at hm; injection hm with hm; subst he; exact ⟨x, hx, hm.symm⟩
      · rw [if_neg he] at hm; exact h m s hm
theorem knF_knF (l : List It) (vs : List Vt) (K : List (UInt64 × Stu)) (n : UInt64) : knF S l vs (knF S l vs K n) n = knF S l vs K n := by
  unfold knF
  cases hk : alk K n with
  | some s => simp [hk]
  | none =>
    cases hx : itOf l n with
    | none => simp [hk, hx]
    | some x => simp [alk_aput]
variable (hS : HashF S)
include hS
theorem value_ok (x : It) (hs : Sm x.st) : Fresh Tryz.prog 10 [.ag (itA x)] (fun _ => .v (.agg (nameC (valN S x)))) [] := by
  unfold valN
  refine Fresh.of (fn := Tryz.f10) Tryz.func10 rfl (lb rfl) fun w => ?_
  (
 apply Gol.sr; apply t1; exact s_box rfl rfl; apply t1; exact s_alloc; dsimp only [reduceAdd, reduceMul]; exact dn; exact rfl; apply Gol.sr; apply t0
 exact sF rfl; apply t0; exact s_loadN rfl rfl (lb rfl) (agu_st rfl); apply tq; exact s_call (f := 34) rfl (eC rfl eN) (aC (arg_ag (aC aL (aC aL (aC aL (aC aL (aC aL aN)))))) aN) (rootS_ok S hS x.st hs) (lb rfl)
 dsimp only [reduceAdd, reduceMul, reduceSub, na, ca, nbk, mc, ml]; apply t1; exact s_alloc
 apply n1; exact s_storeW rfl rfl rfl rfl rfl rfl; dsimp only [reduceAdd, reduceMul]; exact dn; exact rfl; refine Gol.seq ?_; apply Gol.any
 kernel_rfl; apply t0; exact sF rfl; apply t0; exact s_slA rfl rfl rfl rfl (by simp) (by omega) (by omega) (by omega); apply t0; exact s_slA rfl rfl rfl rfl (by simp) (by omega) (by omega) (by omega)
 apply tq; exact s_appFull rfl fl_sb (rd_sb rfl (lb rfl)) rfl (rd_name rfl rfl) (by omega) (by omega); dsimp only [reduceAdd, reduceMul, reduceSub, na, ca, nbk, mc, ml]
 apply tq; exact s_call (f := 35) rfl (eC rfl (eC rfl eN)) (aC aL (aC (arg_sl rfl) aN)) (hS.tagged 0x57 (nameB x.n ++ nameB (rootN S (leavesN S x.st))) 16 _ rfl (by decide)) (lb rfl)
 dsimp only [reduceAdd, reduceMul, reduceSub, na, ca, nbk, mc, ml]; apply n1; exact s_storeW rfl rfl rfl rfl rfl rfl
 dsimp only [reduceAdd, reduceMul]; exact dn; kernel_rfl; exact rfl; refine thn_n ?_; refine Gol.ret ?_)
  (apply RetQ.mk (by first | exact .inr rfl | exact .inl rfl); apply res_1 rfl; exact res_cell rfl rfl rfl (agu_cuv _); exact out_val)
theorem refValueOf_ok (n r : UInt64) : Fresh Tryz.prog 36 [.v (.agg (nameC n)), .v (.agg (nameC r))] (fun _ => .v (.agg (nameC (S (0x57 :: (nameB n ++ nameB r)))))) [] := by
  refine Fresh.of (fn := Tryz.f36) Tryz.func36 rfl (lb rfl) fun w => ?_
  (
 apply Gol.sr; apply t1; exact s_box rfl rfl; apply t1; exact s_box rfl rfl; apply t1; exact s_alloc; dsimp only [reduceAdd, reduceMul]; exact dn
 exact rfl; refine Gol.seq ?_; apply Gol.any; kernel_rfl; apply tq; exact s_bytesP PV.nil rfl (by omega); dsimp only [reduceAdd, reduceMul, reduceSub, na, ca, nbk, mc, ml]
 apply t0; exact s_slA rfl rfl rfl rfl (by simp) (by omega) (by omega) (by omega); apply tq; exact s_app rfl rfl rfl (rd_name rfl rfl) rfl rfl rfl OneL.one (by omega)
 dsimp only [reduceAdd, reduceMul, reduceSub, na, ca, nbk, mc, ml]; apply t0; exact s_slA rfl rfl rfl rfl (by simp) (by omega) (by omega) (by omega)
 apply tq; exact s_app rfl rfl rfl (rd_name rfl rfl) rfl rfl rfl OneL.one (by omega); dsimp only [reduceAdd, reduceMul, reduceSub, na, ca, nbk, mc, ml]
 apply tq; exact s_call (f := 72) rfl (eC rfl (eC rfl eN)) (aC aL (aC (arg_sl rfl) aN)) (hS.refTagged 0x57 (nameB n ++ nameB r) 16 _ rfl (by decide)) (lb rfl)
 dsimp only [reduceAdd, reduceMul, reduceSub, na, ca, nbk, mc, ml]; apply n1; exact s_storeW rfl rfl rfl rfl rfl rfl
 dsimp only [reduceAdd, reduceMul]; exact dn; kernel_rfl; exact rfl; refine thn_n ?_; refine Gol.ret ?_)
  (apply RetQ.mk (by first | exact .inr rfl | exact .inl rfl); apply res_1 rfl; exact res_cell rfl rfl rfl (agu_cuv _); exact out_val)
theorem refValue_ok (x : It) (hs : Sm x.st) : Fresh Tryz.prog 11 [.ag (itA x)] (fun _ => .v (.agg (nameC (valN S x)))) [] := by
  have hr := refRootS_ok S hS x.st hs
  have hv := refValueOf_ok S hS x.n (rootN S (leavesN S x.st))
  refine Fresh.of (fn := Tryz.f11) Tryz.func11 rfl (lb rfl) fun w => ?_
  (
 apply Gol.sr; apply t1; exact s_box rfl rfl; apply t1; exact s_alloc; dsimp only [reduceAdd, reduceMul]; exact dn; exact rfl; refine Gol.seq ?_
 apply Gol.any; kernel_rfl; apply t0; exact sF rfl; apply t0; exact s_loadN rfl rfl (lb rfl) (agu_nm8 rfl)
 apply t0; exact sF rfl; apply t0; exact s_loadN rfl rfl (lb rfl) (agu_st rfl); apply tq; exact s_call (f := 37) rfl (eC rfl eN) (aC (arg_ag (aC aL (aC aL (aC aL (aC aL (aC aL aN)))))) aN) hr (lb rfl)
 dsimp only [reduceAdd, reduceMul, reduceSub, na, ca, nbk, mc, ml]; apply tq; exact s_call (f := 36) rfl (eC rfl (eC rfl eN)) (aC aL (aC aL aN)) hv (lb rfl)
 dsimp only [reduceAdd, reduceMul, reduceSub, na, ca, nbk, mc, ml]; apply n1; exact s_storeW rfl rfl rfl rfl rfl rfl
 dsimp only [reduceAdd, reduceMul]; exact dn; kernel_rfl; exact rfl; refine thn_n ?_; refine Gol.ret ?_)
  (apply RetQ.mk (by first | exact .inr rfl | exact .inl rfl); apply res_1 rfl; exact res_cell rfl rfl rfl (agu_cuv _); exact out_val)
omit hS in
set_option maxHeartbeats 1600000 in
theorem members_ok (l : List It) (vs : List Vt) (f : Bool) (K : List (UInt64 × Stu)) (x : It) (hl : l.length ≤ 1000000) : Acts Tryz.prog 62 [bookB l vs f, knB K] [.pt 0 0, .ag (itA x)] (.v (.int .i64 (cmOf l x))) [some (bookB l vs f), some (knB K)] := by
  unfold cmOf
  refine Acts.of (fn := Tryz.f62) Tryz.func62 rfl (lb rfl) (lb rfl) fun w bl hid loc => ?_
  (
 apply Gol.sr; apply t1; exact s_box rfl rfl; apply t0; exact sA rfl; dsimp only [reduceAdd, reduceMul]; exact dn; exact rfl; refine Gol.seq ?_
 apply Gol.sr; apply t0; exact sF rfl; apply t0; exact s_load rfl rfl rfl; apply t0; exact s_eq rfl rfl; dsimp only [reduceAdd, reduceMul]
 exact dn; exact rfl)
  refine Gol.cond rfl (fun h => ?_) (fun h => ?_)
  · have h : x.k = 3 := of_decide_eq_true h
    rw [if_pos h]
    cases hp : itOf l x.p with
    | some p =>
      (
 refine Gol.seq ?_; apply Gol.any; kernel_rfl; apply t0; exact sM rfl; apply t0; exact s_nilCheck rfl rfl; apply t0
 exact sF rfl; apply t0; exact s_loadN rfl rfl (lb rfl) (agu_ag _); apply t0; exact sF rfl; apply t0; exact s_loadN rfl rfl (lb rfl) (agu_nm8 rfl)
 dsimp only [reduceAdd, reduceMul, reduceSub, na, ca, nbk, mc, ml]; apply tq; apply s_acts (f := 61) [] rfl inferInstance; exact item_yes l f x.p p hl hp; apply eC rfl; apply eC rfl
 exact eN; exact rfl; exact ABs.nil; dsimp only [List.cons_append, List.nil_append, List.append_nil]; exact RenL.clo; exact rZ
 exact HRen.nil; exact lb rfl; dsimp only [reduceAdd, reduceMul, reduceSub, na, ca, nbk, nones, mc, ml]
 apply t0; exact sM rfl; apply t0; exact s_extract rfl rfl; apply t0; exact s_extract rfl rfl; apply t1; exact s_alloc; apply n1; exact s_storeW rfl rfl rfl rfl rfl rfl
 apply t0; exact sA rfl; dsimp only [reduceAdd, reduceMul]; exact dn; kernel_rfl; exact rfl; refine thn_n ?_; refine Gol.seq ?_
 apply Gol.sr; apply t0; exact sM rfl; apply t0; exact s_not rfl; dsimp only [reduceAdd, reduceMul]; exact dn; exact rfl)
      refine Gol.cond_f rfl rfl ?_
      (
 refine Gol.skip ?_; refine thn_n ?_; apply Gol.sr; apply t0; exact sF rfl; apply t0; exact s_load rfl rfl rfl
 apply t0; exact sA rfl; dsimp only [reduceAdd, reduceMul]; exact dn; exact rfl; refine Gol.ret ?_; refine thn_r ?_)
      (
 apply RetA.mk [0, 1] (by first | exact .inr rfl | exact .inl rfl); apply res_1 rfl; exact res_tmp rfl; exact rfl; exact rfl; exact rfl; apply OAs.kept
 exact rfl; exact rfl; exact rfl; apply rK; apply rK; apply rK
 apply rK; apply RenL.cons; apply Ren.mp; exact IdR.mk rfl; exact RenL.nil; apply OAs.kept; exact rfl; exact rfl; exact rfl
 exact RenL.clo; exact OAs.nil; exact rZ)
    | none =>
      (
 refine Gol.seq ?_; apply Gol.any; kernel_rfl; apply t0; exact sM rfl; apply t0; exact s_nilCheck rfl rfl; apply t0
 exact sF rfl; apply t0; exact s_loadN rfl rfl (lb rfl) (agu_ag _); apply t0; exact sF rfl; apply t0; exact s_loadN rfl rfl (lb rfl) (agu_nm8 rfl)
 dsimp only [reduceAdd, reduceMul, reduceSub, na, ca, nbk, mc, ml]; apply tq; apply s_acts (f := 61) [] rfl inferInstance; exact item_no l f x.p hl hp; apply eC rfl; apply eC rfl
 exact eN; exact rfl; exact ABs.nil; dsimp only [List.cons_append, List.nil_append, List.append_nil]; exact RenL.clo; exact rZ
 exact HRen.nil; exact lb rfl; dsimp only [reduceAdd, reduceMul, reduceSub, na, ca, nbk, nones, mc, ml]
 apply t0; exact sM rfl; apply t0; exact s_extract rfl rfl; apply t0; exact s_extract rfl rfl; apply t1; exact s_alloc; apply n1; exact s_storeW rfl rfl rfl rfl rfl rfl
 apply t0; exact sA rfl; dsimp only [reduceAdd, reduceMul]; exact dn; kernel_rfl; exact rfl; refine thn_n ?_; refine Gol.seq ?_
 apply Gol.sr; apply t0; exact sM rfl; apply t0; exact s_not rfl; dsimp only [reduceAdd, reduceMul]; exact dn; exact rfl)
      refine Gol.cond_t rfl rfl ?_
      (
 apply Gol.sr; apply t0; exact sA rfl; dsimp only [reduceAdd, reduceMul]; exact dn; exact rfl; refine Gol.ret ?_; refine thn_r ?_
 refine thn_r ?_)
      (
 apply RetA.mk [0, 1] (by first | exact .inr rfl | exact .inl rfl); apply res_1 rfl; exact res_tmp rfl; exact rfl; exact rfl; exact rfl; apply OAs.kept
 exact rfl; exact rfl; exact rfl; apply rK; apply rK; apply rK
 apply rK; apply RenL.cons; apply Ren.mp; exact IdR.mk rfl; exact RenL.nil; apply OAs.kept; exact rfl; exact rfl; exact rfl
 exact RenL.clo; exact OAs.nil; exact rZ)
  · have h : ¬ x.k = 3 := of_decide_eq_false h
    rw [if_neg h]
    (
 refine Gol.skip ?_; refine thn_n ?_; apply Gol.sr; apply t0; exact sF rfl; apply t0; exact s_load rfl rfl rfl
 apply t0; exact sA rfl; dsimp only [reduceAdd, reduceMul]; exact dn; exact rfl; refine Gol.ret ?_)
    (
 apply RetA.mk [0, 1] (by first | exact .inr rfl | exact .inl rfl); apply res_1 rfl; exact res_tmp rfl; exact rfl; exact rfl; exact rfl; apply OAs.kept
 exact rfl; exact rfl; exact rfl; apply rK; apply rK; apply rK
 apply rK; apply RenL.cons; apply Ren.mp; exact IdR.mk rfl; exact RenL.nil; apply OAs.kept; exact rfl; exact rfl; exact rfl
 exact RenL.clo; exact OAs.nil; exact rZ)
set_option maxHeartbeats 3200000 in
theorem status_ok (l : List It) (vs : List Vt) (f : Bool) (K : List (UInt64 × Stu)) (n : UInt64) (hl : l.length ≤ 1000000) (hsm : ∀ x ∈ l, Sm x.st) (hK : KnOk S l vs K) :
    Acts Tryz.prog 92 [bookB l vs f, knB K] [.pt 0 0, .v (.agg (nameC n))] (.tp [.v (.agg (stuC (stqN S l vs n))), .v (.bool (okqN l n))]) [some (bookB l vs f), some (knB (knF S l vs K n))] := by
  cases hk : alk K n with
  | some s =>
    obtain ⟨x, hx, hs⟩ := hK n s hk
    have e1 : stqN S l vs n = s := by unfold stqN; rw [hx]; exact hs.symm
    have e2 : okqN l n = true := by unfold okqN; rw [hx]; rfl
    have e3 : knF S l vs K n = K := by unfold knF; rw [hk]
    rw [e1, e2, e3]
    refine Acts.of (fn := Tryz.f92) Tryz.func92 rfl (lb rfl) (lb rfl) fun w bl hid loc => ?_
    (
 apply Gol.sr; apply t1; exact s_box rfl rfl; apply t1; exact s_alloc; apply t0; exact sA rfl; dsimp only [reduceAdd, reduceMul]; exact dn
 exact rfl; refine Gol.seq ?_; refine Gol.seq ?_; apply Gol.any; kernel_rfl; apply t0; exact sM rfl
 apply t0; exact s_nilCheck rfl rfl; apply t0; exact sF rfl; apply t0; exact s_load rfl rfl rfl; apply t0; exact s_loadW rfl rfl rfl (agu_cuv _)
 apply t0; exact s_lookM2 rfl rfl rfl isV_v inferInstance (lk_some (by assumption)) (lk_is (by assumption)); apply t0; exact sM rfl; apply t0; exact s_extract rfl rfl
 apply t0; exact s_extract rfl rfl; apply t1; exact s_alloc; apply n1; exact s_storeW rfl rfl rfl rfl rfl rfl; apply t0; exact sA rfl; dsimp only [reduceAdd, reduceMul]
 exact dn; kernel_rfl; exact rfl; refine thn_n ?_; apply Gol.sr; apply t0; exact sM rfl; dsimp only [reduceAdd, reduceMul]
 exact dn; exact rfl)
    refine Gol.cond_t rfl rfl ?_
    (
 apply Gol.sr; apply t0; exact s_loadW rfl rfl rfl (agu_cuv _); apply n1; exact s_storeW rfl rfl rfl rfl rfl rfl; apply t0; exact sA rfl; dsimp only [reduceAdd, reduceMul]
 exact dn; exact rfl; refine Gol.ret ?_; refine thn_r ?_)
    (
 apply RetA.mk [0, 1] (by first | exact .inr rfl | exact .inl rfl); apply res_2 rfl; exact res_cell rfl rfl rfl (agu_cuv _); exact res_tmp rfl; exact rfl
 exact rfl; exact rfl; apply OAs.kept; exact rfl; exact rfl; exact rfl; apply rK; apply rK
 apply rK; apply rK; apply RenL.cons; apply Ren.mp; exact IdR.mk rfl; exact RenL.nil
 apply OAs.kept; exact rfl; exact rfl; exact rfl; exact RenL.clo; exact OAs.nil; exact rZ)
  | none =>
    cases hx : itOf l n with
    | none =>
      have e1 : stqN S l vs n = ⟨0, 0, 0, false⟩ := by unfold stqN; rw [hx]
      have e2 : okqN l n = false := by unfold okqN; rw [hx]; rfl
      have e3 : knF S l vs K n = K := by unfold knF; rw [hk, hx]
      rw [e1, e2, e3]
      refine Acts.of (fn := Tryz.f92) Tryz.func92 rfl (lb rfl) (lb rfl) fun w bl hid loc => ?_
      (
 apply Gol.sr; apply t1; exact s_box rfl rfl; apply t1; exact s_alloc; apply t0; exact sA rfl; dsimp only [reduceAdd, reduceMul]; exact dn
 exact rfl; refine Gol.seq ?_; refine Gol.seq ?_; apply Gol.any; kernel_rfl; apply t0; exact sM rfl
 apply t0; exact s_nilCheck rfl rfl; apply t0; exact sF rfl; apply t0; exact s_load rfl rfl rfl; apply t0; exact s_loadW rfl rfl rfl (agu_cuv _)
 apply t0; exact s_lookM2 rfl rfl rfl isV_v inferInstance (lk_none (by assumption)) (lk_isnt (by assumption)); apply t0; exact sM rfl; apply t0; exact s_extract rfl rfl
 apply t0; exact s_extract rfl rfl; apply t1; exact s_alloc; apply n1; exact s_storeW rfl rfl rfl rfl rfl rfl; apply t0; exact sA rfl; dsimp only [reduceAdd, reduceMul]
 exact dn; kernel_rfl; exact rfl; refine thn_n ?_; apply Gol.sr; apply t0; exact sM rfl; dsimp only [reduceAdd, reduceMul]
 exact dn; exact rfl)
      refine Gol.cond_f rfl rfl ?_
      (
 refine Gol.skip ?_; refine thn_n ?_; refine Gol.seq ?_; apply Gol.any; kernel_rfl
 apply t0; exact sM rfl; apply t0; exact s_nilCheck rfl rfl; apply t0; exact sF rfl; apply t0; exact s_loadN rfl rfl (lb rfl) (agu_ag _)
 apply t0; exact s_loadW rfl rfl rfl (agu_cuv _); dsimp only [reduceAdd, reduceMul, reduceSub, na, ca, nbk, mc, ml]
 apply tq; apply s_acts (f := 61) [] rfl inferInstance; exact item_no l f n hl hx; apply eC rfl
 apply eC rfl; exact eN; exact rfl; exact ABs.nil; dsimp only [List.cons_append, List.nil_append, List.append_nil]; exact RenL.clo; exact rZ
 exact HRen.nil; exact lb rfl; dsimp only [reduceAdd, reduceMul, reduceSub, na, ca, nbk, nones, mc, ml]
 apply t0; exact sM rfl; apply t0; exact s_extract rfl rfl; apply t0; exact s_extract rfl rfl; apply t1; exact s_alloc; apply n1; exact s_storeW rfl rfl rfl rfl rfl rfl
 apply t0; exact sA rfl; dsimp only [reduceAdd, reduceMul]; exact dn; kernel_rfl; exact rfl; refine thn_n ?_; refine Gol.seq ?_
 apply Gol.sr; apply t0; exact sM rfl; apply t0; exact s_not rfl; dsimp only [reduceAdd, reduceMul]; exact dn; exact rfl)
      refine Gol.cond_t rfl rfl ?_
      (
 apply Gol.sr; apply t0; exact s_zero; apply n1; exact s_storeW rfl rfl rfl rfl rfl rfl; apply t0; exact sA rfl; dsimp only [reduceAdd, reduceMul]
 exact dn; exact rfl; refine Gol.ret ?_; refine thn_r ?_)
      (
 apply RetA.mk [0, 1] (by first | exact .inr rfl | exact .inl rfl); apply res_2 rfl; exact res_cell rfl rfl rfl (agu_cuv _); exact res_tmp rfl; exact rfl
 exact rfl; exact rfl; apply OAs.kept; exact rfl; exact rfl; exact rfl; apply rK; apply rK
 apply rK; apply rK; apply RenL.cons; apply Ren.mp; exact IdR.mk rfl; exact RenL.nil
 apply OAs.kept; exact rfl; exact rfl; exact rfl; exact RenL.clo; exact OAs.nil; exact rZ)
    | some x =>
      have e1 : stqN S l vs n = stuN S l vs x := by unfold stqN; rw [hx]
      have e2 : okqN l n = true := by unfold okqN; rw [hx]; rfl
      obtain ⟨i, _, hli, hn⟩ := fnd_some hx
      have hsx := hsm x (List.mem_of_getElem? hli)
      have e3 : knF S l vs K n = aput K n (stuN S l vs x) := by unfold knF; rw [hk, hx]
      rw [e1, e2, e3]
      clear e1 e2 e3
      subst hn
      unfold stuN
      refine Acts.of (fn := Tryz.f92) Tryz.func92 rfl (lb rfl) (lb rfl) fun w bl hid loc => ?_
      (
 apply Gol.sr; apply t1; exact s_box rfl rfl; apply t1; exact s_alloc; apply t0; exact sA rfl; dsimp only [reduceAdd, reduceMul]; exact dn
 exact rfl; refine Gol.seq ?_; refine Gol.seq ?_; apply Gol.any; kernel_rfl; apply t0; exact sM rfl
 apply t0; exact s_nilCheck rfl rfl; apply t0; exact sF rfl; apply t0; exact s_load rfl rfl rfl; apply t0; exact s_loadW rfl rfl rfl (agu_cuv _)
 apply t0; exact s_lookM2 rfl rfl rfl isV_v inferInstance (lk_none (by assumption)) (lk_isnt (by assumption)); apply t0; exact sM rfl; apply t0; exact s_extract rfl rfl
 apply t0; exact s_extract rfl rfl; apply t1; exact s_alloc; apply n1; exact s_storeW rfl rfl rfl rfl rfl rfl; apply t0; exact sA rfl; dsimp only [reduceAdd, reduceMul]
 exact dn; kernel_rfl; exact rfl; refine thn_n ?_; apply Gol.sr; apply t0; exact sM rfl; dsimp only [reduceAdd, reduceMul]
 exact dn; exact rfl)
      refine Gol.cond_f rfl rfl ?_
      (
 refine Gol.skip ?_; refine thn_n ?_; refine Gol.seq ?_; apply Gol.any; kernel_rfl
 apply t0; exact sM rfl; apply t0; exact s_nilCheck rfl rfl; apply t0; exact sF rfl; apply t0; exact s_loadN rfl rfl (lb rfl) (agu_ag _)
 apply t0; exact s_loadW rfl rfl rfl (agu_cuv _); dsimp only [reduceAdd, reduceMul, reduceSub, na, ca, nbk, mc, ml]
 apply tq; apply s_acts (f := 61) [] rfl inferInstance; exact item_yes l f x.n x hl hx; apply eC rfl
 apply eC rfl; exact eN; exact rfl; exact ABs.nil; dsimp only [List.cons_append, List.nil_append, List.append_nil]; exact RenL.clo; exact rZ
 exact HRen.nil; exact lb rfl; dsimp only [reduceAdd, reduceMul, reduceSub, na, ca, nbk, nones, mc, ml]
 apply t0; exact sM rfl; apply t0; exact s_extract rfl rfl; apply t0; exact s_extract rfl rfl; apply t1; exact s_alloc; apply n1; exact s_storeW rfl rfl rfl rfl rfl rfl
 apply t0; exact sA rfl; dsimp only [reduceAdd, reduceMul]; exact dn; kernel_rfl; exact rfl; refine thn_n ?_; refine Gol.seq ?_
 apply Gol.sr; apply t0; exact sM rfl; apply t0; exact s_not rfl; dsimp only [reduceAdd, reduceMul]; exact dn; exact rfl)
      refine Gol.cond_f rfl rfl ?_
      (
 refine Gol.skip ?_; refine thn_n ?_; refine Gol.seq ?_; apply Gol.any; kernel_rfl
 apply t0; exact sM rfl; apply t0; exact s_loadW rfl rfl rfl (agu_cua _); dsimp only [reduceAdd, reduceMul, reduceSub, na, ca, nbk, mc, ml]
 apply tq; apply s_acts (f := 62) [0, 1] rfl inferInstance; exact members_ok l vs f K x hl
 apply eC rfl; apply eC rfl; exact eN; exact rfl; apply ABs.cons; exact rfl; exact rfl; exact rfl; apply rK
 apply rK; apply rK; apply rK; apply RenL.cons
 apply Ren.mp; exact CaR.old rfl; exact RenL.nil; apply ABs.cons; exact rfl; exact rfl; exact rfl; exact RenL.clo; exact ABs.nil; dsimp only [List.cons_append, List.nil_append, List.append_nil]
 apply RenL.cons; apply Ren.pt; exact CaR.old rfl; apply rK; exact RenL.nil; exact rZ; apply HRen.kept
 exact CaR.old rfl; apply rK; apply rK; apply rK
 apply rK; apply RenL.cons; apply Ren.mp; exact CaR.old rfl; exact RenL.nil; apply HRen.kept; exact CaR.old rfl; exact RenL.clo
 exact HRen.nil; exact lb rfl; dsimp only [reduceAdd, reduceMul, reduceSub, na, ca, nbk, nones, mc, ml]
 apply t0; exact sF rfl; apply t0; exact s_load rfl rfl rfl; apply t0; exact s_eq rfl rfl; dsimp only [reduceAdd, reduceMul, reduceSub, na, ca, nbk, mc, ml]
 apply tq; apply s_bld; exact rfl; (focus (dsimp only [splB, cuB, spl, cu, Value.cells, nameC, List.map, List.take, List.drop, List.append, List.length, List.cons_append, List.nil_append, Nat.reduceAdd, List.take_succ_cons, List.take_zero, List.drop_succ_cons, List.drop_zero, List.take_nil, List.drop_nil, List.append_nil, List.length_cons, List.length_nil]; done))
 dsimp only [reduceAdd, reduceMul, reduceSub, na, ca, nbk, mc, ml]; apply t1; exact s_alloc
 apply n1; exact s_storeW rfl rfl rfl rfl rfl rfl; dsimp only [reduceAdd, reduceMul]; exact dn; kernel_rfl; exact rfl; refine thn_n ?_
 refine Gol.seq ?_; apply Gol.sr; apply t0; exact sF rfl; apply t0; exact s_load rfl rfl rfl; dsimp only [reduceAdd, reduceMul]
 exact dn; exact rfl)
      refine Gol.cond rfl (fun h => ?_) (fun h => ?_)
      · rw [h, if_pos (of_decide_eq_true h)]
        (
 apply Gol.region; apply t0; exact sF rfl; apply t0; exact s_load rfl rfl rfl; apply t0; exact s_andI rfl rfl; apply t0; exact sF rfl
 apply t0; exact s_load rfl rfl rfl; apply t0; exact s_andI rfl rfl; apply t0; exact sF rfl; apply n1; exact s_store rfl rfl rfl rfl rfl (lb rfl)
 apply t0; exact sF rfl; apply n1; exact s_store rfl rfl rfl rfl rfl (lb rfl); dsimp only [reduceAdd, reduceMul]; exact dn
 exact rfl; refine thn_n ?_; refine Gol.seq ?_; apply Gol.any; kernel_rfl; apply t0; exact sM rfl
 apply t0; exact s_nilCheck rfl rfl; apply t0; exact sF rfl; apply t0; exact s_load rfl rfl rfl; apply t0; exact s_loadW rfl rfl rfl (agu_cuv _)
 apply t0; exact s_loadW rfl rfl rfl (agu_cua _); apply nq; exact s_mapUpd (v := (⟨cmOf l x, andI (cmOf l x) 1023, andI (cmOf l x) 1023, true⟩ : Stu)) rfl rfl rfl isV_v inferInstance rfl (isV_stuC rfl)
 dsimp only [reduceAdd, reduceMul, reduceSub, na, ca, nbk, mc, ml]; exact dn; kernel_rfl; exact rfl
 refine thn_n ?_; apply Gol.sr; apply t0; exact s_loadW rfl rfl rfl (agu_cua _); apply n1; exact s_storeW rfl rfl rfl rfl rfl rfl; apply t0
 exact sA rfl; dsimp only [reduceAdd, reduceMul]; exact dn; exact rfl; refine Gol.ret ?_)
        (
 apply RetA.mk [0, 1] (by first | exact .inr rfl | exact .inl rfl); apply res_2 rfl; exact res_cell rfl rfl rfl (agu_cua _); exact res_tmp rfl; exact rfl
 exact rfl; exact rfl; apply OAs.kept; exact rfl; exact rfl; exact rfl; apply rK; apply rK
 apply rK; apply rK; apply RenL.cons; apply Ren.mp; exact IdR.mk rfl; exact RenL.nil
 apply OAs.kept; exact rfl; exact rfl; exact rfl; exact RenL.clo; exact OAs.nil; apply Ren.tpL; apply RenL.cons; exact Ren.vag rfl; apply rK
 exact RenL.nil)
      · have h1 : ¬ x.k = 1 := of_decide_eq_false h
        rw [h, if_neg h1]
        (
 apply Gol.sr; apply t0; exact s_loadW rfl rfl rfl (agu_cua _); apply tq; exact s_call (f := 10) rfl (eC rfl eN) (aC aL aN) (value_ok S hS x hsx) (lb rfl)
 dsimp only [reduceAdd, reduceMul, reduceSub, na, ca, nbk, mc, ml]; apply t1; exact s_alloc
 apply n1; exact s_storeW rfl rfl rfl rfl rfl rfl; dsimp only [reduceAdd, reduceMul]; exact dn; exact rfl; refine Gol.seq ?_; apply Gol.sr
 apply t0; exact sF rfl; apply t0; exact s_load rfl rfl rfl; dsimp only [reduceAdd, reduceMul]; exact dn; exact rfl; refine Gol.block ?_
 apply Gol.sr; apply t0; exact s_eq rfl rfl; apply t0; exact sA rfl; dsimp only [reduceAdd, reduceMul]; exact dn; exact rfl)
        refine Gol.cond rfl (fun h3 => ?_) (fun h3 => ?_)
        · have h3 : x.k = 3 := of_decide_eq_true h3
          rw [if_pos h3]
          (
 apply Gol.any; kernel_rfl; apply t0; exact sF rfl; apply t0; exact s_load rfl rfl rfl; apply t0; exact sM rfl; apply t0
 exact s_nilCheck rfl rfl; apply t0; exact sF rfl; apply t0; exact s_load rfl rfl rfl; apply t0; exact sF rfl; apply t0; exact s_loadN rfl rfl (lb rfl) (agu_nm8 rfl)
 apply t0; exact s_loadW rfl rfl rfl (agu_cuv _); dsimp only [reduceAdd, reduceMul, reduceSub, na, ca, nbk, mc, ml]
 apply tq; apply s_bld; exact rfl; (focus (dsimp only [splB, cuB, spl, cu, Value.cells, nameC, List.map, List.take, List.drop, List.append, List.length, List.cons_append, List.nil_append, Nat.reduceAdd, List.take_succ_cons, List.take_zero, List.drop_succ_cons, List.drop_zero, List.take_nil, List.drop_nil, List.append_nil, List.length_cons, List.length_nil]; done))
 dsimp only [reduceAdd, reduceMul, reduceSub, na, ca, nbk, mc, ml]; apply t0; exact s_lookE1 rfl rfl (isV_ky rfl) inferInstance lk_getD
 apply t0; exact s_andI rfl rfl; apply t0; exact sF rfl; apply n1; exact s_store rfl rfl rfl rfl rfl (lb rfl); dsimp only [reduceAdd, reduceMul]
 exact dn; kernel_rfl; exact rfl; refine inBlk_n ?_; refine thn_n ?_; apply Gol.any; kernel_rfl; apply t0
 exact sF rfl; apply t0; exact s_load rfl rfl rfl; apply t0; exact sM rfl; apply t0; exact s_nilCheck rfl rfl; apply t0; exact sF rfl
 apply t0; exact s_load rfl rfl rfl; apply t0; exact s_loadW rfl rfl rfl (agu_cuv _); apply t0; exact s_loadW rfl rfl rfl (agu_cuv _); dsimp only [reduceAdd, reduceMul, reduceSub, na, ca, nbk, mc, ml]
 apply tq; apply s_bld; exact rfl; (focus (dsimp only [splB, cuB, spl, cu, Value.cells, nameC, List.map, List.take, List.drop, List.append, List.length, List.cons_append, List.nil_append, Nat.reduceAdd, List.take_succ_cons, List.take_zero, List.drop_succ_cons, List.drop_zero, List.take_nil, List.drop_nil, List.append_nil, List.length_cons, List.length_nil]; done))
 dsimp only [reduceAdd, reduceMul, reduceSub, na, ca, nbk, mc, ml]; apply t0; exact s_lookE1 rfl rfl (isV_ky rfl) inferInstance lk_getD
 apply t0; exact s_andI rfl rfl; apply t0; exact sF rfl; apply n1; exact s_store rfl rfl rfl rfl rfl (lb rfl); dsimp only [reduceAdd, reduceMul]
 exact dn; kernel_rfl; exact rfl; refine thn_n ?_; refine Gol.seq ?_; apply Gol.any; kernel_rfl; apply t0
 exact sM rfl; apply t0; exact s_nilCheck rfl rfl; apply t0; exact sF rfl; apply t0; exact s_load rfl rfl rfl; apply t0; exact s_loadW rfl rfl rfl (agu_cuv _)
 apply t0; exact s_loadW rfl rfl rfl (agu_cua _); apply nq; exact s_mapUpd (v := (⟨cmOf l x, andI (cmOf l x) (votN vs ⟨5, x.p, valN S x⟩), andI (cmOf l x) (votN vs ⟨7, x.n, valN S x⟩), false⟩ : Stu)) rfl rfl rfl isV_v inferInstance rfl (isV_stuC rfl)
 dsimp only [reduceAdd, reduceMul, reduceSub, na, ca, nbk, mc, ml]; exact dn; kernel_rfl; exact rfl
 refine thn_n ?_; apply Gol.sr; apply t0; exact s_loadW rfl rfl rfl (agu_cua _); apply n1; exact s_storeW rfl rfl rfl rfl rfl rfl; apply t0
 exact sA rfl; dsimp only [reduceAdd, reduceMul]; exact dn; exact rfl; refine Gol.ret ?_)
          (
 apply RetA.mk [0, 1] (by first | exact .inr rfl | exact .inl rfl); apply res_2 rfl; exact res_cell rfl rfl rfl (agu_cua _); exact res_tmp rfl; exact rfl
 exact rfl; exact rfl; apply OAs.kept; exact rfl; exact rfl; exact rfl; apply rK; apply rK
 apply rK; apply rK; apply RenL.cons; apply Ren.mp; exact IdR.mk rfl; exact RenL.nil
 apply OAs.kept; exact rfl; exact rfl; exact rfl; exact RenL.clo; exact OAs.nil; apply Ren.tpL; apply RenL.cons; exact Ren.vag rfl; apply rK
 exact RenL.nil)
        · have h3 : ¬ x.k = 3 := of_decide_eq_false h3
          rw [if_neg h3]
          (apply Gol.sr; apply t0; exact s_eq rfl rfl; apply t0; exact sA rfl; dsimp only [reduceAdd, reduceMul]; exact dn; exact rfl)
          refine Gol.cond rfl (fun h4 => ?_) (fun h4 => ?_)
          · have h4 : x.k = 4 := of_decide_eq_true h4
            rw [if_pos h4]
            (
 apply Gol.any; kernel_rfl; apply t0; exact sF rfl; apply t0; exact s_load rfl rfl rfl; apply t0; exact sM rfl; apply t0
 exact s_nilCheck rfl rfl; apply t0; exact sF rfl; apply t0; exact s_load rfl rfl rfl; apply t0; exact s_loadW rfl rfl rfl (agu_cuv _); apply t0
 exact s_loadW rfl rfl rfl (agu_cuv _); dsimp only [reduceAdd, reduceMul, reduceSub, na, ca, nbk, mc, ml]
 apply tq; apply s_bld; exact rfl; (focus (dsimp only [splB, cuB, spl, cu, Value.cells, nameC, List.map, List.take, List.drop, List.append, List.length, List.cons_append, List.nil_append, Nat.reduceAdd, List.take_succ_cons, List.take_zero, List.drop_succ_cons, List.drop_zero, List.take_nil, List.drop_nil, List.append_nil, List.length_cons, List.length_nil]; done))
 dsimp only [reduceAdd, reduceMul, reduceSub, na, ca, nbk, mc, ml]; apply t0; exact s_lookE1 rfl rfl (isV_ky rfl) inferInstance lk_getD
 apply t0; exact s_andI rfl rfl; apply t0; exact sF rfl; apply n1; exact s_store rfl rfl rfl rfl rfl (lb rfl); dsimp only [reduceAdd, reduceMul]
 exact dn; kernel_rfl; exact rfl; refine inBlk_n ?_; refine thn_n ?_; apply Gol.any; kernel_rfl; apply t0
 exact sF rfl; apply t0; exact s_load rfl rfl rfl; apply t0; exact sM rfl; apply t0; exact s_nilCheck rfl rfl; apply t0; exact sF rfl
 apply t0; exact s_load rfl rfl rfl; apply t0; exact s_loadW rfl rfl rfl (agu_cuv _); apply t0; exact s_loadW rfl rfl rfl (agu_cuv _); dsimp only [reduceAdd, reduceMul, reduceSub, na, ca, nbk, mc, ml]
 apply tq; apply s_bld; exact rfl; (focus (dsimp only [splB, cuB, spl, cu, Value.cells, nameC, List.map, List.take, List.drop, List.append, List.length, List.cons_append, List.nil_append, Nat.reduceAdd, List.take_succ_cons, List.take_zero, List.drop_succ_cons, List.drop_zero, List.take_nil, List.drop_nil, List.append_nil, List.length_cons, List.length_nil]; done))
 dsimp only [reduceAdd, reduceMul, reduceSub, na, ca, nbk, mc, ml]; apply t0; exact s_lookE1 rfl rfl (isV_ky rfl) inferInstance lk_getD
 apply t0; exact s_andI rfl rfl; apply t0; exact sF rfl; apply n1; exact s_store rfl rfl rfl rfl rfl (lb rfl); dsimp only [reduceAdd, reduceMul]
 exact dn; kernel_rfl; exact rfl; refine thn_n ?_; refine Gol.seq ?_; apply Gol.any; kernel_rfl; apply t0
 exact sM rfl; apply t0; exact s_nilCheck rfl rfl; apply t0; exact sF rfl; apply t0; exact s_load rfl rfl rfl; apply t0; exact s_loadW rfl rfl rfl (agu_cuv _)
 apply t0; exact s_loadW rfl rfl rfl (agu_cua _); apply nq; exact s_mapUpd (v := (⟨cmOf l x, andI (cmOf l x) (votN vs ⟨6, x.n, valN S x⟩), andI (cmOf l x) (votN vs ⟨7, x.n, valN S x⟩), false⟩ : Stu)) rfl rfl rfl isV_v inferInstance rfl (isV_stuC rfl)
 dsimp only [reduceAdd, reduceMul, reduceSub, na, ca, nbk, mc, ml]; exact dn; kernel_rfl; exact rfl
 refine thn_n ?_; apply Gol.sr; apply t0; exact s_loadW rfl rfl rfl (agu_cua _); apply n1; exact s_storeW rfl rfl rfl rfl rfl rfl; apply t0
 exact sA rfl; dsimp only [reduceAdd, reduceMul]; exact dn; exact rfl; refine Gol.ret ?_)
            (
 apply RetA.mk [0, 1] (by first | exact .inr rfl | exact .inl rfl); apply res_2 rfl; exact res_cell rfl rfl rfl (agu_cua _); exact res_tmp rfl; exact rfl
 exact rfl; exact rfl; apply OAs.kept; exact rfl; exact rfl; exact rfl; apply rK; apply rK
 apply rK; apply rK; apply RenL.cons; apply Ren.mp; exact IdR.mk rfl; exact RenL.nil
 apply OAs.kept; exact rfl; exact rfl; exact rfl; exact RenL.clo; exact OAs.nil; apply Ren.tpL; apply RenL.cons; exact Ren.vag rfl; apply rK
 exact RenL.nil)
          · have h4 : ¬ x.k = 4 := of_decide_eq_false h4
            rw [if_neg h4]
            (
 refine Gol.skip ?_; refine inBlk_n ?_; refine thn_n ?_; apply Gol.any; kernel_rfl
 apply t0; exact sF rfl; apply t0; exact s_load rfl rfl rfl; apply t0; exact sM rfl; apply t0; exact s_nilCheck rfl rfl; apply t0; exact sF rfl
 apply t0; exact s_load rfl rfl rfl; apply t0; exact s_loadW rfl rfl rfl (agu_cuv _); apply t0; exact s_loadW rfl rfl rfl (agu_cuv _); dsimp only [reduceAdd, reduceMul, reduceSub, na, ca, nbk, mc, ml]
 apply tq; apply s_bld; exact rfl; (focus (dsimp only [splB, cuB, spl, cu, Value.cells, nameC, List.map, List.take, List.drop, List.append, List.length, List.cons_append, List.nil_append, Nat.reduceAdd, List.take_succ_cons, List.take_zero, List.drop_succ_cons, List.drop_zero, List.take_nil, List.drop_nil, List.append_nil, List.length_cons, List.length_nil]; done))
 dsimp only [reduceAdd, reduceMul, reduceSub, na, ca, nbk, mc, ml]; apply t0; exact s_lookE1 rfl rfl (isV_ky rfl) inferInstance lk_getD
 apply t0; exact s_andI rfl rfl; apply t0; exact sF rfl; apply n1; exact s_store rfl rfl rfl rfl rfl (lb rfl); dsimp only [reduceAdd, reduceMul]
 exact dn; kernel_rfl; exact rfl; refine thn_n ?_; refine Gol.seq ?_; apply Gol.any; kernel_rfl; apply t0
 exact sM rfl; apply t0; exact s_nilCheck rfl rfl; apply t0; exact sF rfl; apply t0; exact s_load rfl rfl rfl; apply t0; exact s_loadW rfl rfl rfl (agu_cuv _)
 apply t0; exact s_loadW rfl rfl rfl (agu_cua _); apply nq; exact s_mapUpd (v := (⟨cmOf l x, 0, andI (cmOf l x) (votN vs ⟨7, x.n, valN S x⟩), false⟩ : Stu)) rfl rfl rfl isV_v inferInstance rfl (isV_stuC rfl)
 dsimp only [reduceAdd, reduceMul, reduceSub, na, ca, nbk, mc, ml]; exact dn; kernel_rfl; exact rfl
 refine thn_n ?_; apply Gol.sr; apply t0; exact s_loadW rfl rfl rfl (agu_cua _); apply n1; exact s_storeW rfl rfl rfl rfl rfl rfl; apply t0
 exact sA rfl; dsimp only [reduceAdd, reduceMul]; exact dn; exact rfl; refine Gol.ret ?_)
            (
 apply RetA.mk [0, 1] (by first | exact .inr rfl | exact .inl rfl); apply res_2 rfl; exact res_cell rfl rfl rfl (agu_cua _); exact res_tmp rfl; exact rfl
 exact rfl; exact rfl; apply OAs.kept; exact rfl; exact rfl; exact rfl; apply rK; apply rK
 apply rK; apply rK; apply RenL.cons; apply Ren.mp; exact IdR.mk rfl; exact RenL.nil
 apply OAs.kept; exact rfl; exact rfl; exact rfl; exact RenL.clo; exact OAs.nil; apply Ren.tpL; apply RenL.cons; exact Ren.vag rfl; apply rK
 exact RenL.nil)
end
end Go.Proofs.YtneeclacmhhblaaGreat


namespace Go.Proofs.YtneeclacmhhblaaGreat
open Go.RowKit
open Nat (reduceAdd reduceMul reduceSub)

def wdB (g1 g2 : Int) (a b c t l : AV) (n : Nat) (gu : Int) : ABlk := ⟨[.v (.int .i64 g1), .v (.int .i64 g2), a, b, c, .sl 1 n, .v (.int .i64 gu), t, l], 57, 9⟩
theorem vtsA_next (vs : List Vt) (v : Vt) : vtsA vs ++ (cu (.v (.agg (voteC v))) ++ []) = vtsA (vs ++ [v]) := by
  rw [vtsA, vtsA, fA_append, fA_one, List.append_nil]; rfl
set_option maxHeartbeats 1600000 in
theorem vote_ok (g1 g2 gu : Int) (a b c t l : AV) [Clo a] [Clo b] [Clo c] [Clo t] [Clo l] (vs : List Vt) (v : Vt) (n : Nat) (hn : vs.length = n) (hb : n ≤ 1000000) :
    Acts Tryz.prog 60 [wdB g1 g2 a b c t l n gu, ⟨vtsA vs, 87, 22⟩] [.pt 0 0, .v (.agg (voteC v))] (.tp []) [some ⟨[.v (.int .i64 g1), .v (.int .i64 g2), a, b, c, .sl 2 (n + 1), .v (.int .i64 gu), t, l], 57, 9⟩, none, some ⟨vtsA (vs ++ [v]), 87, 22⟩] := by
  have hl := vtsA_length vs
  refine Acts.of (fn := Tryz.f60) Tryz.func60 rfl (lb rfl) (lb rfl) fun w bl hid loc => ?_
  (
 apply Gol.sr; apply t1; exact s_box rfl rfl; dsimp only [reduceAdd, reduceMul]; exact dn; exact rfl; apply Gol.any; kernel_rfl
 apply t0; exact sM rfl; apply t0; exact sM rfl; apply t0; exact s_nilCheck rfl rfl; apply t0; exact sF rfl; apply t0; exact sF rfl
 apply t0; exact s_load rfl rfl rfl; apply t0; exact s_loadW rfl rfl rfl (agu_cuv _); apply t1; exact s_lit (PA.cons rfl rfl rfl PA.nil) rfl (by first | omega | exact lb rfl | decide | (simp <;> omega) | (dsimp <;> omega))
 apply tq; exact s_app rfl rfl rfl (rd_sl rfl rfl) (by simp only [byA_length, List.length_append, List.length_cons, List.length_nil, List.length_take, List.length_drop, List.length_replicate, List.length_map, Nat.mul_one, nameB_length, flat_length, List.length_set, inA_length, dsA_length, lsA_length, dA_length, lA_length, itsA_length, vtsA_length, rcsA_length] <;> omega) rfl rfl rfl (by omega)
 dsimp only [reduceAdd, reduceMul, reduceSub, na, ca, nbk, mc, ml]; apply t0; exact s_nilCheck rfl rfl
 apply t0; exact sF rfl; apply t0; exact sF rfl; apply n1; exact s_store rfl rfl rfl rfl rfl (lb rfl); dsimp only [reduceAdd, reduceMul]
 exact dn; kernel_rfl; exact rfl)
  rw [vtsA_next]
  (
 apply RetA.mk [0, 1, 80] (by first | exact .inr rfl | exact .inl rfl); exact res_0 rfl; exact rfl; exact rfl; exact rfl; apply OAs.kept; exact rfl; exact rfl
 exact rfl; apply rK; apply rK; apply rK; apply rK; apply rK; apply RenL.cons; apply Ren.sl; exact IdR.mk rfl; apply rK
 apply rK; apply rK; exact RenL.nil; apply OAs.gone; apply OAs.kept; exact rfl
 exact rfl; exact rfl; exact RenL.clo; exact OAs.nil; exact rZ)
def sgV (k : Int) (x : It) (val : UInt64) (s : Int) : Vt := ⟨k, 0, 0, 1, s, 0, if k = 5 then x.p else x.n, val⟩
section
variable (S : List UInt8 → UInt64) (hS : HashF S)
include hS
set_option maxHeartbeats 3200000 in
theorem sign_ok (g1 g2 gu : Int) (a b c t l : AV) [Clo a] [Clo b] [Clo c] [Clo t] [Clo l] (vs : List Vt) (n : Nat) (x : It) (k : Int) (who : List Int) (fw : Bool) (hn : vs.length = n) (hb : n + who.length ≤ 1000000) (hs : Sm x.st) :
    Acts Tryz.prog 26 [wdB g1 g2 a b c t l n gu, ⟨vtsA vs, 87, 22⟩] [.pt 0 0, .ag (itA x), .v (.int .i64 k), .ex who.length fw (inA who)] (.tp []) [some ⟨[.v (.int .i64 g1), .v (.int .i64 g2), a, b, c, .sl 2 (n + who.length), .v (.int .i64 gu), t, l], 57, 9⟩, none, some ⟨vtsA (vs ++ who.map (sgV k x (valN S x))), 87, 22⟩] := by
  have hv := refValue_ok S hS x hs
  refine Acts.of (fn := Tryz.f26) Tryz.func26 rfl (lb rfl) (lb rfl) fun w bl hid loc => ?_
  (
 apply Gol.sr; apply t1; exact s_box rfl rfl; dsimp only [reduceAdd, reduceMul]; exact dn; exact rfl; refine Gol.seq ?_; apply Gol.any
 kernel_rfl; apply t0; exact sM rfl; apply t0; exact sF rfl; apply t0; exact s_loadN rfl rfl (lb rfl) (agu_nm8 rfl); apply t0
 exact s_loadW rfl rfl rfl (agu_cua _); apply tq; exact s_call (f := 11) rfl (eC rfl eN) (aC aL aN) hv (lb rfl)
 dsimp only [reduceAdd, reduceMul, reduceSub, na, ca, nbk, mc, ml]; apply tq; apply s_bld; exact rfl; (focus (dsimp only [splB, cuB, spl, cu, Value.cells, nameC, List.map, List.take, List.drop, List.append, List.length, List.cons_append, List.nil_append, Nat.reduceAdd, List.take_succ_cons, List.take_zero, List.drop_succ_cons, List.drop_zero, List.take_nil, List.drop_nil, List.append_nil, List.length_cons, List.length_nil]; done))
 dsimp only [reduceAdd, reduceMul, reduceSub, na, ca, nbk, mc, ml]; apply t1; exact s_alloc
 apply n1; exact s_storeW rfl rfl rfl rfl rfl rfl; dsimp only [reduceAdd, reduceMul]; exact dn; kernel_rfl; exact rfl; refine thn_n ?_
 refine Gol.seq ?_; apply Gol.sr; apply t0; exact sM rfl; apply t0; exact s_eq rfl rfl; dsimp only [reduceAdd, reduceMul]
 exact dn; exact rfl)
  refine Gol.cond rfl (fun h => ?_) (fun h => ?_)
  · have e : sgV k x (valN S x) = fun s => (⟨k, 0, 0, 1, s, 0, x.p, valN S x⟩ : Vt) := funext fun s => by unfold sgV; rw [if_pos (of_decide_eq_true h)]
    rw [e]
    clear e hv
    (
 apply Gol.region; apply t0; exact sF rfl; apply t0; exact s_loadN rfl rfl (lb rfl) (agu_nm8 rfl); apply t0
 exact sF rfl; apply n1; exact s_store rfl rfl rfl rfl rfl (lb rfl); dsimp only [reduceAdd, reduceMul]; exact dn; exact rfl
 refine thn_n ?_; apply Gol.sr; apply t0; exact sA rfl; dsimp only [reduceAdd, reduceMul]; exact dn; exact rfl; refine Gol.block ?_)
    generalize valN S x = val
    generalize x.p = par
    refine Gol.loop (ι := Nat × Int) (fun i => i.1 ≤ who.length) (fun i => who.length - i.1) 208
      (fun i => [(0, some ⟨[.v (.int .i64 g1), .v (.int .i64 g2), a, b, c, .sl 200 (n + i.1), .v (.int .i64 gu), t, l], 57, 9⟩), (200, some ⟨vtsA (vs ++ (who.take i.1).map fun s => (⟨k, 0, 0, 1, s, 0, par, val⟩ : Vt)), 87, 22⟩), (64, some ⟨vtA ⟨k, 0, 0, 1, i.2, 0, par, val⟩, 87, 22⟩)])
      (fun i => [(0, .pt 0 0), (3, .ex who.length fw (inA who)), (8, .pt 64 0), (9, .v (.int .i64 (i.1 : Int)))]) (0, 0) (Nat.zero_le _) ?_ ?_
    · rw [show vs ++ List.map (fun s => (⟨k, 0, 0, 1, s, 0, par, val⟩ : Vt)) (List.take 0 who) = vs by simp]
      (
 apply Le.mk3' [(200, 1)]; apply RnT3.c; exact rfl; apply Rn3.r; exact Rn.pt rfl rfl; apply RnT3.c; exact rfl; apply Rn3.r; exact Rn.clo inferInstance rfl
 apply RnT3.c; exact rfl; apply Rn3.r; exact Rn.pt rfl rfl; apply RnT3.c; exact rfl; apply Rn3.r; exact Rn.v rfl; exact RnT3.n; apply RnH3.c; exact rfl
 exact rfl; apply RnC.l; apply Rn3L.cons; apply Rn3.r; exact Rn.v rfl; apply Rn3L.cons; apply Rn3.r; exact Rn.v rfl; apply Rn3L.cons; apply Rn3.r; exact Rn.clo inferInstance rfl
 apply Rn3L.cons; apply Rn3.r; exact Rn.clo inferInstance rfl; apply Rn3L.cons; apply Rn3.r; exact Rn.clo inferInstance rfl; apply Rn3L.cons; apply Rn3.r
 exact Rn.sl rfl rfl; apply Rn3L.cons; apply Rn3.r; exact Rn.v rfl; apply Rn3L.cons; apply Rn3.r; exact Rn.clo inferInstance rfl; apply Rn3L.cons; apply Rn3.r
 exact Rn.clo inferInstance rfl; exact Rn3L.nil; exact rfl; exact rfl; apply RnH3.c; exact rfl; exact rfl; apply RnC.cl; rfl; exact inferInstance; exact rfl
 exact rfl; apply RnH3.c; exact rfl; exact rfl; apply RnC.cl; rfl; exact inferInstance; exact rfl; exact rfl; exact RnH3.n; exact rfl; exact rfl)
    rintro ⟨i, s0⟩ hi
    dsimp only at hi ⊢
    (
 refine Gol.seq ?_; apply Gol.sr; apply t0; exact sM rfl; apply t0; exact sM rfl; apply t0; exact s_len rfl ln_ex; apply t0; exact s_ltn rfl rfl
 dsimp only [reduceAdd, reduceMul]; exact dn; exact rfl)
    refine Gol.cond rfl (fun h => ?_) (fun h => ?_)
    · have hlt : i < who.length := of_decide_eq_true h
      have hne : inA who ≠ [] := fun e => by have := inA_length who; rw [e] at this; simp at this; omega
      have hx : who[i]? = some (who.getD i 0) := by rw [List.getD_eq_getElem?_getD, List.getElem?_eq_getElem hlt]; rfl
      have hcall := vote_ok g1 g2 gu a b c t l (vs ++ (who.take i).map fun s => (⟨k, 0, 0, 1, s, 0, par, val⟩ : Vt)) ⟨k, 0, 0, 1, who.getD i 0, 0, par, val⟩ (n + i) (by simp; omega) (by omega)
      have e : (vs ++ (who.take i).map fun s => (⟨k, 0, 0, 1, s, 0, par, val⟩ : Vt)) ++ [⟨k, 0, 0, 1, who.getD i 0, 0, par, val⟩] = vs ++ (who.take (i + 1)).map fun s => (⟨k, 0, 0, 1, s, 0, par, val⟩ : Vt) := by
        rw [List.append_assoc, map_take hx]
      rw [e] at hcall
      (
 refine Gol.skip ?_; refine thn_n ?_; refine Gol.seq ?_; refine Gol.block ?_; apply Gol.sr
 apply t0; exact sM rfl; apply t0; exact sM rfl; apply t0; exact s_ixe rfl rfl (by omega) (by assumption); apply t0; exact s_loadE rfl (in_get0 (by assumption))
 apply t0; exact sF rfl; apply n1; exact s_store rfl rfl rfl rfl rfl (lb rfl); dsimp only [reduceAdd, reduceMul]; exact dn
 exact rfl; apply Gol.region; apply t0; exact sM rfl; apply t0; exact s_loadW rfl rfl rfl (agu_cua _); dsimp only [reduceAdd, reduceMul, reduceSub, na, ca, nbk, mc, ml]
 apply tq; apply s_acts (f := 60) [0, 200] rfl inferInstance; exact hcall; apply eC rfl
 apply eC rfl; exact eN; exact rfl; apply ABs.cons; exact rfl; exact rfl; exact rfl; apply rK; apply rK; apply rK; apply rK; apply rK
 apply RenL.cons; apply Ren.sl; exact CaR.old rfl; apply rK; apply rK; apply rK; exact RenL.nil; apply ABs.cons; exact rfl; exact rfl; exact rfl; exact RenL.clo; exact ABs.nil; dsimp only [List.cons_append, List.nil_append, List.append_nil]
 apply RenL.cons; apply Ren.pt; exact CaR.old rfl; apply RenL.cons; exact Ren.vag rfl; exact RenL.nil; exact rZ; apply HRen.kept; exact CaR.old rfl
 apply rK; apply rK; apply rK; apply rK; apply rK; apply RenL.cons; apply Ren.sl; exact CaR.new 0 rfl rfl; apply rK
 apply rK; apply rK; exact RenL.nil; apply HRen.gone; exact CaR.old rfl; apply HRen.kept
 exact CaR.new 0 rfl rfl; exact RenL.clo; exact HRen.nil; exact lb rfl; dsimp only [reduceAdd, reduceMul, reduceSub, na, ca, nbk, nones, mc, ml]
 exact dn; exact rfl; refine inBlk_n ?_; refine thn_n ?_; apply Gol.region; apply t0; exact sM rfl
 apply t0; exact s_addn rfl rfl (by simp <;> omega); apply t0; exact sA rfl; dsimp only [reduceAdd, reduceMul]; exact dn; exact rfl)
      refine rnd_n (i + 1, who.getD i 0) hlt (by show who.length - (i + 1) < who.length - i; omega) ?_
      (
 apply Le.mk3' [(200, 304)]; apply RnT3.c; exact rfl; apply Rn3.r; exact Rn.pt rfl rfl; apply RnT3.c; exact rfl; apply Rn3.r; exact Rn.clo inferInstance rfl
 apply RnT3.c; exact rfl; apply Rn3.r; exact Rn.pt rfl rfl; apply RnT3.c; exact rfl; apply Rn3.r; exact Rn.v rfl; exact RnT3.n; apply RnH3.c; exact rfl
 exact rfl; apply RnC.l; apply Rn3L.cons; apply Rn3.r; exact Rn.v rfl; apply Rn3L.cons; apply Rn3.r; exact Rn.v rfl; apply Rn3L.cons; apply Rn3.r; exact Rn.clo inferInstance rfl
 apply Rn3L.cons; apply Rn3.r; exact Rn.clo inferInstance rfl; apply Rn3L.cons; apply Rn3.r; exact Rn.clo inferInstance rfl; apply Rn3L.cons; apply Rn3.r
 exact Rn.sl rfl rfl; apply Rn3L.cons; apply Rn3.r; exact Rn.v rfl; apply Rn3L.cons; apply Rn3.r; exact Rn.clo inferInstance rfl; apply Rn3L.cons; apply Rn3.r
 exact Rn.clo inferInstance rfl; exact Rn3L.nil; exact rfl; exact rfl; apply RnH3.c; exact rfl; exact rfl; apply RnC.cl; rfl; exact inferInstance; exact rfl
 exact rfl; apply RnH3.c; exact rfl; exact rfl; apply RnC.cl; rfl; exact inferInstance; exact rfl; exact rfl; exact RnH3.n; exact rfl; exact rfl)
    · have hge : ¬ i < who.length := of_decide_eq_false h
      obtain rfl : i = who.length := by omega
      rw [List.take_length]
      (refine Gol.exit ?_; refine thn_x ?_; refine rnd_x ?_; refine inBlk_hit ?_)
      (
 apply RetA.mk [0, 1, 200] (by first | exact .inr rfl | exact .inl rfl); exact res_0 rfl; exact rfl; exact rfl; exact rfl; apply OAs.kept; exact rfl; exact rfl
 exact rfl; apply rK; apply rK; apply rK; apply rK; apply rK; apply RenL.cons; apply Ren.sl; exact IdR.mk rfl; apply rK
 apply rK; apply rK; exact RenL.nil; apply OAs.gone; apply OAs.kept; exact rfl
 exact rfl; exact rfl; exact RenL.clo; exact OAs.nil; exact rZ)
  · have e : sgV k x (valN S x) = fun s => (⟨k, 0, 0, 1, s, 0, x.n, valN S x⟩ : Vt) := funext fun s => by unfold sgV; rw [if_neg (of_decide_eq_false h)]
    rw [e]
    clear e hv
    (
 refine Gol.skip ?_; refine thn_n ?_; apply Gol.sr; apply t0; exact sA rfl; dsimp only [reduceAdd, reduceMul]
 exact dn; exact rfl; refine Gol.block ?_)
    generalize valN S x = val
    generalize x.n = par
    refine Gol.loop (ι := Nat × Int) (fun i => i.1 ≤ who.length) (fun i => who.length - i.1) 208
      (fun i => [(0, some ⟨[.v (.int .i64 g1), .v (.int .i64 g2), a, b, c, .sl 200 (n + i.1), .v (.int .i64 gu), t, l], 57, 9⟩), (200, some ⟨vtsA (vs ++ (who.take i.1).map fun s => (⟨k, 0, 0, 1, s, 0, par, val⟩ : Vt)), 87, 22⟩), (64, some ⟨vtA ⟨k, 0, 0, 1, i.2, 0, par, val⟩, 87, 22⟩)])
      (fun i => [(0, .pt 0 0), (3, .ex who.length fw (inA who)), (8, .pt 64 0), (9, .v (.int .i64 (i.1 : Int)))]) (0, 0) (Nat.zero_le _) ?_ ?_
    · rw [show vs ++ List.map (fun s => (⟨k, 0, 0, 1, s, 0, par, val⟩ : Vt)) (List.take 0 who) = vs by simp]
      (
 apply Le.mk3' [(200, 1)]; apply RnT3.c; exact rfl; apply Rn3.r; exact Rn.pt rfl rfl; apply RnT3.c; exact rfl; apply Rn3.r; exact Rn.clo inferInstance rfl
 apply RnT3.c; exact rfl; apply Rn3.r; exact Rn.pt rfl rfl; apply RnT3.c; exact rfl; apply Rn3.r; exact Rn.v rfl; exact RnT3.n; apply RnH3.c; exact rfl
 exact rfl; apply RnC.l; apply Rn3L.cons; apply Rn3.r; exact Rn.v rfl; apply Rn3L.cons; apply Rn3.r; exact Rn.v rfl; apply Rn3L.cons; apply Rn3.r; exact Rn.clo inferInstance rfl
 apply Rn3L.cons; apply Rn3.r; exact Rn.clo inferInstance rfl; apply Rn3L.cons; apply Rn3.r; exact Rn.clo inferInstance rfl; apply Rn3L.cons; apply Rn3.r
 exact Rn.sl rfl rfl; apply Rn3L.cons; apply Rn3.r; exact Rn.v rfl; apply Rn3L.cons; apply Rn3.r; exact Rn.clo inferInstance rfl; apply Rn3L.cons; apply Rn3.r
 exact Rn.clo inferInstance rfl; exact Rn3L.nil; exact rfl; exact rfl; apply RnH3.c; exact rfl; exact rfl; apply RnC.cl; rfl; exact inferInstance; exact rfl
 exact rfl; apply RnH3.c; exact rfl; exact rfl; apply RnC.cl; rfl; exact inferInstance; exact rfl; exact rfl; exact RnH3.n; exact rfl; exact rfl)
    rintro ⟨i, s0⟩ hi
    dsimp only at hi ⊢
    (
 refine Gol.seq ?_; apply Gol.sr; apply t0; exact sM rfl; apply t0; exact sM rfl; apply t0; exact s_len rfl ln_ex; apply t0; exact s_ltn rfl rfl
 dsimp only [reduceAdd, reduceMul]; exact dn; exact rfl)
    refine Gol.cond rfl (fun h => ?_) (fun h => ?_)
    · have hlt : i < who.length := of_decide_eq_true h
      have hne : inA who ≠ [] := fun e => by have := inA_length who; rw [e] at this; simp at this; omega
      have hx : who[i]? = some (who.getD i 0) := by rw [List.getD_eq_getElem?_getD, List.getElem?_eq_getElem hlt]; rfl
      have hcall := vote_ok g1 g2 gu a b c t l (vs ++ (who.take i).map fun s => (⟨k, 0, 0, 1, s, 0, par, val⟩ : Vt)) ⟨k, 0, 0, 1, who.getD i 0, 0, par, val⟩ (n + i) (by simp; omega) (by omega)
      have e : (vs ++ (who.take i).map fun s => (⟨k, 0, 0, 1, s, 0, par, val⟩ : Vt)) ++ [⟨k, 0, 0, 1, who.getD i 0, 0, par, val⟩] = vs ++ (who.take (i + 1)).map fun s => (⟨k, 0, 0, 1, s, 0, par, val⟩ : Vt) := by
        rw [List.append_assoc, map_take hx]
      rw [e] at hcall
      (
 refine Gol.skip ?_; refine thn_n ?_; refine Gol.seq ?_; refine Gol.block ?_; apply Gol.sr
 apply t0; exact sM rfl; apply t0; exact sM rfl; apply t0; exact s_ixe rfl rfl (by omega) (by assumption); apply t0; exact s_loadE rfl (in_get0 (by assumption))
 apply t0; exact sF rfl; apply n1; exact s_store rfl rfl rfl rfl rfl (lb rfl); dsimp only [reduceAdd, reduceMul]; exact dn
 exact rfl; apply Gol.region; apply t0; exact sM rfl; apply t0; exact s_loadW rfl rfl rfl (agu_cua _); dsimp only [reduceAdd, reduceMul, reduceSub, na, ca, nbk, mc, ml]
 apply tq; apply s_acts (f := 60) [0, 200] rfl inferInstance; exact hcall; apply eC rfl
 apply eC rfl; exact eN; exact rfl; apply ABs.cons; exact rfl; exact rfl; exact rfl; apply rK; apply rK; apply rK; apply rK; apply rK
 apply RenL.cons; apply Ren.sl; exact CaR.old rfl; apply rK; apply rK; apply rK; exact RenL.nil; apply ABs.cons; exact rfl; exact rfl; exact rfl; exact RenL.clo; exact ABs.nil; dsimp only [List.cons_append, List.nil_append, List.append_nil]
 apply RenL.cons; apply Ren.pt; exact CaR.old rfl; apply RenL.cons; exact Ren.vag rfl; exact RenL.nil; exact rZ; apply HRen.kept; exact CaR.old rfl
 apply rK; apply rK; apply rK; apply rK; apply rK; apply RenL.cons; apply Ren.sl; exact CaR.new 0 rfl rfl; apply rK
 apply rK; apply rK; exact RenL.nil; apply HRen.gone; exact CaR.old rfl; apply HRen.kept
 exact CaR.new 0 rfl rfl; exact RenL.clo; exact HRen.nil; exact lb rfl; dsimp only [reduceAdd, reduceMul, reduceSub, na, ca, nbk, nones, mc, ml]
 exact dn; exact rfl; refine inBlk_n ?_; refine thn_n ?_; apply Gol.region; apply t0; exact sM rfl
 apply t0; exact s_addn rfl rfl (by simp <;> omega); apply t0; exact sA rfl; dsimp only [reduceAdd, reduceMul]; exact dn; exact rfl)
      refine rnd_n (i + 1, who.getD i 0) hlt (by show who.length - (i + 1) < who.length - i; omega) ?_
      (
 apply Le.mk3' [(200, 304)]; apply RnT3.c; exact rfl; apply Rn3.r; exact Rn.pt rfl rfl; apply RnT3.c; exact rfl; apply Rn3.r; exact Rn.clo inferInstance rfl
 apply RnT3.c; exact rfl; apply Rn3.r; exact Rn.pt rfl rfl; apply RnT3.c; exact rfl; apply Rn3.r; exact Rn.v rfl; exact RnT3.n; apply RnH3.c; exact rfl
 exact rfl; apply RnC.l; apply Rn3L.cons; apply Rn3.r; exact Rn.v rfl; apply Rn3L.cons; apply Rn3.r; exact Rn.v rfl; apply Rn3L.cons; apply Rn3.r; exact Rn.clo inferInstance rfl
 apply Rn3L.cons; apply Rn3.r; exact Rn.clo inferInstance rfl; apply Rn3L.cons; apply Rn3.r; exact Rn.clo inferInstance rfl; apply Rn3L.cons; apply Rn3.r
 exact Rn.sl rfl rfl; apply Rn3L.cons; apply Rn3.r; exact Rn.v rfl; apply Rn3L.cons; apply Rn3.r; exact Rn.clo inferInstance rfl; apply Rn3L.cons; apply Rn3.r
 exact Rn.clo inferInstance rfl; exact Rn3L.nil; exact rfl; exact rfl; apply RnH3.c; exact rfl; exact rfl; apply RnC.cl; rfl; exact inferInstance; exact rfl
 exact rfl; apply RnH3.c; exact rfl; exact rfl; apply RnC.cl; rfl; exact inferInstance; exact rfl; exact rfl; exact RnH3.n; exact rfl; exact rfl)
    · have hge : ¬ i < who.length := of_decide_eq_false h
      obtain rfl : i = who.length := by omega
      rw [List.take_length]
      (refine Gol.exit ?_; refine thn_x ?_; refine rnd_x ?_; refine inBlk_hit ?_)
      (
 apply RetA.mk [0, 1, 200] (by first | exact .inr rfl | exact .inl rfl); exact res_0 rfl; exact rfl; exact rfl; exact rfl; apply OAs.kept; exact rfl; exact rfl
 exact rfl; apply rK; apply rK; apply rK; apply rK; apply rK; apply RenL.cons; apply Ren.sl; exact IdR.mk rfl; apply rK
 apply rK; apply rK; exact RenL.nil; apply OAs.gone; apply OAs.kept; exact rfl
 exact rfl; exact rfl; exact RenL.clo; exact OAs.nil; exact rZ)
end
end Go.Proofs.YtneeclacmhhblaaGreat


namespace Go.Proofs.YtneeclacmhhblaaGreat
open Go.RowKit
open Nat (reduceAdd reduceMul reduceSub)

instance (g : Gen) : CloL (genCs g) := by unfold genCs; infer_instance
def valK (i : Nat) : UInt64 := nameOf fun j => [3, toU8 ((i + 1 : Nat) : Int), 0, 0, 0, 0, 0, 0].getD j 0
theorem valK_next (i : Nat) : byA (flat (listF valK i)) ++ (cu (.ag [.v (.int .u8 3), .v (.int .u8 ((toU8 ((i + 1 : Nat) : Int)).toNat : Int)), .v (.int .u8 0), .v (.int .u8 0), .v (.int .u8 0), .v (.int .u8 0), .v (.int .u8 0), .v (.int .u8 0)]) ++ []) = byA (flat (listF valK (i + 1))) := by
  rw [← listF_next valK i]
  congr 2
  show _ = (nameC (valK i)).toList.map AV.v
  unfold valK
  rw [nameC_nameOf]
  rfl
def genN (k : Nat) : Int := [4, 1, 3, 2, 7].getD (k % 5) 0
def genE (k : Nat) : Int := [2, 0, 1, 3].getD (k / 5 % 4) 0
def genK (k : Nat) : Int := [60, 0, 10].getD (k / 20 % 3) 0
def gen0 (S : List UInt8 → UInt64) (k : Nat) : Gen := ⟨genN k, genK k, listF valK (min (genN k + genE k) 10).toNat, listF (fun i => pubN S (accS i)) 3, [100, 50, 0]⟩
theorem genN_bd (k : Nat) : 1 ≤ genN k ∧ genN k ≤ 7 := by
  unfold genN
  have : k % 5 < 5 := Nat.mod_lt _ (by decide)
  generalize k % 5 = j at this
  match j, this with
  | 0, _ | 1, _ | 2, _ | 3, _ | 4, _ => exact ⟨by decide, by decide⟩
theorem genE_bd (k : Nat) : 0 ≤ genE k ∧ genE k ≤ 3 := by
  unfold genE
  have : k / 5 % 4 < 4 := Nat.mod_lt _ (by decide)
  generalize k / 5 % 4 = j at this
  match j, this with
  | 0, _ | 1, _ | 2, _ | 3, _ => exact ⟨by decide, by decide⟩
theorem genK_bd (k : Nat) : 0 ≤ genK k ∧ genK k ≤ 60 := by
  unfold genK
  have : k / 20 % 3 < 3 := Nat.mod_lt _ (by decide)
  generalize k / 20 % 3 = j at this
  match j, this with
  | 0, _ | 1, _ | 2, _ => exact ⟨by decide, by decide⟩
theorem gen0_ok (S : List UInt8 → UInt64) (k : Nat) : GenOk (gen0 S k) := by
  have h1 := genN_bd k
  have h2 := genE_bd k
  have h3 := genK_bd k
  have hl : (listF valK (min (genN k + genE k) 10).toNat).length = (min (genN k + genE k) 10).toNat := listF_length _ _
  have hl2 : (listF (fun i => pubN S (accS i)) 3).length = 3 := listF_length _ _
  refine ⟨h1.1, h1.2, ?_, ?_, ?_, ?_, ?_, ?_, ?_, ?_⟩ <;> unfold gen0 <;> dsimp only
  · rw [hl]; omega
  · rw [hl]; omega
  · rw [hl2]; decide
  · rw [hl2]; decide
  · rw [hl2]; rfl
  · omega
  · omega
  · intro i hi
    match i, hi with
    | 0, _ | 1, _ | 2, _ => exact ⟨by decide, by decide⟩
section
variable (S : List UInt8 → UInt64) (hS : HashF S)
include hS
theorem new_ok (g : Gen) (hg : GenOk g) : Acts Tryz.prog 24 [] [.ag (genCs g)] (.pt 0 0) [some (wdB g.n g.s (.ex g.vs.length false (byA (flat g.vs))) (.ex g.ac.length false (byA (flat g.ac))) (.ex g.bl.length false (inA g.bl)) (.ex 0 false []) (.ex 1 false (itsA [genIt S g])) 0 0), some ⟨vtsA [], 87, 22⟩] := by
  have hi := genItem_ok S hS g hg
  unfold genCs at hi ⊢
  refine Acts.of (fn := Tryz.f24) Tryz.func24 rfl (lb rfl) (lb rfl) fun w bl hid loc => ?_
  (
 apply Gol.sr; apply t1; exact s_box rfl rfl; apply t0; exact sA rfl; dsimp only [reduceAdd, reduceMul]; exact dn; exact rfl; apply Gol.sr
 apply t0; exact s_loadW rfl rfl rfl (agu_cua _); apply tq; exact s_call (f := 55) rfl (eC rfl eN) (aC aL aN) hi (lb rfl)
 dsimp only [reduceAdd, reduceMul, reduceSub, na, ca, nbk, mc, ml]; apply t0; exact sM rfl
 apply t0; exact s_extract rfl rfl; apply t0; exact s_extract rfl rfl; apply t1; exact s_alloc; apply n1; exact s_storeW rfl rfl rfl rfl rfl rfl; apply t0
 exact sA rfl; dsimp only [reduceAdd, reduceMul]; exact dn; exact rfl; apply Gol.sr; apply t0; exact s_loadW rfl rfl rfl (agu_cua _); dsimp only [reduceAdd, reduceMul, reduceSub, na, ca, nbk, mc, ml]
 apply tq; apply s_bld; exact rfl; (focus (dsimp only [splB, cuB, spl, cu, Value.cells, nameC, List.map, List.take, List.drop, List.append, List.length, List.cons_append, List.nil_append, Nat.reduceAdd, List.take_succ_cons, List.take_zero, List.drop_succ_cons, List.drop_zero, List.take_nil, List.drop_nil, List.append_nil, List.length_cons, List.length_nil]; done))
 dsimp only [reduceAdd, reduceMul, reduceSub, na, ca, nbk, mc, ml]; apply t1; exact s_box rfl rfl
 apply t0; exact sA rfl; dsimp only [reduceAdd, reduceMul]; exact dn; exact rfl; refine Gol.seq ?_; apply Gol.sr; apply t0
 exact sM rfl; apply t0; exact s_eqn rfl rfl; dsimp only [reduceAdd, reduceMul]; exact dn; exact rfl)
  refine Gol.cond_t rfl rfl ?_
  (
 apply Gol.region; apply t0; exact sM rfl; apply t0; exact s_loadW rfl rfl rfl (agu_cua _); apply t1; exact s_lit (PA.cons rfl rfl rfl PA.nil) rfl (by first | omega | exact lb rfl | decide | (simp <;> omega) | (dsimp <;> omega))
 apply t0; exact s_nilCheck rfl rfl; apply t0; exact sF rfl; apply n1; exact s_store rfl rfl rfl rfl rfl (lb rfl); dsimp only [reduceAdd, reduceMul]
 exact dn; exact rfl; refine thn_n ?_)
  refine Gol.le (Le.giveSC (B := 104) (b := 152) (cs := itsA [genIt S g]) 8 rfl rfl rfl rfl rfl rfl) ?_
  refine Gol.le (Le.nilC (B := 104) 5 87 22 rfl rfl rfl) ?_
  (apply Gol.sr; apply t0; exact sM rfl; apply t0; exact sA rfl; dsimp only [reduceAdd, reduceMul]; exact dn; exact rfl; refine Gol.ret ?_)
  (
 apply RetA.mk [104, 184] (by first | exact .inr rfl | exact .inl rfl); apply res_1 rfl; exact res_tmp rfl; exact rfl; exact rfl; exact rfl; apply OAs.kept
 exact rfl; exact rfl; exact rfl; apply rK; apply rK; apply rK
 apply rK; apply rK; apply RenL.cons; apply Ren.sl; exact IdR.mk rfl; apply rK; apply RenL.cons; exact Ren.nil rfl; apply rK; exact RenL.nil; apply OAs.kept; exact rfl
 exact rfl; exact rfl; exact RenL.clo; exact OAs.nil; apply Ren.pt; exact IdR.mk rfl)
set_option maxHeartbeats 3200000 in
theorem genesis_ok (k : Nat) (hk : k ≤ 65535) : Acts Tryz.prog 25 [] [.v (.int .i64 (k : Int)), .v (.bool false)] (.ag (genCs (gen0 S k))) [] := by
  have h1 := genN_bd k
  have h2 := genE_bd k
  have h3 := genK_bd k
  have c1 : ([.v (.int .i64 4), .v (.int .i64 1), .v (.int .i64 3), .v (.int .i64 2), .v (.int .i64 7)] : List AV)[k % 5 * 1]? = some (.v (.int .i64 (genN k))) := in_get (l := [4, 1, 3, 2, 7]) (show k % 5 < 5 from Nat.mod_lt _ (by decide))
  have c2 : ([.v (.int .i64 2), .v (.int .i64 0), .v (.int .i64 1), .v (.int .i64 3)] : List AV)[k / 5 % 4 * 1]? = some (.v (.int .i64 (genE k))) := in_get (l := [2, 0, 1, 3]) (show k / 5 % 4 < 4 from Nat.mod_lt _ (by decide))
  have c3 : ([.v (.int .i64 60), .v (.int .i64 0), .v (.int .i64 10)] : List AV)[k / 20 % 3 * 1]? = some (.v (.int .i64 (genK k))) := in_get (l := [60, 0, 10]) (show k / 20 % 3 < 3 from Nat.mod_lt _ (by decide))
  have n1 := next_ok [(k : Int), ((k / 5 : Nat) : Int), ((k / 20 : Nat) : Int)] false 0 5 (k : Int) rfl (by decide) (by simp) (by unfold okZ; omega) (by unfold okZ; omega)
  have n2 := next_ok [(k : Int), ((k / 5 : Nat) : Int), ((k / 20 : Nat) : Int)] false 1 4 ((k / 5 : Nat) : Int) rfl (by decide) (by simp) (by unfold okZ; omega) (by unfold okZ; omega)
  have n3 := next_ok [(k : Int), ((k / 5 : Nat) : Int), ((k / 20 : Nat) : Int)] false 2 3 ((k / 20 : Nat) : Int) rfl (by decide) (by simp) (by unfold okZ; omega) (by unfold okZ; omega)
  have m1 : (k : Int) % 5 = ((k % 5 : Nat) : Int) := by omega
  have m2 : ((k / 5 : Nat) : Int) % 4 = ((k / 5 % 4 : Nat) : Int) := by omega
  have m3 : ((k / 20 : Nat) : Int) % 3 = ((k / 20 % 3 : Nat) : Int) := by omega
  have b1 : k % 5 < 5 := Nat.mod_lt _ (by decide)
  have b2 : k / 5 % 4 < 4 := Nat.mod_lt _ (by decide)
  have b3 : k / 20 % 3 < 3 := Nat.mod_lt _ (by decide)
  rw [m1] at n1
  rw [m2] at n2
  rw [m3] at n3
  have hv : ∃ q : Nat, min (genN k + genE k) 10 = (q : Int) ∧ (min (genN k + genE k) 10).toNat = q ∧ q ≤ 10 := ⟨(min (genN k + genE k) 10).toNat, by omega, rfl, by omega⟩
  obtain ⟨q, hq, hq2, hq10⟩ := hv
  unfold gen0 genCs
  dsimp only
  rw [hq2]
  generalize genN k = N at *
  generalize genE k = E at *
  generalize genK k = K at *
  refine Acts.of (fn := Tryz.f25) Tryz.func25 rfl (lb rfl) (lb rfl) fun w bl hid loc => ?_
  (apply Gol.sr; apply t1; exact s_alloc; dsimp only [reduceAdd, reduceMul]; exact dn; exact rfl)
  (
 apply Gol.sr; apply t0; exact sM rfl; apply t0; exact sM rfl; apply t0; exact s_quon rfl rfl (by decide) (by omega); apply t0; exact sM rfl
 apply t0; exact s_quon rfl rfl (by decide) (by omega); apply tq; exact s_bytesP (PV.cons rfl rfl rfl (PV.cons rfl rfl rfl (PV.cons rfl rfl rfl PV.nil))) rfl (by omega)
 dsimp only [reduceAdd, reduceMul, reduceSub, na, ca, nbk, mc, ml]; apply tq; apply s_bld; exact rfl; (focus (dsimp only [splB, cuB, spl, cu, Value.cells, nameC, List.map, List.take, List.drop, List.append, List.length, List.cons_append, List.nil_append, Nat.reduceAdd, List.take_succ_cons, List.take_zero, List.drop_succ_cons, List.drop_zero, List.take_nil, List.drop_nil, List.append_nil, List.length_cons, List.length_nil]; done))
 dsimp only [reduceAdd, reduceMul, reduceSub, na, ca, nbk, mc, ml]; apply t1; exact s_box rfl rfl
 apply t0; exact sA rfl; dsimp only [reduceAdd, reduceMul]; exact dn; exact rfl)
  refine Gol.le (Le.giveSC (B := 72) (b := 56) (cs := inA [(k : Int), ((k / 5 : Nat) : Int), ((k / 20 : Nat) : Int)]) 0 rfl rfl rfl rfl rfl rfl) ?_
  (
 apply Gol.sr; apply tq; exact s_bytesP (PV.cons rfl rfl rfl (PV.cons rfl rfl rfl (PV.cons rfl rfl rfl (PV.cons rfl rfl rfl (PV.cons rfl rfl rfl PV.nil))))) rfl (by omega)
 dsimp only [reduceAdd, reduceMul, reduceSub, na, ca, nbk, mc, ml]; apply t0; exact sM rfl
 dsimp only [reduceAdd, reduceMul, reduceSub, na, ca, nbk, mc, ml]; apply tq; apply s_acts (f := 56) [72] rfl inferInstance; exact n1; apply eC rfl; apply eC rfl
 exact eN; exact rfl; apply ABs.cons; exact rfl; exact rfl; exact rfl; apply rK; apply rK
 exact RenL.nil; exact ABs.nil; dsimp only [List.cons_append, List.nil_append, List.append_nil]; apply RenL.cons; apply Ren.pt; exact CaR.old rfl; apply rK; exact RenL.nil; exact rZ; apply HRen.kept; exact CaR.old rfl; apply rK
 apply rK; exact RenL.nil; exact HRen.nil; exact lb rfl; dsimp only [reduceAdd, reduceMul, reduceSub, na, ca, nbk, nones, mc, ml]
 apply t0; exact s_ixl rfl rfl rfl (by omega); apply t0; exact s_load rfl rfl c1; dsimp only [reduceAdd, reduceMul, reduceSub, na, ca, nbk, mc, ml]
 apply tq; apply s_bld; exact rfl; (focus (dsimp only [splB, cuB, spl, cu, Value.cells, nameC, List.map, List.take, List.drop, List.append, List.length, List.cons_append, List.nil_append, Nat.reduceAdd, List.take_succ_cons, List.take_zero, List.drop_succ_cons, List.drop_zero, List.take_nil, List.drop_nil, List.append_nil, List.length_cons, List.length_nil]; done))
 dsimp only [reduceAdd, reduceMul, reduceSub, na, ca, nbk, mc, ml]; apply t1; exact s_alloc
 apply YtneeclacmhhblaaGreat.n1; exact s_storeW rfl rfl rfl rfl rfl rfl; dsimp only [reduceAdd, reduceMul]; exact dn; exact rfl)
  (
 refine Gol.seq ?_; apply Gol.any; kernel_rfl; apply t0; exact sF rfl; apply t0; exact s_load rfl rfl rfl; apply tq
 exact s_bytesP (PV.cons rfl rfl rfl (PV.cons rfl rfl rfl (PV.cons rfl rfl rfl (PV.cons rfl rfl rfl PV.nil)))) rfl (by omega); dsimp only [reduceAdd, reduceMul, reduceSub, na, ca, nbk, mc, ml]
 apply t0; exact sM rfl; dsimp only [reduceAdd, reduceMul, reduceSub, na, ca, nbk, mc, ml]
 apply tq; apply s_acts (f := 56) [72] rfl inferInstance; exact n2; apply eC rfl
 apply eC rfl; exact eN; exact rfl; apply ABs.cons; exact rfl; exact rfl; exact rfl; apply rK; apply rK; exact RenL.nil; exact ABs.nil; dsimp only [List.cons_append, List.nil_append, List.append_nil]; apply RenL.cons; apply Ren.pt
 exact CaR.old rfl; apply rK; exact RenL.nil; exact rZ; apply HRen.kept; exact CaR.old rfl; apply rK; apply rK; exact RenL.nil; exact HRen.nil; exact lb rfl; dsimp only [reduceAdd, reduceMul, reduceSub, na, ca, nbk, nones, mc, ml]
 apply t0; exact s_ixl rfl rfl rfl (by omega); apply t0; exact s_load rfl rfl c2; apply t0; exact s_add rfl rfl (by omega); apply t0; exact s_min rfl rfl
 apply t0; exact sA rfl; dsimp only [reduceAdd, reduceMul]; exact dn; kernel_rfl; exact rfl; refine thn_n ?_)
  rw [hq]
  (
 apply Gol.sr; apply tq; exact s_bytesP (PV.cons rfl rfl rfl (PV.cons rfl rfl rfl (PV.cons rfl rfl rfl PV.nil))) rfl (by omega); dsimp only [reduceAdd, reduceMul, reduceSub, na, ca, nbk, mc, ml]
 apply t0; exact sM rfl; dsimp only [reduceAdd, reduceMul, reduceSub, na, ca, nbk, mc, ml]
 apply tq; apply s_acts (f := 56) [72] rfl inferInstance; exact n3; apply eC rfl
 apply eC rfl; exact eN; exact rfl; apply ABs.cons; exact rfl; exact rfl; exact rfl; apply rK; apply rK; exact RenL.nil; exact ABs.nil; dsimp only [List.cons_append, List.nil_append, List.append_nil]; apply RenL.cons; apply Ren.pt
 exact CaR.old rfl; apply rK; exact RenL.nil; exact rZ; apply HRen.kept; exact CaR.old rfl; apply rK; apply rK; exact RenL.nil; exact HRen.nil; exact lb rfl; dsimp only [reduceAdd, reduceMul, reduceSub, na, ca, nbk, nones, mc, ml]
 apply t0; exact s_ixl rfl rfl rfl (by omega); apply t0; exact s_load rfl rfl c3; apply t0; exact sF rfl; apply YtneeclacmhhblaaGreat.n1; exact s_store rfl rfl rfl rfl rfl (lb rfl)
 dsimp only [reduceAdd, reduceMul]; exact dn; exact rfl)
  refine Gol.le (Le.nilC (B := 136) 2 23 8 rfl rfl rfl) ?_
  refine Gol.le (Le.nilC (B := 136) 3 23 8 rfl rfl rfl) ?_
  refine Gol.le (Le.nilC (B := 136) 4 3 1 rfl rfl rfl) ?_
  (refine Gol.seq ?_; apply Gol.sr; apply t0; exact sA rfl; dsimp only [reduceAdd, reduceMul]; exact dn; exact rfl; refine Gol.block ?_)
  refine Gol.loop (ι := Nat) (fun i => i ≤ q) (fun i => q - i) 400 (fun i => [(136, some ⟨[.v (.int .i64 N), .v (.int .i64 K), .sl 300 i, .sl 301 0, .sl 302 0], 51, 5⟩), (300, some ⟨byA (flat (listF valK i)), 23, 8⟩), (301, some ⟨byA (flat []), 23, 8⟩), (302, some ⟨inA [], 3, 1⟩), (8, some ⟨[.v (.int .i64 0), .v (.int .i64 0), .v (.slice none 0 0), .v (.slice none 0 0), .v (.slice none 0 0)], 51, 5⟩)])
    (fun i => [(1, .v (.bool false)), (4, .pt 8 0), (6, .pt 136 0), (7, .v (.int .i64 (q : Int))), (8, .v (.int .i64 (i : Int)))]) 0 (Nat.zero_le _) ?_ ?_
  · (
 apply Le.mk3' [(300, 288), (301, 296), (302, 304)]; apply RnT3.c; exact rfl; apply Rn3.r; exact Rn.v rfl; apply RnT3.c; exact rfl; apply Rn3.r; exact Rn.pt rfl rfl
 apply RnT3.c; exact rfl; apply Rn3.r; exact Rn.pt rfl rfl; apply RnT3.c; exact rfl; apply Rn3.r; exact Rn.v rfl; apply RnT3.c; exact rfl; apply Rn3.r
 exact Rn.v rfl; exact RnT3.n; apply RnH3.c; exact rfl; exact rfl; apply RnC.l; apply Rn3L.cons; apply Rn3.r; exact Rn.v rfl; apply Rn3L.cons; apply Rn3.r
 exact Rn.v rfl; apply Rn3L.cons; apply Rn3.r; exact Rn.sl rfl rfl; apply Rn3L.cons; apply Rn3.r; exact Rn.sl rfl rfl; apply Rn3L.cons; apply Rn3.r; exact Rn.sl rfl rfl
 exact Rn3L.nil; exact rfl; exact rfl; apply RnH3.c; exact rfl; exact rfl; apply RnC.cl; rfl; exact inferInstance; exact rfl; exact rfl; apply RnH3.c; exact rfl
 exact rfl; apply RnC.cl; rfl; exact inferInstance; exact rfl; exact rfl; apply RnH3.c; exact rfl; exact rfl; apply RnC.cl; rfl; exact inferInstance; exact rfl
 exact rfl; apply RnH3.c; exact rfl; exact rfl; apply RnC.cl; rfl; exact inferInstance; exact rfl; exact rfl; exact RnH3.n; exact rfl; exact rfl)
  intro i hi
  have hl := listF_length valK i
  (
 refine Gol.seq ?_; apply Gol.sr; apply t0; exact sM rfl; apply t0; exact sM rfl; apply t0; exact s_ltn rfl rfl; dsimp only [reduceAdd, reduceMul]
 exact dn; exact rfl)
  refine Gol.cond rfl (fun h => ?_) (fun h => ?_)
  · have hlt : i < q := of_decide_eq_true h
    (
 refine Gol.skip ?_; refine thn_n ?_; refine Gol.seq ?_; refine Gol.block ?_; apply Gol.sr
 apply t0; exact sM rfl; apply t0; exact s_addn rfl rfl (by simp <;> omega); apply t0; exact s_cu8 rfl; dsimp only [reduceAdd, reduceMul, reduceSub, na, ca, nbk, mc, ml]
 apply tq; apply s_bld; exact rfl; (focus (dsimp only [splB, cuB, spl, cu, Value.cells, nameC, List.map, List.take, List.drop, List.append, List.length, List.cons_append, List.nil_append, Nat.reduceAdd, List.take_succ_cons, List.take_zero, List.drop_succ_cons, List.drop_zero, List.take_nil, List.drop_nil, List.append_nil, List.length_cons, List.length_nil]; done))
 dsimp only [reduceAdd, reduceMul, reduceSub, na, ca, nbk, mc, ml]; apply t1; exact s_alloc
 apply YtneeclacmhhblaaGreat.n1; exact s_storeW rfl rfl rfl rfl rfl rfl; dsimp only [reduceAdd, reduceMul]; exact dn; exact rfl; refine Gol.seq ?_; apply Gol.sr
 apply t0; exact sM rfl; dsimp only [reduceAdd, reduceMul]; exact dn; exact rfl)
    refine Gol.cond_f rfl rfl ?_
    (
 refine Gol.skip ?_; refine thn_n ?_; apply Gol.region; apply t0; exact sF rfl; apply t0; exact s_load rfl rfl rfl
 apply t0; exact s_loadW rfl rfl rfl (agu_cua _); apply t1; exact s_lit (PA.cons rfl rfl rfl PA.nil) rfl (by first | omega | exact lb rfl | decide | (simp <;> omega) | (dsimp <;> omega)); apply tq; exact s_app rfl rfl rfl (rd_sl rfl rfl) (by simp only [byA_length, List.length_append, List.length_cons, List.length_nil, List.length_take, List.length_drop, List.length_replicate, List.length_map, Nat.mul_one, nameB_length, flat_length, List.length_set, inA_length, dsA_length, lsA_length, dA_length, lA_length, itsA_length, vtsA_length, rcsA_length] <;> omega) rfl rfl rfl (by omega)
 dsimp only [reduceAdd, reduceMul, reduceSub, na, ca, nbk, mc, ml]; apply t0; exact sF rfl
 apply YtneeclacmhhblaaGreat.n1; exact s_store rfl rfl rfl rfl rfl (lb rfl); dsimp only [reduceAdd, reduceMul]; exact dn; exact rfl; refine inBlk_n ?_
 refine thn_n ?_; apply Gol.region; apply t0; exact sM rfl; apply t0; exact s_addn rfl rfl (by simp <;> omega); apply t0
 exact sA rfl; dsimp only [reduceAdd, reduceMul]; exact dn; exact rfl)
    refine rnd_n (i + 1) hlt (by omega) ?_
    (
 apply Le.mk3' [(300, 512), (301, 301), (302, 302)]; apply RnT3.c; exact rfl; apply Rn3.r; exact Rn.v rfl; apply RnT3.c; exact rfl; apply Rn3.r; exact Rn.pt rfl rfl
 apply RnT3.c; exact rfl; apply Rn3.r; exact Rn.pt rfl rfl; apply RnT3.c; exact rfl; apply Rn3.r; exact Rn.v rfl; apply RnT3.c; exact rfl; apply Rn3.r
 exact Rn.v rfl; exact RnT3.n; apply RnH3.c; exact rfl; exact rfl; apply RnC.l; apply Rn3L.cons; apply Rn3.r; exact Rn.v rfl; apply Rn3L.cons; apply Rn3.r
 exact Rn.v rfl; apply Rn3L.cons; apply Rn3.r; exact Rn.sl rfl rfl; apply Rn3L.cons; apply Rn3.r; exact Rn.sl rfl rfl; apply Rn3L.cons; apply Rn3.r; exact Rn.sl rfl rfl
 exact Rn3L.nil; exact rfl; exact rfl; apply RnH3.c; exact rfl; exact rfl; apply RnC.cl; exact valK_next i; exact inferInstance; exact rfl; exact rfl; apply RnH3.c
 exact rfl; exact rfl; apply RnC.cl; rfl; exact inferInstance; exact rfl; exact rfl; apply RnH3.c; exact rfl; exact rfl; apply RnC.cl; rfl; exact inferInstance
 exact rfl; exact rfl; apply RnH3.c; exact rfl; exact rfl; apply RnC.cl; rfl; exact inferInstance; exact rfl; exact rfl; exact RnH3.n; exact rfl; exact rfl)
  have hge : ¬ i < q := of_decide_eq_false h
  obtain rfl : i = q := by omega
  generalize listF valK i = V at hl ⊢
  (
 refine Gol.exit ?_; refine thn_x ?_; refine rnd_x ?_; refine inBlk_hit ?_; refine thn_n ?_
 refine Gol.seq ?_; apply Gol.sr; apply t0; exact sA rfl; dsimp only [reduceAdd, reduceMul]; exact dn; exact rfl; refine Gol.block ?_)
  refine Gol.loop (ι := Nat) (fun j => j ≤ 3) (fun j => 3 - j) 700 (fun j => [(136, some ⟨[.v (.int .i64 N), .v (.int .i64 K), .sl 300 i, .sl 301 j, .sl 302 j], 51, 5⟩), (300, some ⟨byA (flat V), 23, 8⟩), (301, some ⟨byA (flat (listF (fun i => pubN S (accS i)) j)), 23, 8⟩), (302, some ⟨inA ([100, 50, 0].take j), 3, 1⟩), (8, some ⟨[.v (.int .i64 0), .v (.int .i64 0), .v (.slice none 0 0), .v (.slice none 0 0), .v (.slice none 0 0)], 51, 5⟩)])
    (fun j => [(1, .v (.bool false)), (4, .pt 8 0), (6, .pt 136 0), (10, .v (.int .i64 (j : Int)))]) 0 (Nat.zero_le _) ?_ ?_
  · (
 apply Le.mk3' []; apply RnT3.c; exact rfl; apply Rn3.r; exact Rn.v rfl; apply RnT3.c; exact rfl; apply Rn3.r; exact Rn.pt rfl rfl; apply RnT3.c; exact rfl
 apply Rn3.r; exact Rn.pt rfl rfl; apply RnT3.c; exact rfl; apply Rn3.r; exact Rn.v rfl; exact RnT3.n; apply RnH3.c; exact rfl; exact rfl; apply RnC.l
 apply Rn3L.cons; apply Rn3.r; exact Rn.v rfl; apply Rn3L.cons; apply Rn3.r; exact Rn.v rfl; apply Rn3L.cons; apply Rn3.r; exact Rn.sl rfl rfl; apply Rn3L.cons
 apply Rn3.r; exact Rn.sl rfl rfl; apply Rn3L.cons; apply Rn3.r; exact Rn.sl rfl rfl; exact Rn3L.nil; exact rfl; exact rfl; apply RnH3.c; exact rfl; exact rfl
 apply RnC.cl; rfl; exact inferInstance; exact rfl; exact rfl; apply RnH3.c; exact rfl; exact rfl; apply RnC.cl; rfl; exact inferInstance; exact rfl; exact rfl
 apply RnH3.c; exact rfl; exact rfl; apply RnC.cl; rfl; exact inferInstance; exact rfl; exact rfl; apply RnH3.c; exact rfl; exact rfl; apply RnC.cl; rfl
 exact inferInstance; exact rfl; exact rfl; exact RnH3.n; exact rfl; exact rfl)
  intro j hj
  have hl2 := listF_length (fun i => pubN S (accS i)) j
  have hl3 : ([100, 50, 0].take j : List Int).length = j := by rw [List.length_take]; simp; omega
  (
 refine Gol.seq ?_; apply Gol.sr; apply t0; exact sM rfl; apply t0; exact s_ltn rfl rfl; dsimp only [reduceAdd, reduceMul]
 exact dn; exact rfl)
  refine Gol.cond rfl (fun h => ?_) (fun h => ?_)
  · have hlt : j < 3 := of_decide_eq_true h
    have c4 : ([.v (.int .i64 100), .v (.int .i64 50), .v (.int .i64 0)] : List AV)[j * 1]? = some (.v (.int .i64 ([100, 50, 0].getD j 0))) := in_get (l := [100, 50, 0]) hlt
    have hi2 : inA ([100, 50, 0].take j) ++ (cu (.v (.int .i64 ([100, 50, 0].getD j 0))) ++ []) = inA ([100, 50, 0].take (j + 1)) := by
      rw [inA_next]
      congr 1
      match j, hlt with
      | 0, _ | 1, _ | 2, _ => rfl
    (
 refine Gol.skip ?_; refine thn_n ?_; refine Gol.seq ?_; refine Gol.block ?_; refine Gol.seq ?_
 apply Gol.any; kernel_rfl; apply t0; exact sF rfl; apply t0; exact s_load rfl rfl rfl; apply t0; exact sM rfl; apply tq
 exact s_call (f := 59) rfl (eC rfl eN) (aC aL aN) (accSeed_ok j (by omega)) (lb rfl)
 dsimp only [reduceAdd, reduceMul, reduceSub, na, ca, nbk, mc, ml]; apply tq; exact s_call (f := 57) rfl (eC rfl (eC rfl eN)) (aC aL (aC aL aN)) (pub1_ok S hS (accS j)) (lb rfl)
 dsimp only [reduceAdd, reduceMul, reduceSub, na, ca, nbk, mc, ml]; apply t1; exact s_lit (PA.cons rfl rfl rfl PA.nil) rfl (by first | omega | exact lb rfl | decide | (simp <;> omega) | (dsimp <;> omega))
 apply tq; exact s_app rfl rfl rfl (rd_sl rfl rfl) (by simp only [byA_length, List.length_append, List.length_cons, List.length_nil, List.length_take, List.length_drop, List.length_replicate, List.length_map, Nat.mul_one, nameB_length, flat_length, List.length_set, inA_length, dsA_length, lsA_length, dA_length, lA_length, itsA_length, vtsA_length, rcsA_length] <;> omega) rfl rfl rfl (by omega)
 dsimp only [reduceAdd, reduceMul, reduceSub, na, ca, nbk, mc, ml]; apply t0; exact sF rfl
 apply YtneeclacmhhblaaGreat.n1; exact s_store rfl rfl rfl rfl rfl (lb rfl); dsimp only [reduceAdd, reduceMul]; exact dn; kernel_rfl; exact rfl; refine thn_n ?_)
    (
 apply Gol.any; kernel_rfl; apply t0; exact sF rfl; apply t0; exact s_load rfl rfl rfl; apply tq; exact s_bytesP (PV.cons rfl rfl rfl (PV.cons rfl rfl rfl (PV.cons rfl rfl rfl PV.nil))) rfl (by omega)
 dsimp only [reduceAdd, reduceMul, reduceSub, na, ca, nbk, mc, ml]; apply t0; exact sM rfl
 apply t0; exact s_ixl rfl rfl rfl (by omega); apply t0; exact s_load rfl rfl c4; apply tq; exact s_bytesP (PV.cons rfl rfl rfl PV.nil) rfl (by omega)
 dsimp only [reduceAdd, reduceMul, reduceSub, na, ca, nbk, mc, ml]; apply tq; exact s_app rfl rfl rfl (rd_sl rfl rfl) (by simp only [byA_length, List.length_append, List.length_cons, List.length_nil, List.length_take, List.length_drop, List.length_replicate, List.length_map, Nat.mul_one, nameB_length, flat_length, List.length_set, inA_length, dsA_length, lsA_length, dA_length, lA_length, itsA_length, vtsA_length, rcsA_length] <;> omega) rfl rfl OneL.one (by omega)
 dsimp only [reduceAdd, reduceMul, reduceSub, na, ca, nbk, mc, ml]; apply t0; exact sF rfl
 apply YtneeclacmhhblaaGreat.n1; exact s_store rfl rfl rfl rfl rfl (lb rfl); dsimp only [reduceAdd, reduceMul]; exact dn; kernel_rfl; exact rfl; refine inBlk_n ?_
 refine thn_n ?_)
    (
 apply Gol.region; apply t0; exact sM rfl; apply t0; exact s_addn rfl rfl (by simp <;> omega); apply t0; exact sA rfl; dsimp only [reduceAdd, reduceMul]
 exact dn; exact rfl)
    refine rnd_n (j + 1) hlt (by omega) ?_
    (
 apply Le.mk3' [(300, 300), (301, 764), (302, 844)]; apply RnT3.c; exact rfl; apply Rn3.r; exact Rn.v rfl; apply RnT3.c; exact rfl; apply Rn3.r; exact Rn.pt rfl rfl
 apply RnT3.c; exact rfl; apply Rn3.r; exact Rn.pt rfl rfl; apply RnT3.c; exact rfl; apply Rn3.r; exact Rn.v rfl; exact RnT3.n; apply RnH3.c; exact rfl
 exact rfl; apply RnC.l; apply Rn3L.cons; apply Rn3.r; exact Rn.v rfl; apply Rn3L.cons; apply Rn3.r; exact Rn.v rfl; apply Rn3L.cons; apply Rn3.r; exact Rn.sl rfl rfl
 apply Rn3L.cons; apply Rn3.r; exact Rn.sl rfl rfl; apply Rn3L.cons; apply Rn3.r; exact Rn.sl rfl rfl; exact Rn3L.nil; exact rfl; exact rfl; apply RnH3.c
 exact rfl; exact rfl; apply RnC.cl; rfl; exact inferInstance; exact rfl; exact rfl; apply RnH3.c; exact rfl; exact rfl; apply RnC.cl; exact listF_next (fun i => pubN S (accS i)) j
 exact inferInstance; exact rfl; exact rfl; apply RnH3.c; exact rfl; exact rfl; apply RnC.cl; exact hi2; exact inferInstance; exact rfl; exact rfl; apply RnH3.c
 exact rfl; exact rfl; apply RnC.cl; rfl; exact inferInstance; exact rfl; exact rfl; exact RnH3.n; exact rfl; exact rfl)
  have hge : ¬ j < 3 := of_decide_eq_false h
  obtain rfl : j = 3 := by omega
  rw [hl]
  refine Gol.le (Le.giveSC (B := 136) (b := 300) (cs := byA (flat V)) 2 rfl rfl rfl rfl rfl rfl) ?_
  refine Gol.le (Le.giveSC (B := 136) (b := 301) (cs := byA (flat (listF (fun i => pubN S (accS i)) 3))) 3 rfl rfl rfl rfl rfl rfl) ?_
  refine Gol.le (Le.giveSC (B := 136) (b := 302) (cs := inA [100, 50, 0]) 4 rfl rfl rfl rfl rfl rfl) ?_
  (
 refine Gol.exit ?_; refine thn_x ?_; refine rnd_x ?_; refine inBlk_hit ?_; refine thn_n ?_
 apply Gol.sr; apply t0; exact s_loadW rfl rfl rfl (agu_cua _); apply YtneeclacmhhblaaGreat.n1; exact s_storeW rfl rfl rfl rfl rfl rfl; dsimp only [reduceAdd, reduceMul]
 exact dn; exact rfl; refine Gol.ret ?_)
  (
 apply RetA.mk [] (by first | exact .inr rfl | exact .inl rfl); apply res_1 rfl; exact res_cell rfl rfl rfl (agu_cua _); exact rfl; exact rfl; exact rfl
 exact OAs.nil; exact rZ)
end
end Go.Proofs.YtneeclacmhhblaaGreat


namespace Go.Proofs.YtneeclacmhhblaaGreat
open Go.RowKit
open Nat (reduceAdd reduceMul reduceSub)

def allB (st : Stu) (g set : Int) : Bool := decide (0 < sizN (andNotI st.c g)) && decide (sizN (andNotI (andNotI st.c g) set) = 0)
def fullB (st : Stu) (g : Int) : Bool := st.g || allB st g st.s
def acksN (st : Stu) (g : Int) : Int := if fullB st g = true then st.a else 0
def countedB (st : Stu) (g : Int) : Bool := st.g || decide (0 < sizN (andNotI st.s g))
def lockedB (st : Stu) (g : Int) : Bool := st.g || decide (0 < sizN (andNotI (acksN st g) g))
def finalB (st : Stu) (g : Int) : Bool := st.g || allB st g (acksN st g)
theorem all_ok (st : Stu) (g set : Int) : Fresh Tryz.prog 93 [.v (.agg (stuC st)), .v (.int .i64 g), .v (.int .i64 set)] (fun _ => .v (.bool (allB st g set))) [] := by
  unfold allB
  by_cases h : 0 < sizN (andNotI st.c g)
  · have d : decide (0 < sizN (andNotI st.c g)) = true := decide_eq_true h
    rw [d, Bool.true_and]
    refine Fresh.of (fn := Tryz.f93) Tryz.func93 rfl (lb rfl) fun w => ?_
    (
 apply Gol.sr; apply t1; exact s_box rfl rfl; apply t0; exact sA rfl; dsimp only [reduceAdd, reduceMul]; exact dn; exact rfl; apply Gol.sr
 apply t0; exact sF rfl; apply t0; exact s_load rfl rfl rfl; apply t0; exact sM rfl; apply t0; exact s_andNotI rfl rfl; apply t0; exact sA rfl
 dsimp only [reduceAdd, reduceMul]; exact dn; exact rfl; apply Gol.sr; apply t0; exact sM rfl; apply tq; exact s_call (f := 94) rfl (eC rfl eN) (aC aL aN) (size_ok _) (lb rfl)
 dsimp only [reduceAdd, reduceMul, reduceSub, na, ca, nbk, mc, ml]; apply t0; exact s_gt rfl rfl
 apply t0; exact sM rfl; apply g0; exact wnt_g rfl rfl rfl (by simp only [*]; rfl); exact sM rfl; apply g0; exact wnt_g rfl rfl rfl (by simp only [*]; rfl)
 exact sM rfl; apply g0; exact wnt_g rfl rfl rfl (by simp only [*]; rfl); exact s_andNotI rfl rfl; apply gq; exact wnt_g rfl rfl rfl (by simp only [*]; rfl)
 exact s_call (f := 94) rfl (eC rfl eN) (aC aL aN) (size_ok _) (lb rfl); dsimp only [reduceAdd, reduceMul, reduceSub, na, ca, nbk, mc, ml]
 apply g0; exact wnt_g rfl rfl rfl (by simp only [*]; rfl); exact s_eq rfl rfl; apply t0; exact s_pick_t rfl (by assumption) rfl; apply t0; exact sA rfl
 dsimp only [reduceAdd, reduceMul]; exact dn; exact rfl; refine Gol.ret ?_)
    (apply RetQ.mk (by first | exact .inr rfl | exact .inl rfl); apply res_1 rfl; exact res_tmp rfl; exact out_val)
  · have d : decide (0 < sizN (andNotI st.c g)) = false := decide_eq_false h
    rw [d, Bool.false_and]
    refine Fresh.of (fn := Tryz.f93) Tryz.func93 rfl (lb rfl) fun w => ?_
    (
 apply Gol.sr; apply t1; exact s_box rfl rfl; apply t0; exact sA rfl; dsimp only [reduceAdd, reduceMul]; exact dn; exact rfl; apply Gol.sr
 apply t0; exact sF rfl; apply t0; exact s_load rfl rfl rfl; apply t0; exact sM rfl; apply t0; exact s_andNotI rfl rfl; apply t0; exact sA rfl
 dsimp only [reduceAdd, reduceMul]; exact dn; exact rfl; apply Gol.sr; apply t0; exact sM rfl; apply tq; exact s_call (f := 94) rfl (eC rfl eN) (aC aL aN) (size_ok _) (lb rfl)
 dsimp only [reduceAdd, reduceMul, reduceSub, na, ca, nbk, mc, ml]; apply t0; exact s_gt rfl rfl
 apply t0; exact sM rfl; apply sk; exact wnt_g rfl rfl rfl (by simp only [*]; rfl); apply sk; exact wnt_g rfl rfl rfl (by simp only [*]; rfl)
 apply sk; exact wnt_g rfl rfl rfl (by simp only [*]; rfl); apply sk; exact wnt_g rfl rfl rfl (by simp only [*]; rfl); apply sk; exact wnt_g rfl rfl rfl (by simp only [*]; rfl)
 apply t0; exact s_pick_f rfl (by assumption) rfl; apply t0; exact sA rfl; dsimp only [reduceAdd, reduceMul]; exact dn; exact rfl; refine Gol.ret ?_)
    rw [← d]
    (apply RetQ.mk (by first | exact .inr rfl | exact .inl rfl); apply res_1 rfl; exact res_tmp rfl; exact out_val)
section
variable (S : List UInt8 → UInt64) (hS : HashF S)
include hS
variable (l : List It) (vs : List Vt) (f : Bool) (K : List (UInt64 × Stu)) (n : UInt64) (hl : l.length ≤ 1000000) (hsm : ∀ x ∈ l, Sm x.st) (hK : KnOk S l vs K)
include hl hsm hK
theorem bsigners_ok : Acts Tryz.prog 63 [bookB l vs f, knB K] [.pt 0 0, .v (.agg (nameC n))] (.v (.int .i64 (stqN S l vs n).s)) [some (bookB l vs f), some (knB (knF S l vs K n))] := by
  have hst := status_ok S hS l vs f K n hl hsm hK
  generalize knF S l vs K n = K' at hst ⊢
  generalize stqN S l vs n = st at hst ⊢
  refine Acts.of (fn := Tryz.f63) Tryz.func63 rfl (lb rfl) (lb rfl) fun w bl hid loc => ?_
  (
 apply Gol.sr; apply t1; exact s_box rfl rfl; apply t0; exact sA rfl; dsimp only [reduceAdd, reduceMul]; exact dn; exact rfl; apply Gol.sr
 apply t0; exact sM rfl; apply t0; exact s_loadW rfl rfl rfl (agu_cuv _); dsimp only [reduceAdd, reduceMul, reduceSub, na, ca, nbk, mc, ml]
 apply tq; apply s_acts (f := 92) [0, 1] rfl inferInstance; exact hst; apply eC rfl
 apply eC rfl; exact eN; exact rfl; apply ABs.cons; exact rfl; exact rfl; exact rfl; apply rK; apply rK; apply rK; apply rK; apply RenL.cons; apply Ren.mp
 exact CaR.old rfl; exact RenL.nil; apply ABs.cons; exact rfl; exact rfl; exact rfl; exact RenL.clo; exact ABs.nil; dsimp only [List.cons_append, List.nil_append, List.append_nil]
 apply RenL.cons; apply Ren.pt; exact CaR.old rfl; apply rK; exact RenL.nil; exact rZ; apply HRen.kept
 exact CaR.old rfl; apply rK; apply rK; apply rK
 apply rK; apply RenL.cons; apply Ren.mp; exact CaR.old rfl; exact RenL.nil; apply HRen.kept; exact CaR.old rfl; exact RenL.clo
 exact HRen.nil; exact lb rfl; dsimp only [reduceAdd, reduceMul, reduceSub, na, ca, nbk, nones, mc, ml]
 apply t0; exact sM rfl; apply t0; exact s_extract rfl rfl; apply t0; exact s_extract rfl rfl; apply t1; exact s_alloc; apply n1; exact s_storeW rfl rfl rfl rfl rfl rfl
 apply t0; exact sA rfl; dsimp only [reduceAdd, reduceMul]; exact dn; exact rfl; apply Gol.sr; apply t0; exact sF rfl; apply t0
 exact s_load rfl rfl rfl; apply t0; exact sA rfl; dsimp only [reduceAdd, reduceMul]; exact dn; exact rfl; refine Gol.ret ?_)
  (
 apply RetA.mk [0, 1] (by first | exact .inr rfl | exact .inl rfl); apply res_1 rfl; exact res_tmp rfl; exact rfl; exact rfl; exact rfl; apply OAs.kept
 exact rfl; exact rfl; exact rfl; apply rK; apply rK; apply rK
 apply rK; apply RenL.cons; apply Ren.mp; exact IdR.mk rfl; exact RenL.nil; apply OAs.kept; exact rfl; exact rfl; exact rfl
 exact RenL.clo; exact OAs.nil; exact rZ)
theorem bcounted_ok (g : Int) : Acts Tryz.prog 67 [bookB l vs f, knB K] [.pt 0 0, .v (.int .i64 g), .v (.agg (nameC n))] (.v (.bool (countedB (stqN S l vs n) g))) [some (bookB l vs f), some (knB (knF S l vs K n))] := by
  have hst := status_ok S hS l vs f K n hl hsm hK
  generalize knF S l vs K n = K' at hst ⊢
  generalize stqN S l vs n = st at hst ⊢
  obtain ⟨c, s, a, gn⟩ := st
  cases gn with
  | true =>
    refine Acts.of (fn := Tryz.f67) Tryz.func67 rfl (lb rfl) (lb rfl) fun w bl hid loc => ?_
    (
 apply Gol.sr; apply t1; exact s_box rfl rfl; apply t0; exact sA rfl; dsimp only [reduceAdd, reduceMul]; exact dn; exact rfl; apply Gol.sr
 apply t0; exact sM rfl; apply t0; exact s_loadW rfl rfl rfl (agu_cuv _); dsimp only [reduceAdd, reduceMul, reduceSub, na, ca, nbk, mc, ml]
 apply tq; apply s_acts (f := 92) [0, 1] rfl inferInstance; exact hst; apply eC rfl
 apply eC rfl; exact eN; exact rfl; apply ABs.cons; exact rfl; exact rfl; exact rfl; apply rK; apply rK; apply rK; apply rK; apply RenL.cons; apply Ren.mp
 exact CaR.old rfl; exact RenL.nil; apply ABs.cons; exact rfl; exact rfl; exact rfl; exact RenL.clo; exact ABs.nil; dsimp only [List.cons_append, List.nil_append, List.append_nil]
 apply RenL.cons; apply Ren.pt; exact CaR.old rfl; apply rK; exact RenL.nil; exact rZ; apply HRen.kept
 exact CaR.old rfl; apply rK; apply rK; apply rK
 apply rK; apply RenL.cons; apply Ren.mp; exact CaR.old rfl; exact RenL.nil; apply HRen.kept; exact CaR.old rfl; exact RenL.clo
 exact HRen.nil; exact lb rfl; dsimp only [reduceAdd, reduceMul, reduceSub, na, ca, nbk, nones, mc, ml]
 apply t0; exact sM rfl; apply t0; exact s_extract rfl rfl; apply t0; exact s_extract rfl rfl; apply t1; exact s_alloc; apply n1; exact s_storeW rfl rfl rfl rfl rfl rfl
 apply t0; exact sA rfl; dsimp only [reduceAdd, reduceMul]; exact dn; exact rfl; apply Gol.sr; apply t0; exact sF rfl; apply t0
 exact s_load rfl rfl rfl; apply t0; exact sM rfl; apply sk; exact wnt_g rfl rfl rfl rfl; apply sk; exact wnt_g rfl rfl rfl rfl; apply sk; exact wnt_g rfl rfl rfl rfl
 apply sk; exact wnt_g rfl rfl rfl rfl; apply sk; exact wnt_g rfl rfl rfl rfl; apply sk; exact wnt_g rfl rfl rfl rfl; apply t0; exact s_pick_t rfl rfl rfl
 apply t0; exact sA rfl; dsimp only [reduceAdd, reduceMul]; exact dn; exact rfl; refine Gol.ret ?_)
    (
 apply RetA.mk [0, 1] (by first | exact .inr rfl | exact .inl rfl); apply res_1 rfl; exact res_tmp rfl; exact rfl; exact rfl; exact rfl; apply OAs.kept
 exact rfl; exact rfl; exact rfl; apply rK; apply rK; apply rK
 apply rK; apply RenL.cons; apply Ren.mp; exact IdR.mk rfl; exact RenL.nil; apply OAs.kept; exact rfl; exact rfl; exact rfl
 exact RenL.clo; exact OAs.nil; exact rZ)
  | false =>
    refine Acts.of (fn := Tryz.f67) Tryz.func67 rfl (lb rfl) (lb rfl) fun w bl hid loc => ?_
    (
 apply Gol.sr; apply t1; exact s_box rfl rfl; apply t0; exact sA rfl; dsimp only [reduceAdd, reduceMul]; exact dn; exact rfl; apply Gol.sr
 apply t0; exact sM rfl; apply t0; exact s_loadW rfl rfl rfl (agu_cuv _); dsimp only [reduceAdd, reduceMul, reduceSub, na, ca, nbk, mc, ml]
 apply tq; apply s_acts (f := 92) [0, 1] rfl inferInstance; exact hst; apply eC rfl
 apply eC rfl; exact eN; exact rfl; apply ABs.cons; exact rfl; exact rfl; exact rfl; apply rK; apply rK; apply rK; apply rK; apply RenL.cons; apply Ren.mp
 exact CaR.old rfl; exact RenL.nil; apply ABs.cons; exact rfl; exact rfl; exact rfl; exact RenL.clo; exact ABs.nil; dsimp only [List.cons_append, List.nil_append, List.append_nil]
 apply RenL.cons; apply Ren.pt; exact CaR.old rfl; apply rK; exact RenL.nil; exact rZ; apply HRen.kept
 exact CaR.old rfl; apply rK; apply rK; apply rK
 apply rK; apply RenL.cons; apply Ren.mp; exact CaR.old rfl; exact RenL.nil; apply HRen.kept; exact CaR.old rfl; exact RenL.clo
 exact HRen.nil; exact lb rfl; dsimp only [reduceAdd, reduceMul, reduceSub, na, ca, nbk, nones, mc, ml]
 apply t0; exact sM rfl; apply t0; exact s_extract rfl rfl; apply t0; exact s_extract rfl rfl; apply t1; exact s_alloc; apply n1; exact s_storeW rfl rfl rfl rfl rfl rfl
 apply t0; exact sA rfl; dsimp only [reduceAdd, reduceMul]; exact dn; exact rfl; apply Gol.sr; apply t0; exact sF rfl; apply t0
 exact s_load rfl rfl rfl; apply t0; exact sM rfl; apply g0; exact wnt_g rfl rfl rfl rfl; exact sF rfl; apply g0; exact wnt_g rfl rfl rfl rfl
 exact s_load rfl rfl rfl; apply g0; exact wnt_g rfl rfl rfl rfl; exact sM rfl; apply g0; exact wnt_g rfl rfl rfl rfl; exact s_andNotI rfl rfl; apply gq
 exact wnt_g rfl rfl rfl rfl; exact s_call (f := 94) rfl (eC rfl eN) (aC aL aN) (size_ok _) (lb rfl)
 dsimp only [reduceAdd, reduceMul, reduceSub, na, ca, nbk, mc, ml]; apply g0; exact wnt_g rfl rfl rfl rfl
 exact s_gt rfl rfl; apply t0; exact s_pick_f rfl rfl rfl; apply t0; exact sA rfl; dsimp only [reduceAdd, reduceMul]; exact dn; exact rfl
 refine Gol.ret ?_)
    (
 apply RetA.mk [0, 1] (by first | exact .inr rfl | exact .inl rfl); apply res_1 rfl; exact res_tmp rfl; exact rfl; exact rfl; exact rfl; apply OAs.kept
 exact rfl; exact rfl; exact rfl; apply rK; apply rK; apply rK
 apply rK; apply RenL.cons; apply Ren.mp; exact IdR.mk rfl; exact RenL.nil; apply OAs.kept; exact rfl; exact rfl; exact rfl
 exact RenL.clo; exact OAs.nil; exact rZ)
theorem bfull_ok (g : Int) : Acts Tryz.prog 64 [bookB l vs f, knB K] [.pt 0 0, .v (.int .i64 g), .v (.agg (nameC n))] (.v (.bool (fullB (stqN S l vs n) g))) [some (bookB l vs f), some (knB (knF S l vs K n))] := by
  have hst := status_ok S hS l vs f K n hl hsm hK
  generalize knF S l vs K n = K' at hst ⊢
  generalize stqN S l vs n = st at hst ⊢
  obtain ⟨c, s, a, gn⟩ := st
  cases gn with
  | true =>
    refine Acts.of (fn := Tryz.f64) Tryz.func64 rfl (lb rfl) (lb rfl) fun w bl hid loc => ?_
    (
 apply Gol.sr; apply t1; exact s_box rfl rfl; apply t0; exact sA rfl; dsimp only [reduceAdd, reduceMul]; exact dn; exact rfl; apply Gol.sr
 apply t0; exact sM rfl; apply t0; exact s_loadW rfl rfl rfl (agu_cuv _); dsimp only [reduceAdd, reduceMul, reduceSub, na, ca, nbk, mc, ml]
 apply tq; apply s_acts (f := 92) [0, 1] rfl inferInstance; exact hst; apply eC rfl
 apply eC rfl; exact eN; exact rfl; apply ABs.cons; exact rfl; exact rfl; exact rfl; apply rK; apply rK; apply rK; apply rK; apply RenL.cons; apply Ren.mp
 exact CaR.old rfl; exact RenL.nil; apply ABs.cons; exact rfl; exact rfl; exact rfl; exact RenL.clo; exact ABs.nil; dsimp only [List.cons_append, List.nil_append, List.append_nil]
 apply RenL.cons; apply Ren.pt; exact CaR.old rfl; apply rK; exact RenL.nil; exact rZ; apply HRen.kept
 exact CaR.old rfl; apply rK; apply rK; apply rK
 apply rK; apply RenL.cons; apply Ren.mp; exact CaR.old rfl; exact RenL.nil; apply HRen.kept; exact CaR.old rfl; exact RenL.clo
 exact HRen.nil; exact lb rfl; dsimp only [reduceAdd, reduceMul, reduceSub, na, ca, nbk, nones, mc, ml]
 apply t0; exact sM rfl; apply t0; exact s_extract rfl rfl; apply t0; exact s_extract rfl rfl; apply t1; exact s_alloc; apply n1; exact s_storeW rfl rfl rfl rfl rfl rfl
 apply t0; exact sA rfl; dsimp only [reduceAdd, reduceMul]; exact dn; exact rfl; apply Gol.sr; apply t0; exact sF rfl; apply t0
 exact s_load rfl rfl rfl; apply t0; exact sM rfl; apply sk; exact wnt_g rfl rfl rfl rfl; apply sk; exact wnt_g rfl rfl rfl rfl; apply sk; exact wnt_g rfl rfl rfl rfl
 apply sk; exact wnt_g rfl rfl rfl rfl; apply sk; exact wnt_g rfl rfl rfl rfl; apply t0; exact s_pick_t rfl rfl rfl; apply t0; exact sA rfl; dsimp only [reduceAdd, reduceMul]
 exact dn; exact rfl; refine Gol.ret ?_)
    (
 apply RetA.mk [0, 1] (by first | exact .inr rfl | exact .inl rfl); apply res_1 rfl; exact res_tmp rfl; exact rfl; exact rfl; exact rfl; apply OAs.kept
 exact rfl; exact rfl; exact rfl; apply rK; apply rK; apply rK
 apply rK; apply RenL.cons; apply Ren.mp; exact IdR.mk rfl; exact RenL.nil; apply OAs.kept; exact rfl; exact rfl; exact rfl
 exact RenL.clo; exact OAs.nil; exact rZ)
  | false =>
    refine Acts.of (fn := Tryz.f64) Tryz.func64 rfl (lb rfl) (lb rfl) fun w bl hid loc => ?_
    (
 apply Gol.sr; apply t1; exact s_box rfl rfl; apply t0; exact sA rfl; dsimp only [reduceAdd, reduceMul]; exact dn; exact rfl; apply Gol.sr
 apply t0; exact sM rfl; apply t0; exact s_loadW rfl rfl rfl (agu_cuv _); dsimp only [reduceAdd, reduceMul, reduceSub, na, ca, nbk, mc, ml]
 apply tq; apply s_acts (f := 92) [0, 1] rfl inferInstance; exact hst; apply eC rfl
 apply eC rfl; exact eN; exact rfl; apply ABs.cons; exact rfl; exact rfl; exact rfl; apply rK; apply rK; apply rK; apply rK; apply RenL.cons; apply Ren.mp
 exact CaR.old rfl; exact RenL.nil; apply ABs.cons; exact rfl; exact rfl; exact rfl; exact RenL.clo; exact ABs.nil; dsimp only [List.cons_append, List.nil_append, List.append_nil]
 apply RenL.cons; apply Ren.pt; exact CaR.old rfl; apply rK; exact RenL.nil; exact rZ; apply HRen.kept
 exact CaR.old rfl; apply rK; apply rK; apply rK
 apply rK; apply RenL.cons; apply Ren.mp; exact CaR.old rfl; exact RenL.nil; apply HRen.kept; exact CaR.old rfl; exact RenL.clo
 exact HRen.nil; exact lb rfl; dsimp only [reduceAdd, reduceMul, reduceSub, na, ca, nbk, nones, mc, ml]
 apply t0; exact sM rfl; apply t0; exact s_extract rfl rfl; apply t0; exact s_extract rfl rfl; apply t1; exact s_alloc; apply n1; exact s_storeW rfl rfl rfl rfl rfl rfl
 apply t0; exact sA rfl; dsimp only [reduceAdd, reduceMul]; exact dn; exact rfl; apply Gol.sr; apply t0; exact sF rfl; apply t0
 exact s_load rfl rfl rfl; apply t0; exact sM rfl; apply g0; exact wnt_g rfl rfl rfl rfl; exact s_loadW rfl rfl rfl (agu_cuv _); apply g0; exact wnt_g rfl rfl rfl rfl
 exact sM rfl; apply g0; exact wnt_g rfl rfl rfl rfl; exact sF rfl; apply g0; exact wnt_g rfl rfl rfl rfl; exact s_load rfl rfl rfl; apply gq
 exact wnt_g rfl rfl rfl rfl; exact s_call (f := 93) rfl (eC rfl (eC rfl (eC rfl eN))) (aC aL (aC aL (aC aL aN))) (all_ok ⟨c, s, a, false⟩ g s) (lb rfl)
 dsimp only [reduceAdd, reduceMul, reduceSub, na, ca, nbk, mc, ml]; apply t0; exact s_pick_f rfl rfl rfl
 apply t0; exact sA rfl; dsimp only [reduceAdd, reduceMul]; exact dn; exact rfl; refine Gol.ret ?_)
    (
 apply RetA.mk [0, 1] (by first | exact .inr rfl | exact .inl rfl); apply res_1 rfl; exact res_tmp rfl; exact rfl; exact rfl; exact rfl; apply OAs.kept
 exact rfl; exact rfl; exact rfl; apply rK; apply rK; apply rK
 apply rK; apply RenL.cons; apply Ren.mp; exact IdR.mk rfl; exact RenL.nil; apply OAs.kept; exact rfl; exact rfl; exact rfl
 exact RenL.clo; exact OAs.nil; exact rZ)
theorem backs_ok (g : Int) : Acts Tryz.prog 68 [bookB l vs f, knB K] [.pt 0 0, .v (.int .i64 g), .v (.agg (nameC n))] (.v (.int .i64 (acksN (stqN S l vs n) g))) [some (bookB l vs f), some (knB (knF S l vs K n))] := by
  have hfu := bfull_ok S hS l vs f K n hl hsm hK g
  have hst := status_ok S hS l vs f (knF S l vs K n) n hl hsm (knOk_next S hK n)
  rw [knF_knF] at hst
  unfold acksN
  generalize knF S l vs K n = K' at hst hfu ⊢
  generalize stqN S l vs n = st at hst hfu ⊢
  cases hb : fullB st g with
  | true =>
    rw [hb] at hfu
    rw [if_pos rfl]
    refine Acts.of (fn := Tryz.f68) Tryz.func68 rfl (lb rfl) (lb rfl) fun w bl hid loc => ?_
    (
 apply Gol.sr; apply t1; exact s_box rfl rfl; apply t0; exact sA rfl; dsimp only [reduceAdd, reduceMul]; exact dn; exact rfl; refine Gol.seq ?_
 apply Gol.sr; apply t0; exact sM rfl; apply t0; exact sM rfl; apply t0; exact s_loadW rfl rfl rfl (agu_cuv _); dsimp only [reduceAdd, reduceMul, reduceSub, na, ca, nbk, mc, ml]
 apply tq; apply s_acts (f := 64) [0, 1] rfl inferInstance; exact hfu; apply eC rfl
 apply eC rfl; apply eC rfl; exact eN; exact rfl; apply ABs.cons; exact rfl; exact rfl; exact rfl; apply rK
 apply rK; apply rK; apply rK; apply RenL.cons
 apply Ren.mp; exact CaR.old rfl; exact RenL.nil; apply ABs.cons; exact rfl; exact rfl; exact rfl; exact RenL.clo; exact ABs.nil; dsimp only [List.cons_append, List.nil_append, List.append_nil]
 apply RenL.cons; apply Ren.pt; exact CaR.old rfl; apply rK; apply rK; exact RenL.nil
 exact rZ; apply HRen.kept; exact CaR.old rfl; apply rK; apply rK
 apply rK; apply rK; apply RenL.cons; apply Ren.mp; exact CaR.old rfl; exact RenL.nil
 apply HRen.kept; exact CaR.old rfl; exact RenL.clo; exact HRen.nil; exact lb rfl; dsimp only [reduceAdd, reduceMul, reduceSub, na, ca, nbk, nones, mc, ml]
 apply t0; exact s_not rfl; dsimp only [reduceAdd, reduceMul]; exact dn; exact rfl)
    refine Gol.cond_f rfl rfl ?_
    (
 refine Gol.skip ?_; refine thn_n ?_; apply Gol.sr; apply t0; exact sM rfl; apply t0; exact s_loadW rfl rfl rfl (agu_cuv _)
 dsimp only [reduceAdd, reduceMul, reduceSub, na, ca, nbk, mc, ml]; apply tq; apply s_acts (f := 92) [0, 1] rfl inferInstance; exact hst; apply eC rfl; apply eC rfl; exact eN
 exact rfl; apply ABs.cons; exact rfl; exact rfl; exact rfl; apply rK; apply rK
 apply rK; apply rK; apply RenL.cons; apply Ren.mp; exact CaR.old rfl; exact RenL.nil
 apply ABs.cons; exact rfl; exact rfl; exact rfl; exact RenL.clo; exact ABs.nil; dsimp only [List.cons_append, List.nil_append, List.append_nil]; apply RenL.cons
 apply Ren.pt; exact CaR.old rfl; apply rK; exact RenL.nil; exact rZ; apply HRen.kept; exact CaR.old rfl
 apply rK; apply rK; apply rK; apply rK; apply RenL.cons; apply Ren.mp; exact CaR.old rfl; exact RenL.nil; apply HRen.kept; exact CaR.old rfl; exact RenL.clo; exact HRen.nil
 exact lb rfl; dsimp only [reduceAdd, reduceMul, reduceSub, na, ca, nbk, nones, mc, ml]
 apply t0; exact sM rfl; apply t0; exact s_extract rfl rfl; apply t0; exact s_extract rfl rfl; apply t1; exact s_alloc; apply n1; exact s_storeW rfl rfl rfl rfl rfl rfl
 apply t0; exact sA rfl; dsimp only [reduceAdd, reduceMul]; exact dn; exact rfl; apply Gol.sr; apply t0; exact sF rfl; apply t0
 exact s_load rfl rfl rfl; apply t0; exact sA rfl; dsimp only [reduceAdd, reduceMul]; exact dn; exact rfl; refine Gol.ret ?_)
    (
 apply RetA.mk [0, 1] (by first | exact .inr rfl | exact .inl rfl); apply res_1 rfl; exact res_tmp rfl; exact rfl; exact rfl; exact rfl; apply OAs.kept
 exact rfl; exact rfl; exact rfl; apply rK; apply rK; apply rK
 apply rK; apply RenL.cons; apply Ren.mp; exact IdR.mk rfl; exact RenL.nil; apply OAs.kept; exact rfl; exact rfl; exact rfl
 exact RenL.clo; exact OAs.nil; exact rZ)
  | false =>
    rw [hb] at hfu
    rw [if_neg (by simp)]
    refine Acts.of (fn := Tryz.f68) Tryz.func68 rfl (lb rfl) (lb rfl) fun w bl hid loc => ?_
    (
 apply Gol.sr; apply t1; exact s_box rfl rfl; apply t0; exact sA rfl; dsimp only [reduceAdd, reduceMul]; exact dn; exact rfl; refine Gol.seq ?_
 apply Gol.sr; apply t0; exact sM rfl; apply t0; exact sM rfl; apply t0; exact s_loadW rfl rfl rfl (agu_cuv _); dsimp only [reduceAdd, reduceMul, reduceSub, na, ca, nbk, mc, ml]
 apply tq; apply s_acts (f := 64) [0, 1] rfl inferInstance; exact hfu; apply eC rfl
 apply eC rfl; apply eC rfl; exact eN; exact rfl; apply ABs.cons; exact rfl; exact rfl; exact rfl; apply rK
 apply rK; apply rK; apply rK; apply RenL.cons
 apply Ren.mp; exact CaR.old rfl; exact RenL.nil; apply ABs.cons; exact rfl; exact rfl; exact rfl; exact RenL.clo; exact ABs.nil; dsimp only [List.cons_append, List.nil_append, List.append_nil]
 apply RenL.cons; apply Ren.pt; exact CaR.old rfl; apply rK; apply rK; exact RenL.nil
 exact rZ; apply HRen.kept; exact CaR.old rfl; apply rK; apply rK
 apply rK; apply rK; apply RenL.cons; apply Ren.mp; exact CaR.old rfl; exact RenL.nil
 apply HRen.kept; exact CaR.old rfl; exact RenL.clo; exact HRen.nil; exact lb rfl; dsimp only [reduceAdd, reduceMul, reduceSub, na, ca, nbk, nones, mc, ml]
 apply t0; exact s_not rfl; dsimp only [reduceAdd, reduceMul]; exact dn; exact rfl)
    refine Gol.cond_t rfl rfl ?_
    (apply Gol.sr; apply t0; exact sA rfl; dsimp only [reduceAdd, reduceMul]; exact dn; exact rfl; refine Gol.ret ?_; refine thn_r ?_)
    (
 apply RetA.mk [0, 1] (by first | exact .inr rfl | exact .inl rfl); apply res_1 rfl; exact res_tmp rfl; exact rfl; exact rfl; exact rfl; apply OAs.kept
 exact rfl; exact rfl; exact rfl; apply rK; apply rK; apply rK
 apply rK; apply RenL.cons; apply Ren.mp; exact IdR.mk rfl; exact RenL.nil; apply OAs.kept; exact rfl; exact rfl; exact rfl
 exact RenL.clo; exact OAs.nil; exact rZ)
theorem blocked_ok (g : Int) : Acts Tryz.prog 65 [bookB l vs f, knB K] [.pt 0 0, .v (.int .i64 g), .v (.agg (nameC n))] (.v (.bool (lockedB (stqN S l vs n) g))) [some (bookB l vs f), some (knB (knF S l vs K n))] := by
  have hst := status_ok S hS l vs f K n hl hsm hK
  have hac := backs_ok S hS l vs f (knF S l vs K n) n hl hsm (knOk_next S hK n) g
  rw [knF_knF] at hac
  generalize knF S l vs K n = K' at hst hac ⊢
  generalize stqN S l vs n = st at hst hac ⊢
  obtain ⟨c, s, a, gn⟩ := st
  cases gn with
  | true =>
    refine Acts.of (fn := Tryz.f65) Tryz.func65 rfl (lb rfl) (lb rfl) fun w bl hid loc => ?_
    (
 apply Gol.sr; apply t1; exact s_box rfl rfl; apply t0; exact sA rfl; dsimp only [reduceAdd, reduceMul]; exact dn; exact rfl; apply Gol.sr
 apply t0; exact sM rfl; apply t0; exact s_loadW rfl rfl rfl (agu_cuv _); dsimp only [reduceAdd, reduceMul, reduceSub, na, ca, nbk, mc, ml]
 apply tq; apply s_acts (f := 92) [0, 1] rfl inferInstance; exact hst; apply eC rfl
 apply eC rfl; exact eN; exact rfl; apply ABs.cons; exact rfl; exact rfl; exact rfl; apply rK; apply rK; apply rK; apply rK; apply RenL.cons; apply Ren.mp
 exact CaR.old rfl; exact RenL.nil; apply ABs.cons; exact rfl; exact rfl; exact rfl; exact RenL.clo; exact ABs.nil; dsimp only [List.cons_append, List.nil_append, List.append_nil]
 apply RenL.cons; apply Ren.pt; exact CaR.old rfl; apply rK; exact RenL.nil; exact rZ; apply HRen.kept
 exact CaR.old rfl; apply rK; apply rK; apply rK
 apply rK; apply RenL.cons; apply Ren.mp; exact CaR.old rfl; exact RenL.nil; apply HRen.kept; exact CaR.old rfl; exact RenL.clo
 exact HRen.nil; exact lb rfl; dsimp only [reduceAdd, reduceMul, reduceSub, na, ca, nbk, nones, mc, ml]
 apply t0; exact sM rfl; apply t0; exact s_extract rfl rfl; apply t0; exact s_extract rfl rfl; apply t1; exact s_alloc; apply n1; exact s_storeW rfl rfl rfl rfl rfl rfl
 apply t0; exact sA rfl; dsimp only [reduceAdd, reduceMul]; exact dn; exact rfl; apply Gol.sr; apply t0; exact sF rfl; apply t0
 exact s_load rfl rfl rfl; apply t0; exact sM rfl; apply sk; exact wnt_g rfl rfl rfl rfl; apply sk; exact wnt_g rfl rfl rfl rfl; apply sk; exact wnt_g rfl rfl rfl rfl
 apply sk; exact wnt_g rfl rfl rfl rfl; apply sk; exact wnt_g rfl rfl rfl rfl; apply sk; exact wnt_g rfl rfl rfl rfl; apply sk; exact wnt_g rfl rfl rfl rfl
 apply sk; exact wnt_g rfl rfl rfl rfl; apply t0; exact s_pick_t rfl rfl rfl; apply t0; exact sA rfl; dsimp only [reduceAdd, reduceMul]; exact dn
 exact rfl; refine Gol.ret ?_)
    (
 apply RetA.mk [0, 1] (by first | exact .inr rfl | exact .inl rfl); apply res_1 rfl; exact res_tmp rfl; exact rfl; exact rfl; exact rfl; apply OAs.kept
 exact rfl; exact rfl; exact rfl; apply rK; apply rK; apply rK
 apply rK; apply RenL.cons; apply Ren.mp; exact IdR.mk rfl; exact RenL.nil; apply OAs.kept; exact rfl; exact rfl; exact rfl
 exact RenL.clo; exact OAs.nil; exact rZ)
  | false =>
    refine Acts.of (fn := Tryz.f65) Tryz.func65 rfl (lb rfl) (lb rfl) fun w bl hid loc => ?_
    (
 apply Gol.sr; apply t1; exact s_box rfl rfl; apply t0; exact sA rfl; dsimp only [reduceAdd, reduceMul]; exact dn; exact rfl; apply Gol.sr
 apply t0; exact sM rfl; apply t0; exact s_loadW rfl rfl rfl (agu_cuv _); dsimp only [reduceAdd, reduceMul, reduceSub, na, ca, nbk, mc, ml]
 apply tq; apply s_acts (f := 92) [0, 1] rfl inferInstance; exact hst; apply eC rfl
 apply eC rfl; exact eN; exact rfl; apply ABs.cons; exact rfl; exact rfl; exact rfl; apply rK; apply rK; apply rK; apply rK; apply RenL.cons; apply Ren.mp
 exact CaR.old rfl; exact RenL.nil; apply ABs.cons; exact rfl; exact rfl; exact rfl; exact RenL.clo; exact ABs.nil; dsimp only [List.cons_append, List.nil_append, List.append_nil]
 apply RenL.cons; apply Ren.pt; exact CaR.old rfl; apply rK; exact RenL.nil; exact rZ; apply HRen.kept
 exact CaR.old rfl; apply rK; apply rK; apply rK
 apply rK; apply RenL.cons; apply Ren.mp; exact CaR.old rfl; exact RenL.nil; apply HRen.kept; exact CaR.old rfl; exact RenL.clo
 exact HRen.nil; exact lb rfl; dsimp only [reduceAdd, reduceMul, reduceSub, na, ca, nbk, nones, mc, ml]
 apply t0; exact sM rfl; apply t0; exact s_extract rfl rfl; apply t0; exact s_extract rfl rfl; apply t1; exact s_alloc; apply n1; exact s_storeW rfl rfl rfl rfl rfl rfl
 apply t0; exact sA rfl; dsimp only [reduceAdd, reduceMul]; exact dn; exact rfl; apply Gol.sr; apply t0; exact sF rfl; apply t0
 exact s_load rfl rfl rfl; apply t0; exact sM rfl; apply g0; exact wnt_g rfl rfl rfl rfl; exact sM rfl; apply g0; exact wnt_g rfl rfl rfl rfl; exact sM rfl
 apply g0; exact wnt_g rfl rfl rfl rfl; exact s_loadW rfl rfl rfl (agu_cuv _); dsimp only [reduceAdd, reduceMul, reduceSub, na, ca, nbk, mc, ml]
 apply Trc.step rfl rfl; apply wnt_g; exact rfl; exact rfl; exact rfl; rfl; apply s_acts (f := 68) [0, 1] rfl inferInstance
 exact hac; apply eC rfl; apply eC rfl; apply eC rfl; exact eN; exact rfl; apply ABs.cons; exact rfl; exact rfl; exact rfl; apply rK; apply rK; apply rK; apply rK
 apply RenL.cons; apply Ren.mp; exact CaR.old rfl; exact RenL.nil; apply ABs.cons; exact rfl; exact rfl; exact rfl; exact RenL.clo; exact ABs.nil; dsimp only [List.cons_append, List.nil_append, List.append_nil]
 apply RenL.cons; apply Ren.pt; exact CaR.old rfl; apply rK; apply rK; exact RenL.nil
 exact rZ; apply HRen.kept; exact CaR.old rfl; apply rK; apply rK
 apply rK; apply rK; apply RenL.cons; apply Ren.mp; exact CaR.old rfl; exact RenL.nil
 apply HRen.kept; exact CaR.old rfl; exact RenL.clo; exact HRen.nil; exact lb rfl; dsimp only [reduceAdd, reduceMul, reduceSub, na, ca, nbk, nones, mc, ml]
 apply g0; exact wnt_g rfl rfl rfl rfl; exact sM rfl; apply g0; exact wnt_g rfl rfl rfl rfl; exact s_andNotI rfl rfl; apply gq; exact wnt_g rfl rfl rfl rfl
 exact s_call (f := 94) rfl (eC rfl eN) (aC aL aN) (size_ok _) (lb rfl); dsimp only [reduceAdd, reduceMul, reduceSub, na, ca, nbk, mc, ml]
 apply g0; exact wnt_g rfl rfl rfl rfl; exact s_gt rfl rfl; apply t0; exact s_pick_f rfl rfl rfl; apply t0; exact sA rfl; dsimp only [reduceAdd, reduceMul]
 exact dn; exact rfl; refine Gol.ret ?_)
    (
 apply RetA.mk [0, 1] (by first | exact .inr rfl | exact .inl rfl); apply res_1 rfl; exact res_tmp rfl; exact rfl; exact rfl; exact rfl; apply OAs.kept
 exact rfl; exact rfl; exact rfl; apply rK; apply rK; apply rK
 apply rK; apply RenL.cons; apply Ren.mp; exact IdR.mk rfl; exact RenL.nil; apply OAs.kept; exact rfl; exact rfl; exact rfl
 exact RenL.clo; exact OAs.nil; exact rZ)
theorem bfinal_ok (g : Int) : Acts Tryz.prog 66 [bookB l vs f, knB K] [.pt 0 0, .v (.int .i64 g), .v (.agg (nameC n))] (.v (.bool (finalB (stqN S l vs n) g))) [some (bookB l vs f), some (knB (knF S l vs K n))] := by
  have hst := status_ok S hS l vs f K n hl hsm hK
  have hac := backs_ok S hS l vs f (knF S l vs K n) n hl hsm (knOk_next S hK n) g
  rw [knF_knF] at hac
  generalize knF S l vs K n = K' at hst hac ⊢
  generalize stqN S l vs n = st at hst hac ⊢
  obtain ⟨c, s, a, gn⟩ := st
  cases gn with
  | true =>
    refine Acts.of (fn := Tryz.f66) Tryz.func66 rfl (lb rfl) (lb rfl) fun w bl hid loc => ?_
    (
 apply Gol.sr; apply t1; exact s_box rfl rfl; apply t0; exact sA rfl; dsimp only [reduceAdd, reduceMul]; exact dn; exact rfl; apply Gol.sr
 apply t0; exact sM rfl; apply t0; exact s_loadW rfl rfl rfl (agu_cuv _); dsimp only [reduceAdd, reduceMul, reduceSub, na, ca, nbk, mc, ml]
 apply tq; apply s_acts (f := 92) [0, 1] rfl inferInstance; exact hst; apply eC rfl
 apply eC rfl; exact eN; exact rfl; apply ABs.cons; exact rfl; exact rfl; exact rfl; apply rK; apply rK; apply rK; apply rK; apply RenL.cons; apply Ren.mp
 exact CaR.old rfl; exact RenL.nil; apply ABs.cons; exact rfl; exact rfl; exact rfl; exact RenL.clo; exact ABs.nil; dsimp only [List.cons_append, List.nil_append, List.append_nil]
 apply RenL.cons; apply Ren.pt; exact CaR.old rfl; apply rK; exact RenL.nil; exact rZ; apply HRen.kept
 exact CaR.old rfl; apply rK; apply rK; apply rK
 apply rK; apply RenL.cons; apply Ren.mp; exact CaR.old rfl; exact RenL.nil; apply HRen.kept; exact CaR.old rfl; exact RenL.clo
 exact HRen.nil; exact lb rfl; dsimp only [reduceAdd, reduceMul, reduceSub, na, ca, nbk, nones, mc, ml]
 apply t0; exact sM rfl; apply t0; exact s_extract rfl rfl; apply t0; exact s_extract rfl rfl; apply t1; exact s_alloc; apply n1; exact s_storeW rfl rfl rfl rfl rfl rfl
 apply t0; exact sA rfl; dsimp only [reduceAdd, reduceMul]; exact dn; exact rfl; refine Gol.seq ?_; apply Gol.any
 kernel_rfl; apply t0; exact sF rfl; apply t0; exact s_load rfl rfl rfl; apply t0; exact sM rfl; apply sk; exact wnt_g rfl rfl rfl rfl; apply sk
 exact wnt_g rfl rfl rfl rfl; apply sk; exact wnt_g rfl rfl rfl rfl; apply sk; exact wnt_g rfl rfl rfl rfl; apply sk; exact wnt_g rfl rfl rfl rfl; apply sk
 exact wnt_g rfl rfl rfl rfl; apply sk; exact wnt_g rfl rfl rfl rfl; apply t0; exact s_pick_t rfl rfl rfl; apply t0; exact sA rfl; dsimp only [reduceAdd, reduceMul]
 exact dn; kernel_rfl; exact rfl; refine thn_n ?_; refine Gol.ret ?_)
    (
 apply RetA.mk [0, 1] (by first | exact .inr rfl | exact .inl rfl); apply res_1 rfl; exact res_tmp rfl; exact rfl; exact rfl; exact rfl; apply OAs.kept
 exact rfl; exact rfl; exact rfl; apply rK; apply rK; apply rK
 apply rK; apply RenL.cons; apply Ren.mp; exact IdR.mk rfl; exact RenL.nil; apply OAs.kept; exact rfl; exact rfl; exact rfl
 exact RenL.clo; exact OAs.nil; exact rZ)
  | false =>
    refine Acts.of (fn := Tryz.f66) Tryz.func66 rfl (lb rfl) (lb rfl) fun w bl hid loc => ?_
    (
 apply Gol.sr; apply t1; exact s_box rfl rfl; apply t0; exact sA rfl; dsimp only [reduceAdd, reduceMul]; exact dn; exact rfl; apply Gol.sr
 apply t0; exact sM rfl; apply t0; exact s_loadW rfl rfl rfl (agu_cuv _); dsimp only [reduceAdd, reduceMul, reduceSub, na, ca, nbk, mc, ml]
 apply tq; apply s_acts (f := 92) [0, 1] rfl inferInstance; exact hst; apply eC rfl
 apply eC rfl; exact eN; exact rfl; apply ABs.cons; exact rfl; exact rfl; exact rfl; apply rK; apply rK; apply rK; apply rK; apply RenL.cons; apply Ren.mp
 exact CaR.old rfl; exact RenL.nil; apply ABs.cons; exact rfl; exact rfl; exact rfl; exact RenL.clo; exact ABs.nil; dsimp only [List.cons_append, List.nil_append, List.append_nil]
 apply RenL.cons; apply Ren.pt; exact CaR.old rfl; apply rK; exact RenL.nil; exact rZ; apply HRen.kept
 exact CaR.old rfl; apply rK; apply rK; apply rK
 apply rK; apply RenL.cons; apply Ren.mp; exact CaR.old rfl; exact RenL.nil; apply HRen.kept; exact CaR.old rfl; exact RenL.clo
 exact HRen.nil; exact lb rfl; dsimp only [reduceAdd, reduceMul, reduceSub, na, ca, nbk, nones, mc, ml]
 apply t0; exact sM rfl; apply t0; exact s_extract rfl rfl; apply t0; exact s_extract rfl rfl; apply t1; exact s_alloc; apply n1; exact s_storeW rfl rfl rfl rfl rfl rfl
 apply t0; exact sA rfl; dsimp only [reduceAdd, reduceMul]; exact dn; exact rfl; refine Gol.seq ?_; apply Gol.any
 kernel_rfl; apply t0; exact sF rfl; apply t0; exact s_load rfl rfl rfl; apply t0; exact sM rfl; apply g0; exact wnt_g rfl rfl rfl rfl; exact s_loadW rfl rfl rfl (agu_cuv _)
 apply g0; exact wnt_g rfl rfl rfl rfl; exact sM rfl; apply g0; exact wnt_g rfl rfl rfl rfl; exact sM rfl; apply g0; exact wnt_g rfl rfl rfl rfl
 exact sM rfl; apply g0; exact wnt_g rfl rfl rfl rfl; exact s_loadW rfl rfl rfl (agu_cuv _); dsimp only [reduceAdd, reduceMul, reduceSub, na, ca, nbk, mc, ml]
 apply Trc.step rfl rfl; apply wnt_g; exact rfl; exact rfl; exact rfl; rfl; apply s_acts (f := 68) [0, 1] rfl inferInstance
 exact hac; apply eC rfl; apply eC rfl; apply eC rfl; exact eN; exact rfl; apply ABs.cons; exact rfl; exact rfl; exact rfl; apply rK; apply rK; apply rK; apply rK
 apply RenL.cons; apply Ren.mp; exact CaR.old rfl; exact RenL.nil; apply ABs.cons; exact rfl; exact rfl; exact rfl; exact RenL.clo; exact ABs.nil; dsimp only [List.cons_append, List.nil_append, List.append_nil]
 apply RenL.cons; apply Ren.pt; exact CaR.old rfl; apply rK; apply rK; exact RenL.nil
 exact rZ; apply HRen.kept; exact CaR.old rfl; apply rK; apply rK
 apply rK; apply rK; apply RenL.cons; apply Ren.mp; exact CaR.old rfl; exact RenL.nil
 apply HRen.kept; exact CaR.old rfl; exact RenL.clo; exact HRen.nil; exact lb rfl; dsimp only [reduceAdd, reduceMul, reduceSub, na, ca, nbk, nones, mc, ml]
 apply gq; exact wnt_g rfl rfl rfl rfl; exact s_call (f := 93) rfl (eC rfl (eC rfl (eC rfl eN))) (aC aL (aC aL (aC aL aN))) (all_ok ⟨c, s, a, false⟩ g _) (lb rfl)
 dsimp only [reduceAdd, reduceMul, reduceSub, na, ca, nbk, mc, ml]; apply t0; exact s_pick_f rfl rfl rfl
 apply t0; exact sA rfl; dsimp only [reduceAdd, reduceMul]; exact dn; kernel_rfl; exact rfl; refine thn_n ?_; refine Gol.ret ?_)
    (
 apply RetA.mk [0, 1] (by first | exact .inr rfl | exact .inl rfl); apply res_1 rfl; exact res_tmp rfl; exact rfl; exact rfl; exact rfl; apply OAs.kept
 exact rfl; exact rfl; exact rfl; apply rK; apply rK; apply rK
 apply rK; apply RenL.cons; apply Ren.mp; exact IdR.mk rfl; exact RenL.nil; apply OAs.kept; exact rfl; exact rfl; exact rfl
 exact RenL.clo; exact OAs.nil; exact rZ)
end
end Go.Proofs.YtneeclacmhhblaaGreat


namespace Go.Proofs.YtneeclacmhhblaaGreat
open Go.RowKit
open Nat (reduceAdd reduceMul reduceSub)

section
variable (S : List UInt8 → UInt64) (hS : HashF S)
include hS
variable (l : List It) (vs : List Vt) (f f2 : Bool) (n : UInt64) (hl : l.length ≤ 1000000) (hv : vs.length ≤ 1000000) (hsm : ∀ x ∈ l, Sm x.st)
include hl hv hsm
theorem signers_ok : Fresh Tryz.prog 28 [.ex l.length f (itsA l), .ex vs.length f2 (vtsA vs), .v (.agg (nameC n))] (fun _ => .v (.int .i64 ((stqN S l vs n).s))) [] := by
  have ho := open_ok l vs f f2 hl hv
  have hm := bsigners_ok S hS l vs f [] n hl hsm (knOk_nil S l vs)
  generalize knF S l vs [] n = K' at hm
  generalize (stqN S l vs n).s = r at hm ⊢
  refine Fresh.of (fn := Tryz.f28) Tryz.func28 rfl (lb rfl) fun w => ?_
  (
 apply Gol.sr; apply t1; exact s_box rfl rfl; apply t0; exact sA rfl; dsimp only [reduceAdd, reduceMul]; exact dn; exact rfl; refine Gol.seq ?_
 apply Gol.any; kernel_rfl; apply t0; exact sM rfl; apply t0; exact sM rfl; dsimp only [reduceAdd, reduceMul, reduceSub, na, ca, nbk, mc, ml]
 apply tq; apply s_acts (f := 45) [] rfl inferInstance; exact ho; apply eC rfl; apply eC rfl
 exact eN; exact rfl; exact ABs.nil; dsimp only [List.cons_append, List.nil_append, List.append_nil]; exact RenL.clo; apply Ren.pt; exact CaR.new 0 rfl rfl
 apply HRen.kept; exact CaR.new 0 rfl rfl; apply rK; apply rK; apply rK; apply rK; apply RenL.cons; apply Ren.mp; exact CaR.new 1 rfl rfl; exact RenL.nil; apply HRen.kept
 exact CaR.new 1 rfl rfl; exact RenL.clo; exact HRen.nil; exact lb rfl; dsimp only [reduceAdd, reduceMul, reduceSub, na, ca, nbk, nones, mc, ml]
 apply t0; exact s_loadW rfl rfl rfl (agu_cuv _); dsimp only [reduceAdd, reduceMul, reduceSub, na, ca, nbk, mc, ml]
 apply tq; apply s_acts (f := 63) [32, 33] rfl inferInstance; exact hm; apply eC rfl
 apply eC rfl; exact eN; exact rfl; apply ABs.cons; exact rfl; exact rfl; exact rfl; apply rK; apply rK; apply rK; apply rK; apply RenL.cons; apply Ren.mp
 exact CaR.old rfl; exact RenL.nil; apply ABs.cons; exact rfl; exact rfl; exact rfl; exact RenL.clo; exact ABs.nil; dsimp only [List.cons_append, List.nil_append, List.append_nil]
 apply RenL.cons; apply Ren.pt; exact CaR.old rfl; apply rK; exact RenL.nil; exact rZ; apply HRen.kept
 exact CaR.old rfl; apply rK; apply rK; apply rK
 apply rK; apply RenL.cons; apply Ren.mp; exact CaR.old rfl; exact RenL.nil; apply HRen.kept; exact CaR.old rfl; exact RenL.clo
 exact HRen.nil; exact lb rfl; dsimp only [reduceAdd, reduceMul, reduceSub, na, ca, nbk, nones, mc, ml]
 apply t0; exact sA rfl; dsimp only [reduceAdd, reduceMul]; exact dn; kernel_rfl; exact rfl; refine thn_n ?_; refine Gol.ret ?_)
  (apply RetQ.mk (by first | exact .inr rfl | exact .inl rfl); apply res_1 rfl; exact res_tmp rfl; exact out_val)
theorem counted_ok (g : Int) : Fresh Tryz.prog 32 [.ex l.length f (itsA l), .ex vs.length f2 (vtsA vs), .v (.int .i64 g), .v (.agg (nameC n))] (fun _ => .v (.bool (countedB (stqN S l vs n) g))) [] := by
  have ho := open_ok l vs f f2 hl hv
  have hm := bcounted_ok S hS l vs f [] n hl hsm (knOk_nil S l vs) g
  generalize knF S l vs [] n = K' at hm
  generalize countedB (stqN S l vs n) g = r at hm ⊢
  refine Fresh.of (fn := Tryz.f32) Tryz.func32 rfl (lb rfl) fun w => ?_
  (
 apply Gol.sr; apply t1; exact s_box rfl rfl; apply t0; exact sA rfl; dsimp only [reduceAdd, reduceMul]; exact dn; exact rfl; refine Gol.seq ?_
 apply Gol.any; kernel_rfl; apply t0; exact sM rfl; apply t0; exact sM rfl; dsimp only [reduceAdd, reduceMul, reduceSub, na, ca, nbk, mc, ml]
 apply tq; apply s_acts (f := 45) [] rfl inferInstance; exact ho; apply eC rfl; apply eC rfl
 exact eN; exact rfl; exact ABs.nil; dsimp only [List.cons_append, List.nil_append, List.append_nil]; exact RenL.clo; apply Ren.pt; exact CaR.new 0 rfl rfl
 apply HRen.kept; exact CaR.new 0 rfl rfl; apply rK; apply rK; apply rK; apply rK; apply RenL.cons; apply Ren.mp; exact CaR.new 1 rfl rfl; exact RenL.nil; apply HRen.kept
 exact CaR.new 1 rfl rfl; exact RenL.clo; exact HRen.nil; exact lb rfl; dsimp only [reduceAdd, reduceMul, reduceSub, na, ca, nbk, nones, mc, ml]
 apply t0; exact sM rfl; apply t0; exact s_loadW rfl rfl rfl (agu_cuv _); dsimp only [reduceAdd, reduceMul, reduceSub, na, ca, nbk, mc, ml]
 apply tq; apply s_acts (f := 67) [32, 33] rfl inferInstance; exact hm; apply eC rfl
 apply eC rfl; apply eC rfl; exact eN; exact rfl; apply ABs.cons; exact rfl; exact rfl; exact rfl; apply rK
 apply rK; apply rK; apply rK; apply RenL.cons
 apply Ren.mp; exact CaR.old rfl; exact RenL.nil; apply ABs.cons; exact rfl; exact rfl; exact rfl; exact RenL.clo; exact ABs.nil; dsimp only [List.cons_append, List.nil_append, List.append_nil]
 apply RenL.cons; apply Ren.pt; exact CaR.old rfl; apply rK; apply rK; exact RenL.nil
 exact rZ; apply HRen.kept; exact CaR.old rfl; apply rK; apply rK
 apply rK; apply rK; apply RenL.cons; apply Ren.mp; exact CaR.old rfl; exact RenL.nil
 apply HRen.kept; exact CaR.old rfl; exact RenL.clo; exact HRen.nil; exact lb rfl; dsimp only [reduceAdd, reduceMul, reduceSub, na, ca, nbk, nones, mc, ml]
 apply t0; exact sA rfl; dsimp only [reduceAdd, reduceMul]; exact dn; kernel_rfl; exact rfl; refine thn_n ?_; refine Gol.ret ?_)
  (apply RetQ.mk (by first | exact .inr rfl | exact .inl rfl); apply res_1 rfl; exact res_tmp rfl; exact out_val)
theorem full_ok (g : Int) : Fresh Tryz.prog 29 [.ex l.length f (itsA l), .ex vs.length f2 (vtsA vs), .v (.int .i64 g), .v (.agg (nameC n))] (fun _ => .v (.bool (fullB (stqN S l vs n) g))) [] := by
  have ho := open_ok l vs f f2 hl hv
  have hm := bfull_ok S hS l vs f [] n hl hsm (knOk_nil S l vs) g
  generalize knF S l vs [] n = K' at hm
  generalize fullB (stqN S l vs n) g = r at hm ⊢
  refine Fresh.of (fn := Tryz.f29) Tryz.func29 rfl (lb rfl) fun w => ?_
  (
 apply Gol.sr; apply t1; exact s_box rfl rfl; apply t0; exact sA rfl; dsimp only [reduceAdd, reduceMul]; exact dn; exact rfl; refine Gol.seq ?_
 apply Gol.any; kernel_rfl; apply t0; exact sM rfl; apply t0; exact sM rfl; dsimp only [reduceAdd, reduceMul, reduceSub, na, ca, nbk, mc, ml]
 apply tq; apply s_acts (f := 45) [] rfl inferInstance; exact ho; apply eC rfl; apply eC rfl
 exact eN; exact rfl; exact ABs.nil; dsimp only [List.cons_append, List.nil_append, List.append_nil]; exact RenL.clo; apply Ren.pt; exact CaR.new 0 rfl rfl
 apply HRen.kept; exact CaR.new 0 rfl rfl; apply rK; apply rK; apply rK; apply rK; apply RenL.cons; apply Ren.mp; exact CaR.new 1 rfl rfl; exact RenL.nil; apply HRen.kept
 exact CaR.new 1 rfl rfl; exact RenL.clo; exact HRen.nil; exact lb rfl; dsimp only [reduceAdd, reduceMul, reduceSub, na, ca, nbk, nones, mc, ml]
 apply t0; exact sM rfl; apply t0; exact s_loadW rfl rfl rfl (agu_cuv _); dsimp only [reduceAdd, reduceMul, reduceSub, na, ca, nbk, mc, ml]
 apply tq; apply s_acts (f := 64) [32, 33] rfl inferInstance; exact hm; apply eC rfl
 apply eC rfl; apply eC rfl; exact eN; exact rfl; apply ABs.cons; exact rfl; exact rfl; exact rfl; apply rK
 apply rK; apply rK; apply rK; apply RenL.cons
 apply Ren.mp; exact CaR.old rfl; exact RenL.nil; apply ABs.cons; exact rfl; exact rfl; exact rfl; exact RenL.clo; exact ABs.nil; dsimp only [List.cons_append, List.nil_append, List.append_nil]
 apply RenL.cons; apply Ren.pt; exact CaR.old rfl; apply rK; apply rK; exact RenL.nil
 exact rZ; apply HRen.kept; exact CaR.old rfl; apply rK; apply rK
 apply rK; apply rK; apply RenL.cons; apply Ren.mp; exact CaR.old rfl; exact RenL.nil
 apply HRen.kept; exact CaR.old rfl; exact RenL.clo; exact HRen.nil; exact lb rfl; dsimp only [reduceAdd, reduceMul, reduceSub, na, ca, nbk, nones, mc, ml]
 apply t0; exact sA rfl; dsimp only [reduceAdd, reduceMul]; exact dn; kernel_rfl; exact rfl; refine thn_n ?_; refine Gol.ret ?_)
  (apply RetQ.mk (by first | exact .inr rfl | exact .inl rfl); apply res_1 rfl; exact res_tmp rfl; exact out_val)
theorem acks_ok (g : Int) : Fresh Tryz.prog 33 [.ex l.length f (itsA l), .ex vs.length f2 (vtsA vs), .v (.int .i64 g), .v (.agg (nameC n))] (fun _ => .v (.int .i64 (acksN (stqN S l vs n) g))) [] := by
  have ho := open_ok l vs f f2 hl hv
  have hm := backs_ok S hS l vs f [] n hl hsm (knOk_nil S l vs) g
  generalize knF S l vs [] n = K' at hm
  generalize acksN (stqN S l vs n) g = r at hm ⊢
  refine Fresh.of (fn := Tryz.f33) Tryz.func33 rfl (lb rfl) fun w => ?_
  (
 apply Gol.sr; apply t1; exact s_box rfl rfl; apply t0; exact sA rfl; dsimp only [reduceAdd, reduceMul]; exact dn; exact rfl; refine Gol.seq ?_
 apply Gol.any; kernel_rfl; apply t0; exact sM rfl; apply t0; exact sM rfl; dsimp only [reduceAdd, reduceMul, reduceSub, na, ca, nbk, mc, ml]
 apply tq; apply s_acts (f := 45) [] rfl inferInstance; exact ho; apply eC rfl; apply eC rfl
 exact eN; exact rfl; exact ABs.nil; dsimp only [List.cons_append, List.nil_append, List.append_nil]; exact RenL.clo; apply Ren.pt; exact CaR.new 0 rfl rfl
 apply HRen.kept; exact CaR.new 0 rfl rfl; apply rK; apply rK; apply rK; apply rK; apply RenL.cons; apply Ren.mp; exact CaR.new 1 rfl rfl; exact RenL.nil; apply HRen.kept
 exact CaR.new 1 rfl rfl; exact RenL.clo; exact HRen.nil; exact lb rfl; dsimp only [reduceAdd, reduceMul, reduceSub, na, ca, nbk, nones, mc, ml]
 apply t0; exact sM rfl; apply t0; exact s_loadW rfl rfl rfl (agu_cuv _); dsimp only [reduceAdd, reduceMul, reduceSub, na, ca, nbk, mc, ml]
 apply tq; apply s_acts (f := 68) [32, 33] rfl inferInstance; exact hm; apply eC rfl
 apply eC rfl; apply eC rfl; exact eN; exact rfl; apply ABs.cons; exact rfl; exact rfl; exact rfl; apply rK
 apply rK; apply rK; apply rK; apply RenL.cons
 apply Ren.mp; exact CaR.old rfl; exact RenL.nil; apply ABs.cons; exact rfl; exact rfl; exact rfl; exact RenL.clo; exact ABs.nil; dsimp only [List.cons_append, List.nil_append, List.append_nil]
 apply RenL.cons; apply Ren.pt; exact CaR.old rfl; apply rK; apply rK; exact RenL.nil
 exact rZ; apply HRen.kept; exact CaR.old rfl; apply rK; apply rK
 apply rK; apply rK; apply RenL.cons; apply Ren.mp; exact CaR.old rfl; exact RenL.nil
 apply HRen.kept; exact CaR.old rfl; exact RenL.clo; exact HRen.nil; exact lb rfl; dsimp only [reduceAdd, reduceMul, reduceSub, na, ca, nbk, nones, mc, ml]
 apply t0; exact sA rfl; dsimp only [reduceAdd, reduceMul]; exact dn; kernel_rfl; exact rfl; refine thn_n ?_; refine Gol.ret ?_)
  (apply RetQ.mk (by first | exact .inr rfl | exact .inl rfl); apply res_1 rfl; exact res_tmp rfl; exact out_val)
theorem locked_ok (g : Int) : Fresh Tryz.prog 30 [.ex l.length f (itsA l), .ex vs.length f2 (vtsA vs), .v (.int .i64 g), .v (.agg (nameC n))] (fun _ => .v (.bool (lockedB (stqN S l vs n) g))) [] := by
  have ho := open_ok l vs f f2 hl hv
  have hm := blocked_ok S hS l vs f [] n hl hsm (knOk_nil S l vs) g
  generalize knF S l vs [] n = K' at hm
  generalize lockedB (stqN S l vs n) g = r at hm ⊢
  refine Fresh.of (fn := Tryz.f30) Tryz.func30 rfl (lb rfl) fun w => ?_
  (
 apply Gol.sr; apply t1; exact s_box rfl rfl; apply t0; exact sA rfl; dsimp only [reduceAdd, reduceMul]; exact dn; exact rfl; refine Gol.seq ?_
 apply Gol.any; kernel_rfl; apply t0; exact sM rfl; apply t0; exact sM rfl; dsimp only [reduceAdd, reduceMul, reduceSub, na, ca, nbk, mc, ml]
 apply tq; apply s_acts (f := 45) [] rfl inferInstance; exact ho; apply eC rfl; apply eC rfl
 exact eN; exact rfl; exact ABs.nil; dsimp only [List.cons_append, List.nil_append, List.append_nil]; exact RenL.clo; apply Ren.pt; exact CaR.new 0 rfl rfl
 apply HRen.kept; exact CaR.new 0 rfl rfl; apply rK; apply rK; apply rK; apply rK; apply RenL.cons; apply Ren.mp; exact CaR.new 1 rfl rfl; exact RenL.nil; apply HRen.kept
 exact CaR.new 1 rfl rfl; exact RenL.clo; exact HRen.nil; exact lb rfl; dsimp only [reduceAdd, reduceMul, reduceSub, na, ca, nbk, nones, mc, ml]
 apply t0; exact sM rfl; apply t0; exact s_loadW rfl rfl rfl (agu_cuv _); dsimp only [reduceAdd, reduceMul, reduceSub, na, ca, nbk, mc, ml]
 apply tq; apply s_acts (f := 65) [32, 33] rfl inferInstance; exact hm; apply eC rfl
 apply eC rfl; apply eC rfl; exact eN; exact rfl; apply ABs.cons; exact rfl; exact rfl; exact rfl; apply rK
 apply rK; apply rK; apply rK; apply RenL.cons
 apply Ren.mp; exact CaR.old rfl; exact RenL.nil; apply ABs.cons; exact rfl; exact rfl; exact rfl; exact RenL.clo; exact ABs.nil; dsimp only [List.cons_append, List.nil_append, List.append_nil]
 apply RenL.cons; apply Ren.pt; exact CaR.old rfl; apply rK; apply rK; exact RenL.nil
 exact rZ; apply HRen.kept; exact CaR.old rfl; apply rK; apply rK
 apply rK; apply rK; apply RenL.cons; apply Ren.mp; exact CaR.old rfl; exact RenL.nil
 apply HRen.kept; exact CaR.old rfl; exact RenL.clo; exact HRen.nil; exact lb rfl; dsimp only [reduceAdd, reduceMul, reduceSub, na, ca, nbk, nones, mc, ml]
 apply t0; exact sA rfl; dsimp only [reduceAdd, reduceMul]; exact dn; kernel_rfl; exact rfl; refine thn_n ?_; refine Gol.ret ?_)
  (apply RetQ.mk (by first | exact .inr rfl | exact .inl rfl); apply res_1 rfl; exact res_tmp rfl; exact out_val)
theorem final_ok (g : Int) : Fresh Tryz.prog 31 [.ex l.length f (itsA l), .ex vs.length f2 (vtsA vs), .v (.int .i64 g), .v (.agg (nameC n))] (fun _ => .v (.bool (finalB (stqN S l vs n) g))) [] := by
  have ho := open_ok l vs f f2 hl hv
  have hm := bfinal_ok S hS l vs f [] n hl hsm (knOk_nil S l vs) g
  generalize knF S l vs [] n = K' at hm
  generalize finalB (stqN S l vs n) g = r at hm ⊢
  refine Fresh.of (fn := Tryz.f31) Tryz.func31 rfl (lb rfl) fun w => ?_
  (
 apply Gol.sr; apply t1; exact s_box rfl rfl; apply t0; exact sA rfl; dsimp only [reduceAdd, reduceMul]; exact dn; exact rfl; refine Gol.seq ?_
 apply Gol.any; kernel_rfl; apply t0; exact sM rfl; apply t0; exact sM rfl; dsimp only [reduceAdd, reduceMul, reduceSub, na, ca, nbk, mc, ml]
 apply tq; apply s_acts (f := 45) [] rfl inferInstance; exact ho; apply eC rfl; apply eC rfl
 exact eN; exact rfl; exact ABs.nil; dsimp only [List.cons_append, List.nil_append, List.append_nil]; exact RenL.clo; apply Ren.pt; exact CaR.new 0 rfl rfl
 apply HRen.kept; exact CaR.new 0 rfl rfl; apply rK; apply rK; apply rK; apply rK; apply RenL.cons; apply Ren.mp; exact CaR.new 1 rfl rfl; exact RenL.nil; apply HRen.kept
 exact CaR.new 1 rfl rfl; exact RenL.clo; exact HRen.nil; exact lb rfl; dsimp only [reduceAdd, reduceMul, reduceSub, na, ca, nbk, nones, mc, ml]
 apply t0; exact sM rfl; apply t0; exact s_loadW rfl rfl rfl (agu_cuv _); dsimp only [reduceAdd, reduceMul, reduceSub, na, ca, nbk, mc, ml]
 apply tq; apply s_acts (f := 66) [32, 33] rfl inferInstance; exact hm; apply eC rfl
 apply eC rfl; apply eC rfl; exact eN; exact rfl; apply ABs.cons; exact rfl; exact rfl; exact rfl; apply rK
 apply rK; apply rK; apply rK; apply RenL.cons
 apply Ren.mp; exact CaR.old rfl; exact RenL.nil; apply ABs.cons; exact rfl; exact rfl; exact rfl; exact RenL.clo; exact ABs.nil; dsimp only [List.cons_append, List.nil_append, List.append_nil]
 apply RenL.cons; apply Ren.pt; exact CaR.old rfl; apply rK; apply rK; exact RenL.nil
 exact rZ; apply HRen.kept; exact CaR.old rfl; apply rK; apply rK
 apply rK; apply rK; apply RenL.cons; apply Ren.mp; exact CaR.old rfl; exact RenL.nil
 apply HRen.kept; exact CaR.old rfl; exact RenL.clo; exact HRen.nil; exact lb rfl; dsimp only [reduceAdd, reduceMul, reduceSub, na, ca, nbk, nones, mc, ml]
 apply t0; exact sA rfl; dsimp only [reduceAdd, reduceMul]; exact dn; kernel_rfl; exact rfl; refine thn_n ?_; refine Gol.ret ?_)
  (apply RetQ.mk (by first | exact .inr rfl | exact .inl rfl); apply res_1 rfl; exact res_tmp rfl; exact out_val)
end
end Go.Proofs.YtneeclacmhhblaaGreat

