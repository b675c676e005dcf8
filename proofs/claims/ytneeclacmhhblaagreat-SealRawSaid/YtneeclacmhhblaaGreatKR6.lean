/-
  Texts laid together: Rs3, Hv, Lr26, Opg, Op21, Opv7, Op26. Conditions: as told in each.
-/
import Derived.Test.YtneeclacmhhblaaGreatKR5
set_option linter.unusedSimpArgs false
set_option linter.unusedVariables false
set_option linter.unusedSectionVars false
namespace Go.Proofs.YtneeclacmhhblaaGreat
open Go.RowKit
open Nat (reduceAdd reduceMul reduceSub)

theorem hiB_iff (b y : It) : hiB b y = true ↔ y.h < b.h ∨ (y.h = b.h ∧ b.n.toNat ≤ y.n.toNat) := by
  unfold hiB
  have e : 0 ≤ cmpN y.n b.n ↔ b.n.toNat ≤ y.n.toNat := by
    by_cases h : y.n < b.n
    · have := UInt64.lt_iff_toNat_lt.1 h
      rw [cmpN_lt h]; omega
    · have := cmpN_ge h
      have h2 : ¬ y.n.toNat < b.n.toNat := fun q => h (UInt64.lt_iff_toNat_lt.2 q)
      omega
  rw [Bool.or_eq_true, Bool.and_eq_true, decide_eq_true_iff, decide_eq_true_iff, decide_eq_true_iff, e]
theorem hiB_no (b y : It) : hiB b y = false ↔ b.h < y.h ∨ (y.h = b.h ∧ y.n.toNat < b.n.toNat) := by
  have := hiB_iff b y
  cases h : hiB b y with
  | true => rw [h] at this; have := this.1 rfl; constructor; intro q; cases q; omega
  | false => rw [h] at this; constructor; intro _; by_cases q : y.h < b.h ∨ (y.h = b.h ∧ b.n.toNat ≤ y.n.toNat); have := this.2 q; cases this; omega; intro _; rfl
theorem fnd_first {l : List It} {n : UInt64} {j i : Nat} {x : It} (h : fnd l n = some j) (hx : l[i]? = some x) (hn : x.n = n) : j ≤ i := by
  by_cases hij : j ≤ i
  · exact hij
  have hN := fnd_next hx n
  have hp : ∀ q, fnd (l.take i) n = some q → q < i ∧ j = q := fun q hq => by
    obtain ⟨y, h1, _⟩ := fnd_lt hq
    have h2 := (List.getElem?_eq_some_iff.1 h1).1
    rw [List.length_take] at h2
    have h3 := fnd_ext hq
    rw [h] at h3
    injection h3 with h3
    exact ⟨by omega, h3⟩
  cases hq : fnd (l.take i) n with
  | some q => have := hp q hq; omega
  | none =>
    rw [hq] at hN
    dsimp only at hN
    rw [if_pos hn] at hN
    have h3 := fnd_ext hN
    rw [h] at h3
    injection h3 with h3
    omega
structure BestI (p : UInt64 → Bool) (l : List It) (i : Nat) (bI : Int) : Prop where
  at_ : match hiN p l i with | none => bI = -1 | some b => ∃ k : Nat, bI = (k : Int) ∧ l[k]? = some b
  cov : ∀ (j : Nat) (y : It), j < i → l[j]? = some y → p y.n = true → ∃ b z, hiN p l i = some b ∧ itOf l y.n = some z ∧ hiB b z = true
theorem BestI.zero (p : UInt64 → Bool) (l : List It) : BestI p l 0 (-1) := ⟨rfl, fun j y h => by omega⟩
theorem BestI.skip {p : UInt64 → Bool} {l : List It} {i : Nat} {bI : Int} {x z : It} (h : BestI p l i bI) (hx : l[i]? = some x) (hz : itOf l x.n = some z) (hs : p x.n = false ∨ ∃ b, hiN p l i = some b ∧ hiB b z = true) : BestI p l (i + 1) bI := by
  have hN : hiN p l (i + 1) = hiN p l i := by
    rw [hiN_next hx]
    rcases hs with h1 | ⟨b, h1, h2⟩
    · exact hiOne_no hz h1
    · rw [h1]; exact hiOne_keep hz h2
  refine ⟨by rw [hN]; exact h.at_, fun j y hj hy hp => ?_⟩
  rw [hN]
  by_cases e : j = i
  · subst e
    rw [hx] at hy
    injection hy with hy
    subst hy
    rcases hs with h1 | ⟨b, h1, h2⟩
    · rw [h1] at hp; cases hp
    · exact ⟨b, z, h1, hz, h2⟩
  · exact h.cov j y (by omega) hy hp
theorem BestI.take {p : UInt64 → Bool} {l : List It} {i : Nat} {bI : Int} {x : It} (h : BestI p l i bI) (hx : l[i]? = some x) (hz : itOf l x.n = some x) (hp : p x.n = true) (hs : hiN p l i = none ∨ ∃ b, hiN p l i = some b ∧ hiB b x = false) : BestI p l (i + 1) (i : Int) := by
  have hN : hiN p l (i + 1) = some x := by
    rw [hiN_next hx]
    rcases hs with h1 | ⟨b, h1, h2⟩
    · rw [h1]; exact hiOne_first hz hp
    · rw [h1]; exact hiOne_new hz hp h2
  refine ⟨by rw [hN]; exact ⟨i, rfl, hx⟩, fun j y hj hy hpy => ?_⟩
  rw [hN]
  by_cases e : j = i
  · subst e
    rw [hx] at hy
    injection hy with hy
    subst hy
    exact ⟨x, x, rfl, hz, (hiB_iff x x).2 (.inr ⟨rfl, Nat.le_refl _⟩)⟩
  · obtain ⟨b, z, h1, h2, h3⟩ := h.cov j y (by omega) hy hpy
    refine ⟨x, z, rfl, h2, ?_⟩
    rcases hs with h4 | ⟨b2, h4, h5⟩
    · rw [h4] at h1; cases h1
    · rw [h4] at h1
      injection h1 with h1
      subst h1
      rw [hiB_iff] at h3 ⊢
      rw [hiB_no] at h5
      omega
section
variable (S : List UInt8 → UInt64) (hS : HashF S) (l : List It) (vs : List Vt) (f f2 : Bool) (hl : l.length ≤ 1000000) (hv : vs.length ≤ 1000000) (hsm : ∀ x ∈ l, Sm x.st)
include hS hl hv hsm
set_option maxHeartbeats 3200000 in
theorem refBase_ok (g : Int) : Fresh Tryz.prog 14 [.ex l.length f (itsA l), .ex vs.length f2 (vtsA vs), .v (.int .i64 g)] (fun _ => .v (.agg (nameC (hiF (fun n => lockedB (stqN S l vs n) g) l)))) [] := by
  have hL : ∀ n, _ := fun n => refLocked_ok S hS l vs f f2 hl hv hsm g n
  generalize hp : (fun n => lockedB (stqN S l vs n) g) = p
  have hpn : ∀ n, lockedB (stqN S l vs n) g = p n := fun n => by rw [← hp]
  clear hp
  unfold hiF
  refine Fresh.of (fn := Tryz.f14) Tryz.func14 rfl (lb rfl) fun w => ?_
  (
 apply Gol.sr; apply t1; exact s_alloc; dsimp only [reduceAdd, reduceMul]; exact dn; exact rfl; apply Gol.sr; apply t0; exact sA rfl; dsimp only [reduceAdd, reduceMul]
 exact dn; exact rfl; refine Gol.seq ?_; apply Gol.sr; apply t0; exact sA rfl; dsimp only [reduceAdd, reduceMul]; exact dn
 exact rfl; refine Gol.block ?_)
  refine Gol.loop (ι := Nat × Int) (fun q => q.1 ≤ l.length ∧ BestI p l q.1 q.2) (fun q => l.length - q.1) 400
    (fun q => [(0, some ⟨[.v (.int .u8 0), .v (.int .u8 0), .v (.int .u8 0), .v (.int .u8 0), .v (.int .u8 0), .v (.int .u8 0), .v (.int .u8 0), .v (.int .u8 0)], 23, 8⟩)])
    (fun q => [(0, .ex l.length f (itsA l)), (1, .ex vs.length f2 (vtsA vs)), (2, .v (.int .i64 g)), (6, .pt 0 0), (7, .v (.int .i64 q.2)), (8, .v (.int .i64 (q.1 : Int)))]) (0, -1) ⟨Nat.zero_le _, BestI.zero p l⟩ ?_ ?_
  · (
 apply Le.mk3' []; apply RnT3.c; exact rfl; apply Rn3.r; exact Rn.clo inferInstance rfl; apply RnT3.c; exact rfl; apply Rn3.r; exact Rn.clo inferInstance rfl
 apply RnT3.c; exact rfl; apply Rn3.r; exact Rn.v rfl; apply RnT3.c; exact rfl; apply Rn3.r; exact Rn.pt rfl rfl; apply RnT3.c; exact rfl; apply Rn3.r
 exact Rn.v rfl; apply RnT3.c; exact rfl; apply Rn3.r; exact Rn.v rfl; exact RnT3.n; apply RnH3.c; exact rfl; exact rfl; apply RnC.cl; rfl; exact inferInstance
 exact rfl; exact rfl; exact RnH3.n; exact rfl; exact rfl)
  rintro ⟨i, bI⟩ ⟨hi, hB⟩
  dsimp only at hi hB ⊢
  (
 refine Gol.seq ?_; apply Gol.sr; apply t0; exact sM rfl; apply t0; exact sM rfl; apply t0; exact s_len rfl ln_ex; apply t0; exact s_ltn rfl rfl
 dsimp only [reduceAdd, reduceMul]; exact dn; exact rfl)
  refine Gol.cond rfl (fun h => ?_) (fun h => ?_)
  rotate_left
  · have hge : ¬ i < l.length := of_decide_eq_false h
    obtain rfl : i = l.length := by omega
    have ha := hB.at_
    cases hb : hiN p l l.length with
    | none =>
      rw [hb] at ha
      dsimp only at ha
      subst ha
      (
 refine Gol.exit ?_; refine thn_x ?_; refine rnd_x ?_; refine inBlk_hit ?_; refine thn_n ?_
 refine Gol.seq ?_; apply Gol.sr; apply t0; exact sM rfl; apply t0; exact s_lt rfl rfl; dsimp only [reduceAdd, reduceMul]
 exact dn; exact rfl)
      refine Gol.cond_t rfl rfl ?_
      (
 apply Gol.sr; apply t0; exact s_zero; apply n1; exact s_storeW rfl rfl rfl rfl rfl rfl; dsimp only [reduceAdd, reduceMul]; exact dn; exact rfl
 refine Gol.ret ?_; refine thn_r ?_)
      (apply RetQ.mk (by first | exact .inr rfl | exact .inl rfl); apply res_1 rfl; exact res_cell rfl rfl rfl (agu_cuv _); exact out_val)
    | some b =>
      rw [hb] at ha
      dsimp only at ha
      obtain ⟨k, rfl, hk⟩ := ha
      have hlk := (List.getElem?_eq_some_iff.1 hk).1
      dsimp only [Option.getD]
      (
 refine Gol.exit ?_; refine thn_x ?_; refine rnd_x ?_; refine inBlk_hit ?_; refine thn_n ?_
 refine Gol.seq ?_; apply Gol.sr; apply t0; exact sM rfl; apply t0; exact s_ltn rfl rfl; dsimp only [reduceAdd, reduceMul]
 exact dn; exact rfl)
      refine Gol.cond_f rfl (by simp) ?_
      (
 refine Gol.skip ?_; refine thn_n ?_; apply Gol.sr; apply t0; exact sM rfl; apply t0; exact sM rfl; apply t0
 exact s_ixeD rfl rfl (by omega) (its_ne (by omega)) (its_at (by assumption)); apply t0; exact s_fieldAddrE rfl; apply t0; exact s_loadEN rfl (lb rfl) (agu_nm8 rfl)
 apply n1; exact s_storeW rfl rfl rfl rfl rfl rfl; dsimp only [reduceAdd, reduceMul]; exact dn; exact rfl; refine Gol.ret ?_)
      (apply RetQ.mk (by first | exact .inr rfl | exact .inl rfl); apply res_1 rfl; exact res_cell rfl rfl rfl (agu_cuv _); exact out_val)
  have hlt : i < l.length := of_decide_eq_true h
  have hx : l[i]? = some l[i] := List.getElem?_eq_getElem hlt
  generalize l[i] = x at hx
  obtain ⟨z, hz, hzn⟩ := itOf_some hx
  obtain ⟨j, hfj, hzj, _⟩ := fnd_some hz
  have hF := refFind_yes (f := f) hfj (by omega)
  have hji := fnd_first hfj hx rfl
  have hc := hL x.n
  rw [hpn] at hc
  by_cases hj : j = i
  rotate_left
  · have dj : decide (j = i) = false := decide_eq_false hj
    have hB2 : BestI p l (i + 1) bI := by
      refine hB.skip hx hz ?_
      cases h1 : p x.n with
      | false => exact .inl rfl
      | true =>
        obtain ⟨b, z2, q1, q2, q3⟩ := hB.cov j z (by omega) hzj (by rw [hzn]; exact h1)
        rw [hzn, hz] at q2
        injection q2 with q2
        subst q2
        exact .inr ⟨b, q1, q3⟩
    (
 refine Gol.skip ?_; refine thn_n ?_; refine Gol.seq ?_; refine Gol.block ?_; refine Gol.seq ?_
 apply Gol.any; kernel_rfl; apply t0; exact sM rfl; apply t0; exact sM rfl; apply t0; exact sM rfl; apply t0; exact s_ixeD rfl rfl (by omega) (its_ne (by omega)) (its_at (by assumption))
 apply t0; exact s_fieldAddrE rfl; apply t0; exact s_loadEN rfl (lb rfl) (agu_nm8 rfl); apply tq; exact s_call (f := 47) rfl (eC rfl (eC rfl eN)) (aC aL (aC aL aN)) hF (lb rfl)
 dsimp only [reduceAdd, reduceMul, reduceSub, na, ca, nbk, mc, ml]; apply t0; exact sM rfl
 apply t0; exact s_eqn rfl rfl; apply t0; exact sM rfl; apply sk; exact wnt_g rfl rfl rfl (by simp only [*]; rfl); apply sk; exact wnt_g rfl rfl rfl (by simp only [*]; rfl)
 apply sk; exact wnt_g rfl rfl rfl (by simp only [*]; rfl); apply sk; exact wnt_g rfl rfl rfl (by simp only [*]; rfl); apply sk; exact wnt_g rfl rfl rfl (by simp only [*]; rfl)
 apply sk; exact wnt_g rfl rfl rfl (by simp only [*]; rfl); apply sk; exact wnt_g rfl rfl rfl (by simp only [*]; rfl); apply sk; exact wnt_g rfl rfl rfl (by simp only [*]; rfl)
 apply sk; exact wnt_g rfl rfl rfl (by simp only [*]; rfl); apply t0; exact s_pick_f rfl (by assumption) rfl; apply t0; exact sM rfl; apply sk
 exact wnt_g rfl rfl rfl rfl; apply sk; exact wnt_g rfl rfl rfl rfl; apply sk; exact wnt_g rfl rfl rfl rfl; apply sk; exact wnt_u rfl rfl rfl; apply sk
 exact wnt_u rfl rfl rfl; apply sk; exact wnt_u rfl rfl rfl; apply sk; exact wnt_u rfl rfl rfl; apply sk; exact wnt_u rfl rfl rfl; apply sk; exact wnt_u rfl rfl rfl
 apply sk; exact wnt_u rfl rfl rfl; apply sk; exact wnt_u rfl rfl rfl; apply sk; exact wnt_u rfl rfl rfl; apply sk; exact wnt_u rfl rfl rfl; apply sk; exact wnt_u rfl rfl rfl
 apply sk; exact wnt_g rfl rfl rfl rfl; apply sk; exact wnt_g rfl rfl rfl rfl; apply sk; exact wnt_u rfl rfl rfl; apply sk; exact wnt_u rfl rfl rfl; apply sk
 exact wnt_u rfl rfl rfl; apply sk; exact wnt_u rfl rfl rfl; apply sk; exact wnt_u rfl rfl rfl; apply sk; exact wnt_u rfl rfl rfl; apply sk; exact wnt_u rfl rfl rfl
 apply sk; exact wnt_u rfl rfl rfl; apply sk; exact wnt_u rfl rfl rfl; apply sk; exact wnt_u rfl rfl rfl; apply sk; exact wnt_u rfl rfl rfl; apply sk; exact wnt_u rfl rfl rfl
 apply sk; exact wnt_u rfl rfl rfl; apply sk; exact wnt_u rfl rfl rfl; apply sk; exact wnt_u rfl rfl rfl; apply sk; exact wnt_u rfl rfl rfl; apply sk; exact wnt_u rfl rfl rfl
 apply sk; exact wnt_u rfl rfl rfl; apply sk; exact wnt_u rfl rfl rfl; apply sk; exact wnt_u rfl rfl rfl; apply sk; exact wnt_u rfl rfl rfl; apply sk; exact wnt_u rfl rfl rfl
 apply sk; exact wnt_u rfl rfl rfl; apply sk; exact wnt_u rfl rfl rfl; apply sk; exact wnt_g rfl rfl rfl rfl; apply t0; exact s_pick_f rfl rfl rfl; dsimp only [reduceAdd, reduceMul]
 exact dn; kernel_rfl; exact rfl; refine thn_n ?_)
    refine Gol.cond_f rfl (by first | rfl | assumption) ?_
    (
 refine Gol.skip ?_; refine inBlk_n ?_; refine thn_n ?_; apply Gol.region; apply t0
 exact sM rfl; apply t0; exact s_addn rfl rfl (by simp <;> omega); apply t0; exact sA rfl; dsimp only [reduceAdd, reduceMul]; exact dn
 exact rfl)
    refine rnd_n (i + 1, bI) ⟨hlt, hB2⟩ (by dsimp only; omega) ?_
    (
 apply Le.mk3' []; apply RnT3.c; exact rfl; apply Rn3.r; exact Rn.clo inferInstance rfl; apply RnT3.c; exact rfl; apply Rn3.r; exact Rn.clo inferInstance rfl
 apply RnT3.c; exact rfl; apply Rn3.r; exact Rn.v rfl; apply RnT3.c; exact rfl; apply Rn3.r; exact Rn.pt rfl rfl; apply RnT3.c; exact rfl; apply Rn3.r
 exact Rn.v rfl; apply RnT3.c; exact rfl; apply Rn3.r; exact Rn.v rfl; exact RnT3.n; apply RnH3.c; exact rfl; exact rfl; apply RnC.cl; rfl; exact inferInstance
 exact rfl; exact rfl; exact RnH3.n; exact rfl; exact rfl)
  subst hj
  have hzx : z = x := by rw [hx] at hzj; injection hzj with hzj; exact hzj.symm
  subst hzx
  have dj : decide (j = j) = true := by simp
  cases h1 : p z.n with
  | false =>
    rw [h1] at hc
    have hB2 := hB.skip hx hz (.inl h1)
    generalize hii : j = i at *
    (
 refine Gol.skip ?_; refine thn_n ?_; refine Gol.seq ?_; refine Gol.block ?_; refine Gol.seq ?_
 apply Gol.any; kernel_rfl; apply t0; exact sM rfl; apply t0; exact sM rfl; apply t0; exact sM rfl; apply t0; exact s_ixeD rfl rfl (by omega) (its_ne (by omega)) (its_at (by assumption))
 apply t0; exact s_fieldAddrE rfl; apply t0; exact s_loadEN rfl (lb rfl) (agu_nm8 rfl); apply tq; exact s_call (f := 47) rfl (eC rfl (eC rfl eN)) (aC aL (aC aL aN)) hF (lb rfl)
 dsimp only [reduceAdd, reduceMul, reduceSub, na, ca, nbk, mc, ml]; apply t0; exact sM rfl
 apply t0; exact s_eqn rfl rfl; apply t0; exact sM rfl; apply g0; exact wnt_g rfl rfl rfl (by simp only [*]; rfl); exact sM rfl; apply g0
 exact wnt_g rfl rfl rfl (by simp only [*]; rfl); exact sM rfl; apply g0; exact wnt_g rfl rfl rfl (by simp only [*]; rfl); exact sM rfl
 apply g0; exact wnt_g rfl rfl rfl (by simp only [*]; rfl); exact sM rfl; apply g0; exact wnt_g rfl rfl rfl (by simp only [*]; rfl)
 exact sM rfl; apply g0; exact wnt_g rfl rfl rfl (by simp only [*]; rfl); exact s_ixeD rfl rfl (by omega) (its_ne (by omega)) (its_at (by assumption))
 apply g0; exact wnt_g rfl rfl rfl (by simp only [*]; rfl); exact s_fieldAddrE rfl; apply g0; exact wnt_g rfl rfl rfl (by simp only [*]; rfl)
 exact s_loadEN rfl (lb rfl) (agu_nm8 rfl); apply gq; exact wnt_g rfl rfl rfl (by simp only [*]; rfl); exact s_call (f := 43) rfl (eC rfl (eC rfl (eC rfl (eC rfl eN)))) (aC aL (aC aL (aC aL (aC aL aN)))) hc (lb rfl)
 dsimp only [reduceAdd, reduceMul, reduceSub, na, ca, nbk, mc, ml]; apply t0; exact s_pick_t rfl (by assumption) rfl
 apply t0; exact sM rfl; apply sk; exact wnt_g rfl rfl rfl rfl; apply sk; exact wnt_g rfl rfl rfl rfl; apply sk; exact wnt_g rfl rfl rfl rfl; apply sk
 exact wnt_u rfl rfl rfl; apply sk; exact wnt_u rfl rfl rfl; apply sk; exact wnt_u rfl rfl rfl; apply sk; exact wnt_u rfl rfl rfl; apply sk; exact wnt_u rfl rfl rfl
 apply sk; exact wnt_u rfl rfl rfl; apply sk; exact wnt_u rfl rfl rfl; apply sk; exact wnt_u rfl rfl rfl; apply sk; exact wnt_u rfl rfl rfl; apply sk; exact wnt_u rfl rfl rfl
 apply sk; exact wnt_u rfl rfl rfl; apply sk; exact wnt_g rfl rfl rfl rfl; apply sk; exact wnt_g rfl rfl rfl rfl; apply sk; exact wnt_u rfl rfl rfl; apply sk
 exact wnt_u rfl rfl rfl; apply sk; exact wnt_u rfl rfl rfl; apply sk; exact wnt_u rfl rfl rfl; apply sk; exact wnt_u rfl rfl rfl; apply sk; exact wnt_u rfl rfl rfl
 apply sk; exact wnt_u rfl rfl rfl; apply sk; exact wnt_u rfl rfl rfl; apply sk; exact wnt_u rfl rfl rfl; apply sk; exact wnt_u rfl rfl rfl; apply sk; exact wnt_u rfl rfl rfl
 apply sk; exact wnt_u rfl rfl rfl; apply sk; exact wnt_u rfl rfl rfl; apply sk; exact wnt_u rfl rfl rfl; apply sk; exact wnt_u rfl rfl rfl; apply sk; exact wnt_u rfl rfl rfl
 apply sk; exact wnt_u rfl rfl rfl; apply sk; exact wnt_u rfl rfl rfl; apply sk; exact wnt_u rfl rfl rfl; apply sk; exact wnt_u rfl rfl rfl; apply sk; exact wnt_u rfl rfl rfl
 apply sk; exact wnt_u rfl rfl rfl; apply sk; exact wnt_u rfl rfl rfl; apply sk; exact wnt_u rfl rfl rfl; apply sk; exact wnt_g rfl rfl rfl rfl; apply t0
 exact s_pick_f rfl rfl rfl; dsimp only [reduceAdd, reduceMul]; exact dn; kernel_rfl; exact rfl; refine thn_n ?_)
    refine Gol.cond_f rfl (by first | rfl | assumption) ?_
    (
 refine Gol.skip ?_; refine inBlk_n ?_; refine thn_n ?_; apply Gol.region; apply t0
 exact sM rfl; apply t0; exact s_addn rfl rfl (by simp <;> omega); apply t0; exact sA rfl; dsimp only [reduceAdd, reduceMul]; exact dn
 exact rfl)
    refine rnd_n (i + 1, bI) ⟨hlt, hB2⟩ (by dsimp only; omega) ?_
    (
 apply Le.mk3' []; apply RnT3.c; exact rfl; apply Rn3.r; exact Rn.clo inferInstance rfl; apply RnT3.c; exact rfl; apply Rn3.r; exact Rn.clo inferInstance rfl
 apply RnT3.c; exact rfl; apply Rn3.r; exact Rn.v rfl; apply RnT3.c; exact rfl; apply Rn3.r; exact Rn.pt rfl rfl; apply RnT3.c; exact rfl; apply Rn3.r
 exact Rn.v rfl; apply RnT3.c; exact rfl; apply Rn3.r; exact Rn.v rfl; exact RnT3.n; apply RnH3.c; exact rfl; exact rfl; apply RnC.cl; rfl; exact inferInstance
 exact rfl; exact rfl; exact RnH3.n; exact rfl; exact rfl)
  | true =>
    rw [h1] at hc
    have ha := hB.at_
    cases hb : hiN p l j with
    | none =>
      rw [hb] at ha
      dsimp only at ha
      subst ha
      have hB2 := hB.take hx hz h1 (.inl hb)
      generalize hii : j = i at *
      (
 refine Gol.skip ?_; refine thn_n ?_; refine Gol.seq ?_; refine Gol.block ?_; refine Gol.seq ?_
 apply Gol.any; kernel_rfl; apply t0; exact sM rfl; apply t0; exact sM rfl; apply t0; exact sM rfl; apply t0; exact s_ixeD rfl rfl (by omega) (its_ne (by omega)) (its_at (by assumption))
 apply t0; exact s_fieldAddrE rfl; apply t0; exact s_loadEN rfl (lb rfl) (agu_nm8 rfl); apply tq; exact s_call (f := 47) rfl (eC rfl (eC rfl eN)) (aC aL (aC aL aN)) hF (lb rfl)
 dsimp only [reduceAdd, reduceMul, reduceSub, na, ca, nbk, mc, ml]; apply t0; exact sM rfl
 apply t0; exact s_eqn rfl rfl; apply t0; exact sM rfl; apply g0; exact wnt_g rfl rfl rfl (by simp only [*]; rfl); exact sM rfl; apply g0
 exact wnt_g rfl rfl rfl (by simp only [*]; rfl); exact sM rfl; apply g0; exact wnt_g rfl rfl rfl (by simp only [*]; rfl); exact sM rfl
 apply g0; exact wnt_g rfl rfl rfl (by simp only [*]; rfl); exact sM rfl; apply g0; exact wnt_g rfl rfl rfl (by simp only [*]; rfl)
 exact sM rfl; apply g0; exact wnt_g rfl rfl rfl (by simp only [*]; rfl); exact s_ixeD rfl rfl (by omega) (its_ne (by omega)) (its_at (by assumption))
 apply g0; exact wnt_g rfl rfl rfl (by simp only [*]; rfl); exact s_fieldAddrE rfl; apply g0; exact wnt_g rfl rfl rfl (by simp only [*]; rfl)
 exact s_loadEN rfl (lb rfl) (agu_nm8 rfl); apply gq; exact wnt_g rfl rfl rfl (by simp only [*]; rfl); exact s_call (f := 43) rfl (eC rfl (eC rfl (eC rfl (eC rfl eN)))) (aC aL (aC aL (aC aL (aC aL aN)))) hc (lb rfl)
 dsimp only [reduceAdd, reduceMul, reduceSub, na, ca, nbk, mc, ml]; apply t0; exact s_pick_t rfl (by assumption) rfl
 apply t0; exact sM rfl; apply g0; exact wnt_g rfl rfl rfl rfl; exact sM rfl; apply g0; exact wnt_g rfl rfl rfl rfl; exact s_lt rfl rfl; apply g0
 exact wnt_g rfl rfl rfl rfl; exact sM rfl; apply sk; exact wnt_g rfl rfl rfl rfl; apply sk; exact wnt_g rfl rfl rfl rfl; apply sk; exact wnt_g rfl rfl rfl rfl
 apply sk; exact wnt_g rfl rfl rfl rfl; apply sk; exact wnt_g rfl rfl rfl rfl; apply sk; exact wnt_g rfl rfl rfl rfl; apply sk; exact wnt_g rfl rfl rfl rfl
 apply sk; exact wnt_g rfl rfl rfl rfl; apply sk; exact wnt_g rfl rfl rfl rfl; apply sk; exact wnt_g rfl rfl rfl rfl; apply sk; exact wnt_g rfl rfl rfl rfl
 apply g0; exact wnt_g rfl rfl rfl rfl; exact s_pick_t rfl rfl rfl; apply g0; exact wnt_g rfl rfl rfl rfl; exact sM rfl; apply sk; exact wnt_g rfl rfl rfl rfl
 apply sk; exact wnt_g rfl rfl rfl rfl; apply sk; exact wnt_g rfl rfl rfl rfl; apply sk; exact wnt_g rfl rfl rfl rfl; apply sk; exact wnt_g rfl rfl rfl rfl
 apply sk; exact wnt_g rfl rfl rfl rfl; apply sk; exact wnt_g rfl rfl rfl rfl; apply sk; exact wnt_g rfl rfl rfl rfl; apply sk; exact wnt_g rfl rfl rfl rfl
 apply sk; exact wnt_g rfl rfl rfl rfl; apply sk; exact wnt_g rfl rfl rfl rfl; apply sk; exact wnt_g rfl rfl rfl rfl; apply sk; exact wnt_u rfl rfl rfl
 apply sk; exact wnt_u rfl rfl rfl; apply sk; exact wnt_u rfl rfl rfl; apply sk; exact wnt_u rfl rfl rfl; apply sk; exact wnt_u rfl rfl rfl; apply sk; exact wnt_u rfl rfl rfl
 apply sk; exact wnt_u rfl rfl rfl; apply sk; exact wnt_u rfl rfl rfl; apply sk; exact wnt_u rfl rfl rfl; apply sk; exact wnt_u rfl rfl rfl; apply sk; exact wnt_u rfl rfl rfl
 apply sk; exact wnt_g rfl rfl rfl rfl; apply g0; exact wnt_g rfl rfl rfl rfl; exact s_pick_t rfl rfl rfl; apply t0; exact s_pick_t rfl rfl rfl; dsimp only [reduceAdd, reduceMul]
 exact dn; kernel_rfl; exact rfl; refine thn_n ?_)
      refine Gol.cond_t rfl (by first | rfl | assumption) ?_
      (
 apply Gol.region; apply t0; exact sM rfl; apply t0; exact sA rfl; dsimp only [reduceAdd, reduceMul]; exact dn; exact rfl
 refine inBlk_n ?_; refine thn_n ?_; apply Gol.region; apply t0; exact sM rfl; apply t0; exact s_addn rfl rfl (by simp <;> omega)
 apply t0; exact sA rfl; dsimp only [reduceAdd, reduceMul]; exact dn; exact rfl)
      refine rnd_n (i + 1, (i : Int)) ⟨hlt, hB2⟩ (by dsimp only; omega) ?_
      (
 apply Le.mk3' []; apply RnT3.c; exact rfl; apply Rn3.r; exact Rn.clo inferInstance rfl; apply RnT3.c; exact rfl; apply Rn3.r; exact Rn.clo inferInstance rfl
 apply RnT3.c; exact rfl; apply Rn3.r; exact Rn.v rfl; apply RnT3.c; exact rfl; apply Rn3.r; exact Rn.pt rfl rfl; apply RnT3.c; exact rfl; apply Rn3.r
 exact Rn.v rfl; apply RnT3.c; exact rfl; apply Rn3.r; exact Rn.v rfl; exact RnT3.n; apply RnH3.c; exact rfl; exact rfl; apply RnC.cl; rfl; exact inferInstance
 exact rfl; exact rfl; exact RnH3.n; exact rfl; exact rfl)
    | some b =>
      rw [hb] at ha
      dsimp only at ha
      obtain ⟨k, rfl, hk⟩ := ha
      have hlk := (List.getElem?_eq_some_iff.1 hk).1
      have dk : decide (k < 0) = false := decide_eq_false (Nat.not_lt_zero _)
      have hless := refLess_f z.n b.n
      by_cases h2 : b.h < z.h
      · have d2 : decide (b.h < z.h) = true := decide_eq_true h2
        have hB2 := hB.take hx hz h1 (.inr ⟨b, hb, (hiB_no b z).2 (.inl h2)⟩)
        generalize hii : j = i at *
        (
 refine Gol.skip ?_; refine thn_n ?_; refine Gol.seq ?_; refine Gol.block ?_; refine Gol.seq ?_
 apply Gol.any; kernel_rfl; apply t0; exact sM rfl; apply t0; exact sM rfl; apply t0; exact sM rfl; apply t0; exact s_ixeD rfl rfl (by omega) (its_ne (by omega)) (its_at (by assumption))
 apply t0; exact s_fieldAddrE rfl; apply t0; exact s_loadEN rfl (lb rfl) (agu_nm8 rfl); apply tq; exact s_call (f := 47) rfl (eC rfl (eC rfl eN)) (aC aL (aC aL aN)) hF (lb rfl)
 dsimp only [reduceAdd, reduceMul, reduceSub, na, ca, nbk, mc, ml]; apply t0; exact sM rfl
 apply t0; exact s_eqn rfl rfl; apply t0; exact sM rfl; apply g0; exact wnt_g rfl rfl rfl (by simp only [*]; rfl); exact sM rfl; apply g0
 exact wnt_g rfl rfl rfl (by simp only [*]; rfl); exact sM rfl; apply g0; exact wnt_g rfl rfl rfl (by simp only [*]; rfl); exact sM rfl
 apply g0; exact wnt_g rfl rfl rfl (by simp only [*]; rfl); exact sM rfl; apply g0; exact wnt_g rfl rfl rfl (by simp only [*]; rfl)
 exact sM rfl; apply g0; exact wnt_g rfl rfl rfl (by simp only [*]; rfl); exact s_ixeD rfl rfl (by omega) (its_ne (by omega)) (its_at (by assumption))
 apply g0; exact wnt_g rfl rfl rfl (by simp only [*]; rfl); exact s_fieldAddrE rfl; apply g0; exact wnt_g rfl rfl rfl (by simp only [*]; rfl)
 exact s_loadEN rfl (lb rfl) (agu_nm8 rfl); apply gq; exact wnt_g rfl rfl rfl (by simp only [*]; rfl); exact s_call (f := 43) rfl (eC rfl (eC rfl (eC rfl (eC rfl eN)))) (aC aL (aC aL (aC aL (aC aL aN)))) hc (lb rfl)
 dsimp only [reduceAdd, reduceMul, reduceSub, na, ca, nbk, mc, ml]; apply t0; exact s_pick_t rfl (by assumption) rfl
 apply t0; exact sM rfl; apply g0; exact wnt_g rfl rfl rfl rfl; exact sM rfl; apply g0; exact wnt_g rfl rfl rfl rfl; exact s_ltn rfl rfl; apply g0
 exact wnt_g rfl rfl rfl rfl; exact sM rfl; apply g0; exact wnt_g rfl rfl rfl rfl; exact sM rfl; apply g0; exact wnt_g rfl rfl rfl rfl; exact sM rfl
 apply g0; exact wnt_g rfl rfl rfl rfl; exact s_ixeD rfl rfl (by omega) (its_ne (by omega)) (its_at (by assumption)); apply g0; exact wnt_g rfl rfl rfl rfl
 exact s_fieldAddrE rfl; apply g0; exact wnt_g rfl rfl rfl rfl; exact s_loadE rfl rfl; apply g0; exact wnt_g rfl rfl rfl rfl; exact sM rfl; apply g0
 exact wnt_g rfl rfl rfl rfl; exact sM rfl; apply g0; exact wnt_g rfl rfl rfl rfl; exact s_ixeD rfl rfl (by omega) (its_ne (by omega)) (its_at (by assumption))
 apply g0; exact wnt_g rfl rfl rfl rfl; exact s_fieldAddrE rfl; apply g0; exact wnt_g rfl rfl rfl rfl; exact s_loadE rfl rfl; apply g0; exact wnt_g rfl rfl rfl rfl
 exact s_gt rfl rfl; apply g0; exact wnt_g rfl rfl rfl rfl; exact s_pick_f rfl rfl rfl; apply g0; exact wnt_g rfl rfl rfl rfl; exact sM rfl; apply sk
 exact wnt_g rfl rfl rfl (by simp only [*]; rfl); apply sk; exact wnt_g rfl rfl rfl (by simp only [*]; rfl); apply sk; exact wnt_g rfl rfl rfl (by simp only [*]; rfl)
 apply sk; exact wnt_g rfl rfl rfl (by simp only [*]; rfl); apply sk; exact wnt_g rfl rfl rfl (by simp only [*]; rfl); apply sk; exact wnt_g rfl rfl rfl (by simp only [*]; rfl)
 apply sk; exact wnt_g rfl rfl rfl (by simp only [*]; rfl); apply sk; exact wnt_g rfl rfl rfl (by simp only [*]; rfl); apply sk; exact wnt_g rfl rfl rfl (by simp only [*]; rfl)
 apply sk; exact wnt_g rfl rfl rfl (by simp only [*]; rfl); apply sk; exact wnt_g rfl rfl rfl (by simp only [*]; rfl); apply sk; exact wnt_g rfl rfl rfl (by simp only [*]; rfl)
 apply sk; exact wnt_u rfl rfl rfl; apply sk; exact wnt_u rfl rfl rfl; apply sk; exact wnt_u rfl rfl rfl; apply sk; exact wnt_u rfl rfl rfl; apply sk; exact wnt_u rfl rfl rfl
 apply sk; exact wnt_u rfl rfl rfl; apply sk; exact wnt_u rfl rfl rfl; apply sk; exact wnt_u rfl rfl rfl; apply sk; exact wnt_u rfl rfl rfl; apply sk; exact wnt_u rfl rfl rfl
 apply sk; exact wnt_u rfl rfl rfl; apply sk; exact wnt_g rfl rfl rfl (by simp only [*]; rfl); apply g0; exact wnt_g rfl rfl rfl rfl; exact s_pick_t rfl (by assumption) rfl
 apply t0; exact s_pick_t rfl rfl rfl; dsimp only [reduceAdd, reduceMul]; exact dn; kernel_rfl; exact rfl; refine thn_n ?_)
        refine Gol.cond_t rfl (by first | rfl | assumption) ?_
        (
 apply Gol.region; apply t0; exact sM rfl; apply t0; exact sA rfl; dsimp only [reduceAdd, reduceMul]; exact dn; exact rfl
 refine inBlk_n ?_; refine thn_n ?_; apply Gol.region; apply t0; exact sM rfl; apply t0; exact s_addn rfl rfl (by simp <;> omega)
 apply t0; exact sA rfl; dsimp only [reduceAdd, reduceMul]; exact dn; exact rfl)
        refine rnd_n (i + 1, (i : Int)) ⟨hlt, hB2⟩ (by dsimp only; omega) ?_
        (
 apply Le.mk3' []; apply RnT3.c; exact rfl; apply Rn3.r; exact Rn.clo inferInstance rfl; apply RnT3.c; exact rfl; apply Rn3.r; exact Rn.clo inferInstance rfl
 apply RnT3.c; exact rfl; apply Rn3.r; exact Rn.v rfl; apply RnT3.c; exact rfl; apply Rn3.r; exact Rn.pt rfl rfl; apply RnT3.c; exact rfl; apply Rn3.r
 exact Rn.v rfl; apply RnT3.c; exact rfl; apply Rn3.r; exact Rn.v rfl; exact RnT3.n; apply RnH3.c; exact rfl; exact rfl; apply RnC.cl; rfl; exact inferInstance
 exact rfl; exact rfl; exact RnH3.n; exact rfl; exact rfl)
      have d2 : decide (b.h < z.h) = false := decide_eq_false h2
      by_cases h3 : z.h = b.h
      rotate_left
      · have d3 : decide (z.h = b.h) = false := decide_eq_false h3
        have hB2 := hB.skip hx hz (.inr ⟨b, hb, (hiB_iff b z).2 (.inl (by omega))⟩)
        generalize hii : j = i at *
        (
 refine Gol.skip ?_; refine thn_n ?_; refine Gol.seq ?_; refine Gol.block ?_; refine Gol.seq ?_
 apply Gol.any; kernel_rfl; apply t0; exact sM rfl; apply t0; exact sM rfl; apply t0; exact sM rfl; apply t0; exact s_ixeD rfl rfl (by omega) (its_ne (by omega)) (its_at (by assumption))
 apply t0; exact s_fieldAddrE rfl; apply t0; exact s_loadEN rfl (lb rfl) (agu_nm8 rfl); apply tq; exact s_call (f := 47) rfl (eC rfl (eC rfl eN)) (aC aL (aC aL aN)) hF (lb rfl)
 dsimp only [reduceAdd, reduceMul, reduceSub, na, ca, nbk, mc, ml]; apply t0; exact sM rfl
 apply t0; exact s_eqn rfl rfl; apply t0; exact sM rfl; apply g0; exact wnt_g rfl rfl rfl (by simp only [*]; rfl); exact sM rfl; apply g0
 exact wnt_g rfl rfl rfl (by simp only [*]; rfl); exact sM rfl; apply g0; exact wnt_g rfl rfl rfl (by simp only [*]; rfl); exact sM rfl
 apply g0; exact wnt_g rfl rfl rfl (by simp only [*]; rfl); exact sM rfl; apply g0; exact wnt_g rfl rfl rfl (by simp only [*]; rfl)
 exact sM rfl; apply g0; exact wnt_g rfl rfl rfl (by simp only [*]; rfl); exact s_ixeD rfl rfl (by omega) (its_ne (by omega)) (its_at (by assumption))
 apply g0; exact wnt_g rfl rfl rfl (by simp only [*]; rfl); exact s_fieldAddrE rfl; apply g0; exact wnt_g rfl rfl rfl (by simp only [*]; rfl)
 exact s_loadEN rfl (lb rfl) (agu_nm8 rfl); apply gq; exact wnt_g rfl rfl rfl (by simp only [*]; rfl); exact s_call (f := 43) rfl (eC rfl (eC rfl (eC rfl (eC rfl eN)))) (aC aL (aC aL (aC aL (aC aL aN)))) hc (lb rfl)
 dsimp only [reduceAdd, reduceMul, reduceSub, na, ca, nbk, mc, ml]; apply t0; exact s_pick_t rfl (by assumption) rfl
 apply t0; exact sM rfl; apply g0; exact wnt_g rfl rfl rfl rfl; exact sM rfl; apply g0; exact wnt_g rfl rfl rfl rfl; exact s_ltn rfl rfl; apply g0
 exact wnt_g rfl rfl rfl rfl; exact sM rfl; apply g0; exact wnt_g rfl rfl rfl rfl; exact sM rfl; apply g0; exact wnt_g rfl rfl rfl rfl; exact sM rfl
 apply g0; exact wnt_g rfl rfl rfl rfl; exact s_ixeD rfl rfl (by omega) (its_ne (by omega)) (its_at (by assumption)); apply g0; exact wnt_g rfl rfl rfl rfl
 exact s_fieldAddrE rfl; apply g0; exact wnt_g rfl rfl rfl rfl; exact s_loadE rfl rfl; apply g0; exact wnt_g rfl rfl rfl rfl; exact sM rfl; apply g0
 exact wnt_g rfl rfl rfl rfl; exact sM rfl; apply g0; exact wnt_g rfl rfl rfl rfl; exact s_ixeD rfl rfl (by omega) (its_ne (by omega)) (its_at (by assumption))
 apply g0; exact wnt_g rfl rfl rfl rfl; exact s_fieldAddrE rfl; apply g0; exact wnt_g rfl rfl rfl rfl; exact s_loadE rfl rfl; apply g0; exact wnt_g rfl rfl rfl rfl
 exact s_gt rfl rfl; apply g0; exact wnt_g rfl rfl rfl rfl; exact s_pick_f rfl rfl rfl; apply g0; exact wnt_g rfl rfl rfl rfl; exact sM rfl; apply g0
 exact wnt_g rfl rfl rfl (by simp only [*]; rfl); exact sM rfl; apply g0; exact wnt_g rfl rfl rfl (by simp only [*]; rfl); exact sM rfl
 apply g0; exact wnt_g rfl rfl rfl (by simp only [*]; rfl); exact s_ixeD rfl rfl (by omega) (its_ne (by omega)) (its_at (by assumption)); apply g0
 exact wnt_g rfl rfl rfl (by simp only [*]; rfl); exact s_fieldAddrE rfl; apply g0; exact wnt_g rfl rfl rfl (by simp only [*]; rfl); exact s_loadE rfl rfl
 apply g0; exact wnt_g rfl rfl rfl (by simp only [*]; rfl); exact sM rfl; apply g0; exact wnt_g rfl rfl rfl (by simp only [*]; rfl)
 exact sM rfl; apply g0; exact wnt_g rfl rfl rfl (by simp only [*]; rfl); exact s_ixeD rfl rfl (by omega) (its_ne (by omega)) (its_at (by assumption))
 apply g0; exact wnt_g rfl rfl rfl (by simp only [*]; rfl); exact s_fieldAddrE rfl; apply g0; exact wnt_g rfl rfl rfl (by simp only [*]; rfl)
 exact s_loadE rfl rfl; apply g0; exact wnt_g rfl rfl rfl (by simp only [*]; rfl); exact s_eq rfl rfl; apply g0; exact wnt_g rfl rfl rfl (by simp only [*]; rfl)
 exact sM rfl; apply sk; exact wnt_g rfl rfl rfl (by simp only [*]; rfl); apply sk; exact wnt_g rfl rfl rfl (by simp only [*]; rfl)
 apply sk; exact wnt_g rfl rfl rfl (by simp only [*]; rfl); apply sk; exact wnt_g rfl rfl rfl (by simp only [*]; rfl); apply sk; exact wnt_g rfl rfl rfl (by simp only [*]; rfl)
 apply sk; exact wnt_g rfl rfl rfl (by simp only [*]; rfl); apply sk; exact wnt_g rfl rfl rfl (by simp only [*]; rfl); apply sk; exact wnt_g rfl rfl rfl (by simp only [*]; rfl)
 apply sk; exact wnt_g rfl rfl rfl (by simp only [*]; rfl); apply sk; exact wnt_g rfl rfl rfl (by simp only [*]; rfl); apply sk; exact wnt_g rfl rfl rfl (by simp only [*]; rfl)
 apply g0; exact wnt_g rfl rfl rfl (by simp only [*]; rfl); exact s_pick_f rfl (by assumption) rfl; apply g0; exact wnt_g rfl rfl rfl rfl; exact s_pick_f rfl (by assumption) rfl
 apply t0; exact s_pick_t rfl rfl rfl; dsimp only [reduceAdd, reduceMul]; exact dn; kernel_rfl; exact rfl; refine thn_n ?_)
        refine Gol.cond_f rfl (by first | rfl | assumption) ?_
        (
 refine Gol.skip ?_; refine inBlk_n ?_; refine thn_n ?_; apply Gol.region; apply t0
 exact sM rfl; apply t0; exact s_addn rfl rfl (by simp <;> omega); apply t0; exact sA rfl; dsimp only [reduceAdd, reduceMul]; exact dn
 exact rfl)
        refine rnd_n (i + 1, (k : Int)) ⟨hlt, hB2⟩ (by dsimp only; omega) ?_
        (
 apply Le.mk3' []; apply RnT3.c; exact rfl; apply Rn3.r; exact Rn.clo inferInstance rfl; apply RnT3.c; exact rfl; apply Rn3.r; exact Rn.clo inferInstance rfl
 apply RnT3.c; exact rfl; apply Rn3.r; exact Rn.v rfl; apply RnT3.c; exact rfl; apply Rn3.r; exact Rn.pt rfl rfl; apply RnT3.c; exact rfl; apply Rn3.r
 exact Rn.v rfl; apply RnT3.c; exact rfl; apply Rn3.r; exact Rn.v rfl; exact RnT3.n; apply RnH3.c; exact rfl; exact rfl; apply RnC.cl; rfl; exact inferInstance
 exact rfl; exact rfl; exact RnH3.n; exact rfl; exact rfl)
      have d3 : decide (z.h = b.h) = true := decide_eq_true h3
      by_cases h4 : z.n.toNat < b.n.toNat
      · have d4 : decide (z.n.toNat < b.n.toNat) = true := decide_eq_true h4
        have hB2 := hB.take hx hz h1 (.inr ⟨b, hb, (hiB_no b z).2 (.inr ⟨h3, h4⟩)⟩)
        rw [d4] at hless
        generalize hii : j = i at *
        (
 refine Gol.skip ?_; refine thn_n ?_; refine Gol.seq ?_; refine Gol.block ?_; refine Gol.seq ?_
 apply Gol.any; kernel_rfl; apply t0; exact sM rfl; apply t0; exact sM rfl; apply t0; exact sM rfl; apply t0; exact s_ixeD rfl rfl (by omega) (its_ne (by omega)) (its_at (by assumption))
 apply t0; exact s_fieldAddrE rfl; apply t0; exact s_loadEN rfl (lb rfl) (agu_nm8 rfl); apply tq; exact s_call (f := 47) rfl (eC rfl (eC rfl eN)) (aC aL (aC aL aN)) hF (lb rfl)
 dsimp only [reduceAdd, reduceMul, reduceSub, na, ca, nbk, mc, ml]; apply t0; exact sM rfl
 apply t0; exact s_eqn rfl rfl; apply t0; exact sM rfl; apply g0; exact wnt_g rfl rfl rfl (by simp only [*]; rfl); exact sM rfl; apply g0
 exact wnt_g rfl rfl rfl (by simp only [*]; rfl); exact sM rfl; apply g0; exact wnt_g rfl rfl rfl (by simp only [*]; rfl); exact sM rfl
 apply g0; exact wnt_g rfl rfl rfl (by simp only [*]; rfl); exact sM rfl; apply g0; exact wnt_g rfl rfl rfl (by simp only [*]; rfl)
 exact sM rfl; apply g0; exact wnt_g rfl rfl rfl (by simp only [*]; rfl); exact s_ixeD rfl rfl (by omega) (its_ne (by omega)) (its_at (by assumption))
 apply g0; exact wnt_g rfl rfl rfl (by simp only [*]; rfl); exact s_fieldAddrE rfl; apply g0; exact wnt_g rfl rfl rfl (by simp only [*]; rfl)
 exact s_loadEN rfl (lb rfl) (agu_nm8 rfl); apply gq; exact wnt_g rfl rfl rfl (by simp only [*]; rfl); exact s_call (f := 43) rfl (eC rfl (eC rfl (eC rfl (eC rfl eN)))) (aC aL (aC aL (aC aL (aC aL aN)))) hc (lb rfl)
 dsimp only [reduceAdd, reduceMul, reduceSub, na, ca, nbk, mc, ml]; apply t0; exact s_pick_t rfl (by assumption) rfl
 apply t0; exact sM rfl; apply g0; exact wnt_g rfl rfl rfl rfl; exact sM rfl; apply g0; exact wnt_g rfl rfl rfl rfl; exact s_ltn rfl rfl; apply g0
 exact wnt_g rfl rfl rfl rfl; exact sM rfl; apply g0; exact wnt_g rfl rfl rfl rfl; exact sM rfl; apply g0; exact wnt_g rfl rfl rfl rfl; exact sM rfl
 apply g0; exact wnt_g rfl rfl rfl rfl; exact s_ixeD rfl rfl (by omega) (its_ne (by omega)) (its_at (by assumption)); apply g0; exact wnt_g rfl rfl rfl rfl
 exact s_fieldAddrE rfl; apply g0; exact wnt_g rfl rfl rfl rfl; exact s_loadE rfl rfl; apply g0; exact wnt_g rfl rfl rfl rfl; exact sM rfl; apply g0
 exact wnt_g rfl rfl rfl rfl; exact sM rfl; apply g0; exact wnt_g rfl rfl rfl rfl; exact s_ixeD rfl rfl (by omega) (its_ne (by omega)) (its_at (by assumption))
 apply g0; exact wnt_g rfl rfl rfl rfl; exact s_fieldAddrE rfl; apply g0; exact wnt_g rfl rfl rfl rfl; exact s_loadE rfl rfl; apply g0; exact wnt_g rfl rfl rfl rfl
 exact s_gt rfl rfl; apply g0; exact wnt_g rfl rfl rfl rfl; exact s_pick_f rfl rfl rfl; apply g0; exact wnt_g rfl rfl rfl rfl; exact sM rfl; apply g0
 exact wnt_g rfl rfl rfl (by focus (simp [*]; done)); exact sM rfl; apply g0; exact wnt_g rfl rfl rfl (by focus (simp [*]; done)); exact sM rfl
 apply g0; exact wnt_g rfl rfl rfl (by focus (simp [*]; done)); exact s_ixeD rfl rfl (by omega) (its_ne (by omega)) (its_at (by assumption)); apply g0
 exact wnt_g rfl rfl rfl (by focus (simp [*]; done)); exact s_fieldAddrE rfl; apply g0; exact wnt_g rfl rfl rfl (by focus (simp [*]; done)); exact s_loadE rfl rfl
 apply g0; exact wnt_g rfl rfl rfl (by focus (simp [*]; done)); exact sM rfl; apply g0; exact wnt_g rfl rfl rfl (by focus (simp [*]; done)); exact sM rfl
 apply g0; exact wnt_g rfl rfl rfl (by focus (simp [*]; done)); exact s_ixeD rfl rfl (by omega) (its_ne (by omega)) (its_at (by assumption)); apply g0
 exact wnt_g rfl rfl rfl (by focus (simp [*]; done)); exact s_fieldAddrE rfl; apply g0; exact wnt_g rfl rfl rfl (by focus (simp [*]; done)); exact s_loadE rfl rfl
 apply g0; exact wnt_g rfl rfl rfl (by focus (simp [*]; done)); exact s_eq rfl rfl; apply g0; exact wnt_g rfl rfl rfl (by focus (simp [*]; done)); exact sM rfl
 apply g0; exact wnt_g rfl rfl rfl (by simp only [*]; rfl); exact sM rfl; apply g0; exact wnt_g rfl rfl rfl (by simp only [*]; rfl)
 exact sM rfl; apply g0; exact wnt_g rfl rfl rfl (by simp only [*]; rfl); exact s_ixeD rfl rfl (by omega) (its_ne (by omega)) (its_at (by assumption))
 apply g0; exact wnt_g rfl rfl rfl (by simp only [*]; rfl); exact s_fieldAddrE rfl; apply g0; exact wnt_g rfl rfl rfl (by simp only [*]; rfl)
 exact s_loadEN rfl (lb rfl) (agu_nm8 rfl); apply g0; exact wnt_g rfl rfl rfl (by simp only [*]; rfl); exact sM rfl; apply g0
 exact wnt_g rfl rfl rfl (by simp only [*]; rfl); exact sM rfl; apply g0; exact wnt_g rfl rfl rfl (by simp only [*]; rfl); exact s_ixeD rfl rfl (by omega) (its_ne (by omega)) (its_at (by assumption))
 apply g0; exact wnt_g rfl rfl rfl (by simp only [*]; rfl); exact s_fieldAddrE rfl; apply g0; exact wnt_g rfl rfl rfl (by simp only [*]; rfl)
 exact s_loadEN rfl (lb rfl) (agu_nm8 rfl); apply gq; exact wnt_g rfl rfl rfl (by simp only [*]; rfl); exact s_call (f := 48) rfl (eC rfl (eC rfl eN)) (aC aL (aC aL aN)) hless (lb rfl)
 dsimp only [reduceAdd, reduceMul, reduceSub, na, ca, nbk, mc, ml]; apply g0; exact wnt_g rfl rfl rfl (by focus (simp [*]; done))
 exact s_pick_t rfl (by assumption) rfl; apply g0; exact wnt_g rfl rfl rfl rfl; exact s_pick_f rfl (by assumption) rfl; apply t0; exact s_pick_t rfl rfl rfl
 dsimp only [reduceAdd, reduceMul]; exact dn; kernel_rfl; exact rfl; refine thn_n ?_)
        refine Gol.cond_t rfl (by first | rfl | assumption) ?_
        (
 apply Gol.region; apply t0; exact sM rfl; apply t0; exact sA rfl; dsimp only [reduceAdd, reduceMul]; exact dn; exact rfl
 refine inBlk_n ?_; refine thn_n ?_; apply Gol.region; apply t0; exact sM rfl; apply t0; exact s_addn rfl rfl (by simp <;> omega)
 apply t0; exact sA rfl; dsimp only [reduceAdd, reduceMul]; exact dn; exact rfl)
        refine rnd_n (i + 1, (i : Int)) ⟨hlt, hB2⟩ (by dsimp only; omega) ?_
        (
 apply Le.mk3' []; apply RnT3.c; exact rfl; apply Rn3.r; exact Rn.clo inferInstance rfl; apply RnT3.c; exact rfl; apply Rn3.r; exact Rn.clo inferInstance rfl
 apply RnT3.c; exact rfl; apply Rn3.r; exact Rn.v rfl; apply RnT3.c; exact rfl; apply Rn3.r; exact Rn.pt rfl rfl; apply RnT3.c; exact rfl; apply Rn3.r
 exact Rn.v rfl; apply RnT3.c; exact rfl; apply Rn3.r; exact Rn.v rfl; exact RnT3.n; apply RnH3.c; exact rfl; exact rfl; apply RnC.cl; rfl; exact inferInstance
 exact rfl; exact rfl; exact RnH3.n; exact rfl; exact rfl)
      · have d4 : decide (z.n.toNat < b.n.toNat) = false := decide_eq_false h4
        have hB2 := hB.skip hx hz (.inr ⟨b, hb, (hiB_iff b z).2 (.inr ⟨h3, by omega⟩)⟩)
        rw [d4] at hless
        generalize hii : j = i at *
        (
 refine Gol.skip ?_; refine thn_n ?_; refine Gol.seq ?_; refine Gol.block ?_; refine Gol.seq ?_
 apply Gol.any; kernel_rfl; apply t0; exact sM rfl; apply t0; exact sM rfl; apply t0; exact sM rfl; apply t0; exact s_ixeD rfl rfl (by omega) (its_ne (by omega)) (its_at (by assumption))
 apply t0; exact s_fieldAddrE rfl; apply t0; exact s_loadEN rfl (lb rfl) (agu_nm8 rfl); apply tq; exact s_call (f := 47) rfl (eC rfl (eC rfl eN)) (aC aL (aC aL aN)) hF (lb rfl)
 dsimp only [reduceAdd, reduceMul, reduceSub, na, ca, nbk, mc, ml]; apply t0; exact sM rfl
 apply t0; exact s_eqn rfl rfl; apply t0; exact sM rfl; apply g0; exact wnt_g rfl rfl rfl (by simp only [*]; rfl); exact sM rfl; apply g0
 exact wnt_g rfl rfl rfl (by simp only [*]; rfl); exact sM rfl; apply g0; exact wnt_g rfl rfl rfl (by simp only [*]; rfl); exact sM rfl
 apply g0; exact wnt_g rfl rfl rfl (by simp only [*]; rfl); exact sM rfl; apply g0; exact wnt_g rfl rfl rfl (by simp only [*]; rfl)
 exact sM rfl; apply g0; exact wnt_g rfl rfl rfl (by simp only [*]; rfl); exact s_ixeD rfl rfl (by omega) (its_ne (by omega)) (its_at (by assumption))
 apply g0; exact wnt_g rfl rfl rfl (by simp only [*]; rfl); exact s_fieldAddrE rfl; apply g0; exact wnt_g rfl rfl rfl (by simp only [*]; rfl)
 exact s_loadEN rfl (lb rfl) (agu_nm8 rfl); apply gq; exact wnt_g rfl rfl rfl (by simp only [*]; rfl); exact s_call (f := 43) rfl (eC rfl (eC rfl (eC rfl (eC rfl eN)))) (aC aL (aC aL (aC aL (aC aL aN)))) hc (lb rfl)
 dsimp only [reduceAdd, reduceMul, reduceSub, na, ca, nbk, mc, ml]; apply t0; exact s_pick_t rfl (by assumption) rfl
 apply t0; exact sM rfl; apply g0; exact wnt_g rfl rfl rfl rfl; exact sM rfl; apply g0; exact wnt_g rfl rfl rfl rfl; exact s_ltn rfl rfl; apply g0
 exact wnt_g rfl rfl rfl rfl; exact sM rfl; apply g0; exact wnt_g rfl rfl rfl rfl; exact sM rfl; apply g0; exact wnt_g rfl rfl rfl rfl; exact sM rfl
 apply g0; exact wnt_g rfl rfl rfl rfl; exact s_ixeD rfl rfl (by omega) (its_ne (by omega)) (its_at (by assumption)); apply g0; exact wnt_g rfl rfl rfl rfl
 exact s_fieldAddrE rfl; apply g0; exact wnt_g rfl rfl rfl rfl; exact s_loadE rfl rfl; apply g0; exact wnt_g rfl rfl rfl rfl; exact sM rfl; apply g0
 exact wnt_g rfl rfl rfl rfl; exact sM rfl; apply g0; exact wnt_g rfl rfl rfl rfl; exact s_ixeD rfl rfl (by omega) (its_ne (by omega)) (its_at (by assumption))
 apply g0; exact wnt_g rfl rfl rfl rfl; exact s_fieldAddrE rfl; apply g0; exact wnt_g rfl rfl rfl rfl; exact s_loadE rfl rfl; apply g0; exact wnt_g rfl rfl rfl rfl
 exact s_gt rfl rfl; apply g0; exact wnt_g rfl rfl rfl rfl; exact s_pick_f rfl rfl rfl; apply g0; exact wnt_g rfl rfl rfl rfl; exact sM rfl; apply g0
 exact wnt_g rfl rfl rfl (by focus (simp [*]; done)); exact sM rfl; apply g0; exact wnt_g rfl rfl rfl (by focus (simp [*]; done)); exact sM rfl
 apply g0; exact wnt_g rfl rfl rfl (by focus (simp [*]; done)); exact s_ixeD rfl rfl (by omega) (its_ne (by omega)) (its_at (by assumption)); apply g0
 exact wnt_g rfl rfl rfl (by focus (simp [*]; done)); exact s_fieldAddrE rfl; apply g0; exact wnt_g rfl rfl rfl (by focus (simp [*]; done)); exact s_loadE rfl rfl
 apply g0; exact wnt_g rfl rfl rfl (by focus (simp [*]; done)); exact sM rfl; apply g0; exact wnt_g rfl rfl rfl (by focus (simp [*]; done)); exact sM rfl
 apply g0; exact wnt_g rfl rfl rfl (by focus (simp [*]; done)); exact s_ixeD rfl rfl (by omega) (its_ne (by omega)) (its_at (by assumption)); apply g0
 exact wnt_g rfl rfl rfl (by focus (simp [*]; done)); exact s_fieldAddrE rfl; apply g0; exact wnt_g rfl rfl rfl (by focus (simp [*]; done)); exact s_loadE rfl rfl
 apply g0; exact wnt_g rfl rfl rfl (by focus (simp [*]; done)); exact s_eq rfl rfl; apply g0; exact wnt_g rfl rfl rfl (by focus (simp [*]; done)); exact sM rfl
 apply g0; exact wnt_g rfl rfl rfl (by simp only [*]; rfl); exact sM rfl; apply g0; exact wnt_g rfl rfl rfl (by simp only [*]; rfl)
 exact sM rfl; apply g0; exact wnt_g rfl rfl rfl (by simp only [*]; rfl); exact s_ixeD rfl rfl (by omega) (its_ne (by omega)) (its_at (by assumption))
 apply g0; exact wnt_g rfl rfl rfl (by simp only [*]; rfl); exact s_fieldAddrE rfl; apply g0; exact wnt_g rfl rfl rfl (by simp only [*]; rfl)
 exact s_loadEN rfl (lb rfl) (agu_nm8 rfl); apply g0; exact wnt_g rfl rfl rfl (by simp only [*]; rfl); exact sM rfl; apply g0
 exact wnt_g rfl rfl rfl (by simp only [*]; rfl); exact sM rfl; apply g0; exact wnt_g rfl rfl rfl (by simp only [*]; rfl); exact s_ixeD rfl rfl (by omega) (its_ne (by omega)) (its_at (by assumption))
 apply g0; exact wnt_g rfl rfl rfl (by simp only [*]; rfl); exact s_fieldAddrE rfl; apply g0; exact wnt_g rfl rfl rfl (by simp only [*]; rfl)
 exact s_loadEN rfl (lb rfl) (agu_nm8 rfl); apply gq; exact wnt_g rfl rfl rfl (by simp only [*]; rfl); exact s_call (f := 48) rfl (eC rfl (eC rfl eN)) (aC aL (aC aL aN)) hless (lb rfl)
 dsimp only [reduceAdd, reduceMul, reduceSub, na, ca, nbk, mc, ml]; apply g0; exact wnt_g rfl rfl rfl (by focus (simp [*]; done))
 exact s_pick_t rfl (by assumption) rfl; apply g0; exact wnt_g rfl rfl rfl rfl; exact s_pick_f rfl (by assumption) rfl; apply t0; exact s_pick_t rfl rfl rfl
 dsimp only [reduceAdd, reduceMul]; exact dn; kernel_rfl; exact rfl; refine thn_n ?_)
        refine Gol.cond_f rfl (by first | rfl | assumption) ?_
        (
 refine Gol.skip ?_; refine inBlk_n ?_; refine thn_n ?_; apply Gol.region; apply t0
 exact sM rfl; apply t0; exact s_addn rfl rfl (by simp <;> omega); apply t0; exact sA rfl; dsimp only [reduceAdd, reduceMul]; exact dn
 exact rfl)
        refine rnd_n (i + 1, (k : Int)) ⟨hlt, hB2⟩ (by dsimp only; omega) ?_
        (
 apply Le.mk3' []; apply RnT3.c; exact rfl; apply Rn3.r; exact Rn.clo inferInstance rfl; apply RnT3.c; exact rfl; apply Rn3.r; exact Rn.clo inferInstance rfl
 apply RnT3.c; exact rfl; apply Rn3.r; exact Rn.v rfl; apply RnT3.c; exact rfl; apply Rn3.r; exact Rn.pt rfl rfl; apply RnT3.c; exact rfl; apply Rn3.r
 exact Rn.v rfl; apply RnT3.c; exact rfl; apply Rn3.r; exact Rn.v rfl; exact RnT3.n; apply RnH3.c; exact rfl; exact rfl; apply RnC.cl; rfl; exact inferInstance
 exact rfl; exact rfl; exact RnH3.n; exact rfl; exact rfl)
set_option maxHeartbeats 3200000 in
theorem refLastFinal_ok (g : Int) : Fresh Tryz.prog 16 [.ex l.length f (itsA l), .ex vs.length f2 (vtsA vs), .v (.int .i64 g)] (fun _ => .v (.agg (nameC (hiF (fun n => finalB (stqN S l vs n) g) l)))) [] := by
  have hL : ∀ n, _ := fun n => refFinal_ok S hS l vs f f2 hl hv hsm g n
  generalize hp : (fun n => finalB (stqN S l vs n) g) = p
  have hpn : ∀ n, finalB (stqN S l vs n) g = p n := fun n => by rw [← hp]
  clear hp
  unfold hiF
  refine Fresh.of (fn := Tryz.f16) Tryz.func16 rfl (lb rfl) fun w => ?_
  (
 apply Gol.sr; apply t1; exact s_alloc; dsimp only [reduceAdd, reduceMul]; exact dn; exact rfl; apply Gol.sr; apply t0; exact sA rfl; dsimp only [reduceAdd, reduceMul]
 exact dn; exact rfl; refine Gol.seq ?_; apply Gol.sr; apply t0; exact sA rfl; dsimp only [reduceAdd, reduceMul]; exact dn
 exact rfl; refine Gol.block ?_)
  refine Gol.loop (ι := Nat × Int) (fun q => q.1 ≤ l.length ∧ BestI p l q.1 q.2) (fun q => l.length - q.1) 400
    (fun q => [(0, some ⟨[.v (.int .u8 0), .v (.int .u8 0), .v (.int .u8 0), .v (.int .u8 0), .v (.int .u8 0), .v (.int .u8 0), .v (.int .u8 0), .v (.int .u8 0)], 23, 8⟩)])
    (fun q => [(0, .ex l.length f (itsA l)), (1, .ex vs.length f2 (vtsA vs)), (2, .v (.int .i64 g)), (6, .pt 0 0), (7, .v (.int .i64 q.2)), (8, .v (.int .i64 (q.1 : Int)))]) (0, -1) ⟨Nat.zero_le _, BestI.zero p l⟩ ?_ ?_
  · (
 apply Le.mk3' []; apply RnT3.c; exact rfl; apply Rn3.r; exact Rn.clo inferInstance rfl; apply RnT3.c; exact rfl; apply Rn3.r; exact Rn.clo inferInstance rfl
 apply RnT3.c; exact rfl; apply Rn3.r; exact Rn.v rfl; apply RnT3.c; exact rfl; apply Rn3.r; exact Rn.pt rfl rfl; apply RnT3.c; exact rfl; apply Rn3.r
 exact Rn.v rfl; apply RnT3.c; exact rfl; apply Rn3.r; exact Rn.v rfl; exact RnT3.n; apply RnH3.c; exact rfl; exact rfl; apply RnC.cl; rfl; exact inferInstance
 exact rfl; exact rfl; exact RnH3.n; exact rfl; exact rfl)
  rintro ⟨i, bI⟩ ⟨hi, hB⟩
  dsimp only at hi hB ⊢
  (
 refine Gol.seq ?_; apply Gol.sr; apply t0; exact sM rfl; apply t0; exact sM rfl; apply t0; exact s_len rfl ln_ex; apply t0; exact s_ltn rfl rfl
 dsimp only [reduceAdd, reduceMul]; exact dn; exact rfl)
  refine Gol.cond rfl (fun h => ?_) (fun h => ?_)
  rotate_left
  · have hge : ¬ i < l.length := of_decide_eq_false h
    obtain rfl : i = l.length := by omega
    have ha := hB.at_
    cases hb : hiN p l l.length with
    | none =>
      rw [hb] at ha
      dsimp only at ha
      subst ha
      (
 refine Gol.exit ?_; refine thn_x ?_; refine rnd_x ?_; refine inBlk_hit ?_; refine thn_n ?_
 refine Gol.seq ?_; apply Gol.sr; apply t0; exact sM rfl; apply t0; exact s_lt rfl rfl; dsimp only [reduceAdd, reduceMul]
 exact dn; exact rfl)
      refine Gol.cond_t rfl rfl ?_
      (
 apply Gol.sr; apply t0; exact s_zero; apply n1; exact s_storeW rfl rfl rfl rfl rfl rfl; dsimp only [reduceAdd, reduceMul]; exact dn; exact rfl
 refine Gol.ret ?_; refine thn_r ?_)
      (apply RetQ.mk (by first | exact .inr rfl | exact .inl rfl); apply res_1 rfl; exact res_cell rfl rfl rfl (agu_cuv _); exact out_val)
    | some b =>
      rw [hb] at ha
      dsimp only at ha
      obtain ⟨k, rfl, hk⟩ := ha
      have hlk := (List.getElem?_eq_some_iff.1 hk).1
      dsimp only [Option.getD]
      (
 refine Gol.exit ?_; refine thn_x ?_; refine rnd_x ?_; refine inBlk_hit ?_; refine thn_n ?_
 refine Gol.seq ?_; apply Gol.sr; apply t0; exact sM rfl; apply t0; exact s_ltn rfl rfl; dsimp only [reduceAdd, reduceMul]
 exact dn; exact rfl)
      refine Gol.cond_f rfl (by simp) ?_
      (
 refine Gol.skip ?_; refine thn_n ?_; apply Gol.sr; apply t0; exact sM rfl; apply t0; exact sM rfl; apply t0
 exact s_ixeD rfl rfl (by omega) (its_ne (by omega)) (its_at (by assumption)); apply t0; exact s_fieldAddrE rfl; apply t0; exact s_loadEN rfl (lb rfl) (agu_nm8 rfl)
 apply n1; exact s_storeW rfl rfl rfl rfl rfl rfl; dsimp only [reduceAdd, reduceMul]; exact dn; exact rfl; refine Gol.ret ?_)
      (apply RetQ.mk (by first | exact .inr rfl | exact .inl rfl); apply res_1 rfl; exact res_cell rfl rfl rfl (agu_cuv _); exact out_val)
  have hlt : i < l.length := of_decide_eq_true h
  have hx : l[i]? = some l[i] := List.getElem?_eq_getElem hlt
  generalize l[i] = x at hx
  obtain ⟨z, hz, hzn⟩ := itOf_some hx
  obtain ⟨j, hfj, hzj, _⟩ := fnd_some hz
  have hF := refFind_yes (f := f) hfj (by omega)
  have hji := fnd_first hfj hx rfl
  have hc := hL x.n
  rw [hpn] at hc
  by_cases hj : j = i
  rotate_left
  · have dj : decide (j = i) = false := decide_eq_false hj
    have hB2 : BestI p l (i + 1) bI := by
      refine hB.skip hx hz ?_
      cases h1 : p x.n with
      | false => exact .inl rfl
      | true =>
        obtain ⟨b, z2, q1, q2, q3⟩ := hB.cov j z (by omega) hzj (by rw [hzn]; exact h1)
        rw [hzn, hz] at q2
        injection q2 with q2
        subst q2
        exact .inr ⟨b, q1, q3⟩
    (
 refine Gol.skip ?_; refine thn_n ?_; refine Gol.seq ?_; refine Gol.block ?_; refine Gol.seq ?_
 apply Gol.any; kernel_rfl; apply t0; exact sM rfl; apply t0; exact sM rfl; apply t0; exact sM rfl; apply t0; exact s_ixeD rfl rfl (by omega) (its_ne (by omega)) (its_at (by assumption))
 apply t0; exact s_fieldAddrE rfl; apply t0; exact s_loadEN rfl (lb rfl) (agu_nm8 rfl); apply tq; exact s_call (f := 47) rfl (eC rfl (eC rfl eN)) (aC aL (aC aL aN)) hF (lb rfl)
 dsimp only [reduceAdd, reduceMul, reduceSub, na, ca, nbk, mc, ml]; apply t0; exact sM rfl
 apply t0; exact s_eqn rfl rfl; apply t0; exact sM rfl; apply sk; exact wnt_g rfl rfl rfl (by simp only [*]; rfl); apply sk; exact wnt_g rfl rfl rfl (by simp only [*]; rfl)
 apply sk; exact wnt_g rfl rfl rfl (by simp only [*]; rfl); apply sk; exact wnt_g rfl rfl rfl (by simp only [*]; rfl); apply sk; exact wnt_g rfl rfl rfl (by simp only [*]; rfl)
 apply sk; exact wnt_g rfl rfl rfl (by simp only [*]; rfl); apply sk; exact wnt_g rfl rfl rfl (by simp only [*]; rfl); apply sk; exact wnt_g rfl rfl rfl (by simp only [*]; rfl)
 apply sk; exact wnt_g rfl rfl rfl (by simp only [*]; rfl); apply t0; exact s_pick_f rfl (by assumption) rfl; apply t0; exact sM rfl; apply sk
 exact wnt_g rfl rfl rfl rfl; apply sk; exact wnt_g rfl rfl rfl rfl; apply sk; exact wnt_g rfl rfl rfl rfl; apply sk; exact wnt_u rfl rfl rfl; apply sk
 exact wnt_u rfl rfl rfl; apply sk; exact wnt_u rfl rfl rfl; apply sk; exact wnt_u rfl rfl rfl; apply sk; exact wnt_u rfl rfl rfl; apply sk; exact wnt_u rfl rfl rfl
 apply sk; exact wnt_u rfl rfl rfl; apply sk; exact wnt_u rfl rfl rfl; apply sk; exact wnt_u rfl rfl rfl; apply sk; exact wnt_u rfl rfl rfl; apply sk; exact wnt_u rfl rfl rfl
 apply sk; exact wnt_g rfl rfl rfl rfl; apply sk; exact wnt_g rfl rfl rfl rfl; apply sk; exact wnt_u rfl rfl rfl; apply sk; exact wnt_u rfl rfl rfl; apply sk
 exact wnt_u rfl rfl rfl; apply sk; exact wnt_u rfl rfl rfl; apply sk; exact wnt_u rfl rfl rfl; apply sk; exact wnt_u rfl rfl rfl; apply sk; exact wnt_u rfl rfl rfl
 apply sk; exact wnt_u rfl rfl rfl; apply sk; exact wnt_u rfl rfl rfl; apply sk; exact wnt_u rfl rfl rfl; apply sk; exact wnt_u rfl rfl rfl; apply sk; exact wnt_u rfl rfl rfl
 apply sk; exact wnt_u rfl rfl rfl; apply sk; exact wnt_u rfl rfl rfl; apply sk; exact wnt_u rfl rfl rfl; apply sk; exact wnt_u rfl rfl rfl; apply sk; exact wnt_u rfl rfl rfl
 apply sk; exact wnt_u rfl rfl rfl; apply sk; exact wnt_u rfl rfl rfl; apply sk; exact wnt_u rfl rfl rfl; apply sk; exact wnt_u rfl rfl rfl; apply sk; exact wnt_u rfl rfl rfl
 apply sk; exact wnt_u rfl rfl rfl; apply sk; exact wnt_u rfl rfl rfl; apply sk; exact wnt_g rfl rfl rfl rfl; apply t0; exact s_pick_f rfl rfl rfl; dsimp only [reduceAdd, reduceMul]
 exact dn; kernel_rfl; exact rfl; refine thn_n ?_)
    refine Gol.cond_f rfl (by first | rfl | assumption) ?_
    (
 refine Gol.skip ?_; refine inBlk_n ?_; refine thn_n ?_; apply Gol.region; apply t0
 exact sM rfl; apply t0; exact s_addn rfl rfl (by simp <;> omega); apply t0; exact sA rfl; dsimp only [reduceAdd, reduceMul]; exact dn
 exact rfl)
    refine rnd_n (i + 1, bI) ⟨hlt, hB2⟩ (by dsimp only; omega) ?_
    (
 apply Le.mk3' []; apply RnT3.c; exact rfl; apply Rn3.r; exact Rn.clo inferInstance rfl; apply RnT3.c; exact rfl; apply Rn3.r; exact Rn.clo inferInstance rfl
 apply RnT3.c; exact rfl; apply Rn3.r; exact Rn.v rfl; apply RnT3.c; exact rfl; apply Rn3.r; exact Rn.pt rfl rfl; apply RnT3.c; exact rfl; apply Rn3.r
 exact Rn.v rfl; apply RnT3.c; exact rfl; apply Rn3.r; exact Rn.v rfl; exact RnT3.n; apply RnH3.c; exact rfl; exact rfl; apply RnC.cl; rfl; exact inferInstance
 exact rfl; exact rfl; exact RnH3.n; exact rfl; exact rfl)
  subst hj
  have hzx : z = x := by rw [hx] at hzj; injection hzj with hzj; exact hzj.symm
  subst hzx
  have dj : decide (j = j) = true := by simp
  cases h1 : p z.n with
  | false =>
    rw [h1] at hc
    have hB2 := hB.skip hx hz (.inl h1)
    generalize hii : j = i at *
    (
 refine Gol.skip ?_; refine thn_n ?_; refine Gol.seq ?_; refine Gol.block ?_; refine Gol.seq ?_
 apply Gol.any; kernel_rfl; apply t0; exact sM rfl; apply t0; exact sM rfl; apply t0; exact sM rfl; apply t0; exact s_ixeD rfl rfl (by omega) (its_ne (by omega)) (its_at (by assumption))
 apply t0; exact s_fieldAddrE rfl; apply t0; exact s_loadEN rfl (lb rfl) (agu_nm8 rfl); apply tq; exact s_call (f := 47) rfl (eC rfl (eC rfl eN)) (aC aL (aC aL aN)) hF (lb rfl)
 dsimp only [reduceAdd, reduceMul, reduceSub, na, ca, nbk, mc, ml]; apply t0; exact sM rfl
 apply t0; exact s_eqn rfl rfl; apply t0; exact sM rfl; apply g0; exact wnt_g rfl rfl rfl (by simp only [*]; rfl); exact sM rfl; apply g0
 exact wnt_g rfl rfl rfl (by simp only [*]; rfl); exact sM rfl; apply g0; exact wnt_g rfl rfl rfl (by simp only [*]; rfl); exact sM rfl
 apply g0; exact wnt_g rfl rfl rfl (by simp only [*]; rfl); exact sM rfl; apply g0; exact wnt_g rfl rfl rfl (by simp only [*]; rfl)
 exact sM rfl; apply g0; exact wnt_g rfl rfl rfl (by simp only [*]; rfl); exact s_ixeD rfl rfl (by omega) (its_ne (by omega)) (its_at (by assumption))
 apply g0; exact wnt_g rfl rfl rfl (by simp only [*]; rfl); exact s_fieldAddrE rfl; apply g0; exact wnt_g rfl rfl rfl (by simp only [*]; rfl)
 exact s_loadEN rfl (lb rfl) (agu_nm8 rfl); apply gq; exact wnt_g rfl rfl rfl (by simp only [*]; rfl); exact s_call (f := 44) rfl (eC rfl (eC rfl (eC rfl (eC rfl eN)))) (aC aL (aC aL (aC aL (aC aL aN)))) hc (lb rfl)
 dsimp only [reduceAdd, reduceMul, reduceSub, na, ca, nbk, mc, ml]; apply t0; exact s_pick_t rfl (by assumption) rfl
 apply t0; exact sM rfl; apply sk; exact wnt_g rfl rfl rfl rfl; apply sk; exact wnt_g rfl rfl rfl rfl; apply sk; exact wnt_g rfl rfl rfl rfl; apply sk
 exact wnt_u rfl rfl rfl; apply sk; exact wnt_u rfl rfl rfl; apply sk; exact wnt_u rfl rfl rfl; apply sk; exact wnt_u rfl rfl rfl; apply sk; exact wnt_u rfl rfl rfl
 apply sk; exact wnt_u rfl rfl rfl; apply sk; exact wnt_u rfl rfl rfl; apply sk; exact wnt_u rfl rfl rfl; apply sk; exact wnt_u rfl rfl rfl; apply sk; exact wnt_u rfl rfl rfl
 apply sk; exact wnt_u rfl rfl rfl; apply sk; exact wnt_g rfl rfl rfl rfl; apply sk; exact wnt_g rfl rfl rfl rfl; apply sk; exact wnt_u rfl rfl rfl; apply sk
 exact wnt_u rfl rfl rfl; apply sk; exact wnt_u rfl rfl rfl; apply sk; exact wnt_u rfl rfl rfl; apply sk; exact wnt_u rfl rfl rfl; apply sk; exact wnt_u rfl rfl rfl
 apply sk; exact wnt_u rfl rfl rfl; apply sk; exact wnt_u rfl rfl rfl; apply sk; exact wnt_u rfl rfl rfl; apply sk; exact wnt_u rfl rfl rfl; apply sk; exact wnt_u rfl rfl rfl
 apply sk; exact wnt_u rfl rfl rfl; apply sk; exact wnt_u rfl rfl rfl; apply sk; exact wnt_u rfl rfl rfl; apply sk; exact wnt_u rfl rfl rfl; apply sk; exact wnt_u rfl rfl rfl
 apply sk; exact wnt_u rfl rfl rfl; apply sk; exact wnt_u rfl rfl rfl; apply sk; exact wnt_u rfl rfl rfl; apply sk; exact wnt_u rfl rfl rfl; apply sk; exact wnt_u rfl rfl rfl
 apply sk; exact wnt_u rfl rfl rfl; apply sk; exact wnt_u rfl rfl rfl; apply sk; exact wnt_u rfl rfl rfl; apply sk; exact wnt_g rfl rfl rfl rfl; apply t0
 exact s_pick_f rfl rfl rfl; dsimp only [reduceAdd, reduceMul]; exact dn; kernel_rfl; exact rfl; refine thn_n ?_)
    refine Gol.cond_f rfl (by first | rfl | assumption) ?_
    (
 refine Gol.skip ?_; refine inBlk_n ?_; refine thn_n ?_; apply Gol.region; apply t0
 exact sM rfl; apply t0; exact s_addn rfl rfl (by simp <;> omega); apply t0; exact sA rfl; dsimp only [reduceAdd, reduceMul]; exact dn
 exact rfl)
    refine rnd_n (i + 1, bI) ⟨hlt, hB2⟩ (by dsimp only; omega) ?_
    (
 apply Le.mk3' []; apply RnT3.c; exact rfl; apply Rn3.r; exact Rn.clo inferInstance rfl; apply RnT3.c; exact rfl; apply Rn3.r; exact Rn.clo inferInstance rfl
 apply RnT3.c; exact rfl; apply Rn3.r; exact Rn.v rfl; apply RnT3.c; exact rfl; apply Rn3.r; exact Rn.pt rfl rfl; apply RnT3.c; exact rfl; apply Rn3.r
 exact Rn.v rfl; apply RnT3.c; exact rfl; apply Rn3.r; exact Rn.v rfl; exact RnT3.n; apply RnH3.c; exact rfl; exact rfl; apply RnC.cl; rfl; exact inferInstance
 exact rfl; exact rfl; exact RnH3.n; exact rfl; exact rfl)
  | true =>
    rw [h1] at hc
    have ha := hB.at_
    cases hb : hiN p l j with
    | none =>
      rw [hb] at ha
      dsimp only at ha
      subst ha
      have hB2 := hB.take hx hz h1 (.inl hb)
      generalize hii : j = i at *
      (
 refine Gol.skip ?_; refine thn_n ?_; refine Gol.seq ?_; refine Gol.block ?_; refine Gol.seq ?_
 apply Gol.any; kernel_rfl; apply t0; exact sM rfl; apply t0; exact sM rfl; apply t0; exact sM rfl; apply t0; exact s_ixeD rfl rfl (by omega) (its_ne (by omega)) (its_at (by assumption))
 apply t0; exact s_fieldAddrE rfl; apply t0; exact s_loadEN rfl (lb rfl) (agu_nm8 rfl); apply tq; exact s_call (f := 47) rfl (eC rfl (eC rfl eN)) (aC aL (aC aL aN)) hF (lb rfl)
 dsimp only [reduceAdd, reduceMul, reduceSub, na, ca, nbk, mc, ml]; apply t0; exact sM rfl
 apply t0; exact s_eqn rfl rfl; apply t0; exact sM rfl; apply g0; exact wnt_g rfl rfl rfl (by simp only [*]; rfl); exact sM rfl; apply g0
 exact wnt_g rfl rfl rfl (by simp only [*]; rfl); exact sM rfl; apply g0; exact wnt_g rfl rfl rfl (by simp only [*]; rfl); exact sM rfl
 apply g0; exact wnt_g rfl rfl rfl (by simp only [*]; rfl); exact sM rfl; apply g0; exact wnt_g rfl rfl rfl (by simp only [*]; rfl)
 exact sM rfl; apply g0; exact wnt_g rfl rfl rfl (by simp only [*]; rfl); exact s_ixeD rfl rfl (by omega) (its_ne (by omega)) (its_at (by assumption))
 apply g0; exact wnt_g rfl rfl rfl (by simp only [*]; rfl); exact s_fieldAddrE rfl; apply g0; exact wnt_g rfl rfl rfl (by simp only [*]; rfl)
 exact s_loadEN rfl (lb rfl) (agu_nm8 rfl); apply gq; exact wnt_g rfl rfl rfl (by simp only [*]; rfl); exact s_call (f := 44) rfl (eC rfl (eC rfl (eC rfl (eC rfl eN)))) (aC aL (aC aL (aC aL (aC aL aN)))) hc (lb rfl)
 dsimp only [reduceAdd, reduceMul, reduceSub, na, ca, nbk, mc, ml]; apply t0; exact s_pick_t rfl (by assumption) rfl
 apply t0; exact sM rfl; apply g0; exact wnt_g rfl rfl rfl rfl; exact sM rfl; apply g0; exact wnt_g rfl rfl rfl rfl; exact s_lt rfl rfl; apply g0
 exact wnt_g rfl rfl rfl rfl; exact sM rfl; apply sk; exact wnt_g rfl rfl rfl rfl; apply sk; exact wnt_g rfl rfl rfl rfl; apply sk; exact wnt_g rfl rfl rfl rfl
 apply sk; exact wnt_g rfl rfl rfl rfl; apply sk; exact wnt_g rfl rfl rfl rfl; apply sk; exact wnt_g rfl rfl rfl rfl; apply sk; exact wnt_g rfl rfl rfl rfl
 apply sk; exact wnt_g rfl rfl rfl rfl; apply sk; exact wnt_g rfl rfl rfl rfl; apply sk; exact wnt_g rfl rfl rfl rfl; apply sk; exact wnt_g rfl rfl rfl rfl
 apply g0; exact wnt_g rfl rfl rfl rfl; exact s_pick_t rfl rfl rfl; apply g0; exact wnt_g rfl rfl rfl rfl; exact sM rfl; apply sk; exact wnt_g rfl rfl rfl rfl
 apply sk; exact wnt_g rfl rfl rfl rfl; apply sk; exact wnt_g rfl rfl rfl rfl; apply sk; exact wnt_g rfl rfl rfl rfl; apply sk; exact wnt_g rfl rfl rfl rfl
 apply sk; exact wnt_g rfl rfl rfl rfl; apply sk; exact wnt_g rfl rfl rfl rfl; apply sk; exact wnt_g rfl rfl rfl rfl; apply sk; exact wnt_g rfl rfl rfl rfl
 apply sk; exact wnt_g rfl rfl rfl rfl; apply sk; exact wnt_g rfl rfl rfl rfl; apply sk; exact wnt_g rfl rfl rfl rfl; apply sk; exact wnt_u rfl rfl rfl
 apply sk; exact wnt_u rfl rfl rfl; apply sk; exact wnt_u rfl rfl rfl; apply sk; exact wnt_u rfl rfl rfl; apply sk; exact wnt_u rfl rfl rfl; apply sk; exact wnt_u rfl rfl rfl
 apply sk; exact wnt_u rfl rfl rfl; apply sk; exact wnt_u rfl rfl rfl; apply sk; exact wnt_u rfl rfl rfl; apply sk; exact wnt_u rfl rfl rfl; apply sk; exact wnt_u rfl rfl rfl
 apply sk; exact wnt_g rfl rfl rfl rfl; apply g0; exact wnt_g rfl rfl rfl rfl; exact s_pick_t rfl rfl rfl; apply t0; exact s_pick_t rfl rfl rfl; dsimp only [reduceAdd, reduceMul]
 exact dn; kernel_rfl; exact rfl; refine thn_n ?_)
      refine Gol.cond_t rfl (by first | rfl | assumption) ?_
      (
 apply Gol.region; apply t0; exact sM rfl; apply t0; exact sA rfl; dsimp only [reduceAdd, reduceMul]; exact dn; exact rfl
 refine inBlk_n ?_; refine thn_n ?_; apply Gol.region; apply t0; exact sM rfl; apply t0; exact s_addn rfl rfl (by simp <;> omega)
 apply t0; exact sA rfl; dsimp only [reduceAdd, reduceMul]; exact dn; exact rfl)
      refine rnd_n (i + 1, (i : Int)) ⟨hlt, hB2⟩ (by dsimp only; omega) ?_
      (
 apply Le.mk3' []; apply RnT3.c; exact rfl; apply Rn3.r; exact Rn.clo inferInstance rfl; apply RnT3.c; exact rfl; apply Rn3.r; exact Rn.clo inferInstance rfl
 apply RnT3.c; exact rfl; apply Rn3.r; exact Rn.v rfl; apply RnT3.c; exact rfl; apply Rn3.r; exact Rn.pt rfl rfl; apply RnT3.c; exact rfl; apply Rn3.r
 exact Rn.v rfl; apply RnT3.c; exact rfl; apply Rn3.r; exact Rn.v rfl; exact RnT3.n; apply RnH3.c; exact rfl; exact rfl; apply RnC.cl; rfl; exact inferInstance
 exact rfl; exact rfl; exact RnH3.n; exact rfl; exact rfl)
    | some b =>
      rw [hb] at ha
      dsimp only at ha
      obtain ⟨k, rfl, hk⟩ := ha
      have hlk := (List.getElem?_eq_some_iff.1 hk).1
      have dk : decide (k < 0) = false := decide_eq_false (Nat.not_lt_zero _)
      have hless := refLess_f z.n b.n
      by_cases h2 : b.h < z.h
      · have d2 : decide (b.h < z.h) = true := decide_eq_true h2
        have hB2 := hB.take hx hz h1 (.inr ⟨b, hb, (hiB_no b z).2 (.inl h2)⟩)
        generalize hii : j = i at *
        (
 refine Gol.skip ?_; refine thn_n ?_; refine Gol.seq ?_; refine Gol.block ?_; refine Gol.seq ?_
 apply Gol.any; kernel_rfl; apply t0; exact sM rfl; apply t0; exact sM rfl; apply t0; exact sM rfl; apply t0; exact s_ixeD rfl rfl (by omega) (its_ne (by omega)) (its_at (by assumption))
 apply t0; exact s_fieldAddrE rfl; apply t0; exact s_loadEN rfl (lb rfl) (agu_nm8 rfl); apply tq; exact s_call (f := 47) rfl (eC rfl (eC rfl eN)) (aC aL (aC aL aN)) hF (lb rfl)
 dsimp only [reduceAdd, reduceMul, reduceSub, na, ca, nbk, mc, ml]; apply t0; exact sM rfl
 apply t0; exact s_eqn rfl rfl; apply t0; exact sM rfl; apply g0; exact wnt_g rfl rfl rfl (by simp only [*]; rfl); exact sM rfl; apply g0
 exact wnt_g rfl rfl rfl (by simp only [*]; rfl); exact sM rfl; apply g0; exact wnt_g rfl rfl rfl (by simp only [*]; rfl); exact sM rfl
 apply g0; exact wnt_g rfl rfl rfl (by simp only [*]; rfl); exact sM rfl; apply g0; exact wnt_g rfl rfl rfl (by simp only [*]; rfl)
 exact sM rfl; apply g0; exact wnt_g rfl rfl rfl (by simp only [*]; rfl); exact s_ixeD rfl rfl (by omega) (its_ne (by omega)) (its_at (by assumption))
 apply g0; exact wnt_g rfl rfl rfl (by simp only [*]; rfl); exact s_fieldAddrE rfl; apply g0; exact wnt_g rfl rfl rfl (by simp only [*]; rfl)
 exact s_loadEN rfl (lb rfl) (agu_nm8 rfl); apply gq; exact wnt_g rfl rfl rfl (by simp only [*]; rfl); exact s_call (f := 44) rfl (eC rfl (eC rfl (eC rfl (eC rfl eN)))) (aC aL (aC aL (aC aL (aC aL aN)))) hc (lb rfl)
 dsimp only [reduceAdd, reduceMul, reduceSub, na, ca, nbk, mc, ml]; apply t0; exact s_pick_t rfl (by assumption) rfl
 apply t0; exact sM rfl; apply g0; exact wnt_g rfl rfl rfl rfl; exact sM rfl; apply g0; exact wnt_g rfl rfl rfl rfl; exact s_ltn rfl rfl; apply g0
 exact wnt_g rfl rfl rfl rfl; exact sM rfl; apply g0; exact wnt_g rfl rfl rfl rfl; exact sM rfl; apply g0; exact wnt_g rfl rfl rfl rfl; exact sM rfl
 apply g0; exact wnt_g rfl rfl rfl rfl; exact s_ixeD rfl rfl (by omega) (its_ne (by omega)) (its_at (by assumption)); apply g0; exact wnt_g rfl rfl rfl rfl
 exact s_fieldAddrE rfl; apply g0; exact wnt_g rfl rfl rfl rfl; exact s_loadE rfl rfl; apply g0; exact wnt_g rfl rfl rfl rfl; exact sM rfl; apply g0
 exact wnt_g rfl rfl rfl rfl; exact sM rfl; apply g0; exact wnt_g rfl rfl rfl rfl; exact s_ixeD rfl rfl (by omega) (its_ne (by omega)) (its_at (by assumption))
 apply g0; exact wnt_g rfl rfl rfl rfl; exact s_fieldAddrE rfl; apply g0; exact wnt_g rfl rfl rfl rfl; exact s_loadE rfl rfl; apply g0; exact wnt_g rfl rfl rfl rfl
 exact s_gt rfl rfl; apply g0; exact wnt_g rfl rfl rfl rfl; exact s_pick_f rfl rfl rfl; apply g0; exact wnt_g rfl rfl rfl rfl; exact sM rfl; apply sk
 exact wnt_g rfl rfl rfl (by simp only [*]; rfl); apply sk; exact wnt_g rfl rfl rfl (by simp only [*]; rfl); apply sk; exact wnt_g rfl rfl rfl (by simp only [*]; rfl)
 apply sk; exact wnt_g rfl rfl rfl (by simp only [*]; rfl); apply sk; exact wnt_g rfl rfl rfl (by simp only [*]; rfl); apply sk; exact wnt_g rfl rfl rfl (by simp only [*]; rfl)
 apply sk; exact wnt_g rfl rfl rfl (by simp only [*]; rfl); apply sk; exact wnt_g rfl rfl rfl (by simp only [*]; rfl); apply sk; exact wnt_g rfl rfl rfl (by simp only [*]; rfl)
 apply sk; exact wnt_g rfl rfl rfl (by simp only [*]; rfl); apply sk; exact wnt_g rfl rfl rfl (by simp only [*]; rfl); apply sk; exact wnt_g rfl rfl rfl (by simp only [*]; rfl)
 apply sk; exact wnt_u rfl rfl rfl; apply sk; exact wnt_u rfl rfl rfl; apply sk; exact wnt_u rfl rfl rfl; apply sk; exact wnt_u rfl rfl rfl; apply sk; exact wnt_u rfl rfl rfl
 apply sk; exact wnt_u rfl rfl rfl; apply sk; exact wnt_u rfl rfl rfl; apply sk; exact wnt_u rfl rfl rfl; apply sk; exact wnt_u rfl rfl rfl; apply sk; exact wnt_u rfl rfl rfl
 apply sk; exact wnt_u rfl rfl rfl; apply sk; exact wnt_g rfl rfl rfl (by simp only [*]; rfl); apply g0; exact wnt_g rfl rfl rfl rfl; exact s_pick_t rfl (by assumption) rfl
 apply t0; exact s_pick_t rfl rfl rfl; dsimp only [reduceAdd, reduceMul]; exact dn; kernel_rfl; exact rfl; refine thn_n ?_)
        refine Gol.cond_t rfl (by first | rfl | assumption) ?_
        (
 apply Gol.region; apply t0; exact sM rfl; apply t0; exact sA rfl; dsimp only [reduceAdd, reduceMul]; exact dn; exact rfl
 refine inBlk_n ?_; refine thn_n ?_; apply Gol.region; apply t0; exact sM rfl; apply t0; exact s_addn rfl rfl (by simp <;> omega)
 apply t0; exact sA rfl; dsimp only [reduceAdd, reduceMul]; exact dn; exact rfl)
        refine rnd_n (i + 1, (i : Int)) ⟨hlt, hB2⟩ (by dsimp only; omega) ?_
        (
 apply Le.mk3' []; apply RnT3.c; exact rfl; apply Rn3.r; exact Rn.clo inferInstance rfl; apply RnT3.c; exact rfl; apply Rn3.r; exact Rn.clo inferInstance rfl
 apply RnT3.c; exact rfl; apply Rn3.r; exact Rn.v rfl; apply RnT3.c; exact rfl; apply Rn3.r; exact Rn.pt rfl rfl; apply RnT3.c; exact rfl; apply Rn3.r
 exact Rn.v rfl; apply RnT3.c; exact rfl; apply Rn3.r; exact Rn.v rfl; exact RnT3.n; apply RnH3.c; exact rfl; exact rfl; apply RnC.cl; rfl; exact inferInstance
 exact rfl; exact rfl; exact RnH3.n; exact rfl; exact rfl)
      have d2 : decide (b.h < z.h) = false := decide_eq_false h2
      by_cases h3 : z.h = b.h
      rotate_left
      · have d3 : decide (z.h = b.h) = false := decide_eq_false h3
        have hB2 := hB.skip hx hz (.inr ⟨b, hb, (hiB_iff b z).2 (.inl (by omega))⟩)
        generalize hii : j = i at *
        (
 refine Gol.skip ?_; refine thn_n ?_; refine Gol.seq ?_; refine Gol.block ?_; refine Gol.seq ?_
 apply Gol.any; kernel_rfl; apply t0; exact sM rfl; apply t0; exact sM rfl; apply t0; exact sM rfl; apply t0; exact s_ixeD rfl rfl (by omega) (its_ne (by omega)) (its_at (by assumption))
 apply t0; exact s_fieldAddrE rfl; apply t0; exact s_loadEN rfl (lb rfl) (agu_nm8 rfl); apply tq; exact s_call (f := 47) rfl (eC rfl (eC rfl eN)) (aC aL (aC aL aN)) hF (lb rfl)
 dsimp only [reduceAdd, reduceMul, reduceSub, na, ca, nbk, mc, ml]; apply t0; exact sM rfl
 apply t0; exact s_eqn rfl rfl; apply t0; exact sM rfl; apply g0; exact wnt_g rfl rfl rfl (by simp only [*]; rfl); exact sM rfl; apply g0
 exact wnt_g rfl rfl rfl (by simp only [*]; rfl); exact sM rfl; apply g0; exact wnt_g rfl rfl rfl (by simp only [*]; rfl); exact sM rfl
 apply g0; exact wnt_g rfl rfl rfl (by simp only [*]; rfl); exact sM rfl; apply g0; exact wnt_g rfl rfl rfl (by simp only [*]; rfl)
 exact sM rfl; apply g0; exact wnt_g rfl rfl rfl (by simp only [*]; rfl); exact s_ixeD rfl rfl (by omega) (its_ne (by omega)) (its_at (by assumption))
 apply g0; exact wnt_g rfl rfl rfl (by simp only [*]; rfl); exact s_fieldAddrE rfl; apply g0; exact wnt_g rfl rfl rfl (by simp only [*]; rfl)
 exact s_loadEN rfl (lb rfl) (agu_nm8 rfl); apply gq; exact wnt_g rfl rfl rfl (by simp only [*]; rfl); exact s_call (f := 44) rfl (eC rfl (eC rfl (eC rfl (eC rfl eN)))) (aC aL (aC aL (aC aL (aC aL aN)))) hc (lb rfl)
 dsimp only [reduceAdd, reduceMul, reduceSub, na, ca, nbk, mc, ml]; apply t0; exact s_pick_t rfl (by assumption) rfl
 apply t0; exact sM rfl; apply g0; exact wnt_g rfl rfl rfl rfl; exact sM rfl; apply g0; exact wnt_g rfl rfl rfl rfl; exact s_ltn rfl rfl; apply g0
 exact wnt_g rfl rfl rfl rfl; exact sM rfl; apply g0; exact wnt_g rfl rfl rfl rfl; exact sM rfl; apply g0; exact wnt_g rfl rfl rfl rfl; exact sM rfl
 apply g0; exact wnt_g rfl rfl rfl rfl; exact s_ixeD rfl rfl (by omega) (its_ne (by omega)) (its_at (by assumption)); apply g0; exact wnt_g rfl rfl rfl rfl
 exact s_fieldAddrE rfl; apply g0; exact wnt_g rfl rfl rfl rfl; exact s_loadE rfl rfl; apply g0; exact wnt_g rfl rfl rfl rfl; exact sM rfl; apply g0
 exact wnt_g rfl rfl rfl rfl; exact sM rfl; apply g0; exact wnt_g rfl rfl rfl rfl; exact s_ixeD rfl rfl (by omega) (its_ne (by omega)) (its_at (by assumption))
 apply g0; exact wnt_g rfl rfl rfl rfl; exact s_fieldAddrE rfl; apply g0; exact wnt_g rfl rfl rfl rfl; exact s_loadE rfl rfl; apply g0; exact wnt_g rfl rfl rfl rfl
 exact s_gt rfl rfl; apply g0; exact wnt_g rfl rfl rfl rfl; exact s_pick_f rfl rfl rfl; apply g0; exact wnt_g rfl rfl rfl rfl; exact sM rfl; apply g0
 exact wnt_g rfl rfl rfl (by simp only [*]; rfl); exact sM rfl; apply g0; exact wnt_g rfl rfl rfl (by simp only [*]; rfl); exact sM rfl
 apply g0; exact wnt_g rfl rfl rfl (by simp only [*]; rfl); exact s_ixeD rfl rfl (by omega) (its_ne (by omega)) (its_at (by assumption)); apply g0
 exact wnt_g rfl rfl rfl (by simp only [*]; rfl); exact s_fieldAddrE rfl; apply g0; exact wnt_g rfl rfl rfl (by simp only [*]; rfl); exact s_loadE rfl rfl
 apply g0; exact wnt_g rfl rfl rfl (by simp only [*]; rfl); exact sM rfl; apply g0; exact wnt_g rfl rfl rfl (by simp only [*]; rfl)
 exact sM rfl; apply g0; exact wnt_g rfl rfl rfl (by simp only [*]; rfl); exact s_ixeD rfl rfl (by omega) (its_ne (by omega)) (its_at (by assumption))
 apply g0; exact wnt_g rfl rfl rfl (by simp only [*]; rfl); exact s_fieldAddrE rfl; apply g0; exact wnt_g rfl rfl rfl (by simp only [*]; rfl)
 exact s_loadE rfl rfl; apply g0; exact wnt_g rfl rfl rfl (by simp only [*]; rfl); exact s_eq rfl rfl; apply g0; exact wnt_g rfl rfl rfl (by simp only [*]; rfl)
 exact sM rfl; apply sk; exact wnt_g rfl rfl rfl (by simp only [*]; rfl); apply sk; exact wnt_g rfl rfl rfl (by simp only [*]; rfl)
 apply sk; exact wnt_g rfl rfl rfl (by simp only [*]; rfl); apply sk; exact wnt_g rfl rfl rfl (by simp only [*]; rfl); apply sk; exact wnt_g rfl rfl rfl (by simp only [*]; rfl)
 apply sk; exact wnt_g rfl rfl rfl (by simp only [*]; rfl); apply sk; exact wnt_g rfl rfl rfl (by simp only [*]; rfl); apply sk; exact wnt_g rfl rfl rfl (by simp only [*]; rfl)
 apply sk; exact wnt_g rfl rfl rfl (by simp only [*]; rfl); apply sk; exact wnt_g rfl rfl rfl (by simp only [*]; rfl); apply sk; exact wnt_g rfl rfl rfl (by simp only [*]; rfl)
 apply g0; exact wnt_g rfl rfl rfl (by simp only [*]; rfl); exact s_pick_f rfl (by assumption) rfl; apply g0; exact wnt_g rfl rfl rfl rfl; exact s_pick_f rfl (by assumption) rfl
 apply t0; exact s_pick_t rfl rfl rfl; dsimp only [reduceAdd, reduceMul]; exact dn; kernel_rfl; exact rfl; refine thn_n ?_)
        refine Gol.cond_f rfl (by first | rfl | assumption) ?_
        (
 refine Gol.skip ?_; refine inBlk_n ?_; refine thn_n ?_; apply Gol.region; apply t0
 exact sM rfl; apply t0; exact s_addn rfl rfl (by simp <;> omega); apply t0; exact sA rfl; dsimp only [reduceAdd, reduceMul]; exact dn
 exact rfl)
        refine rnd_n (i + 1, (k : Int)) ⟨hlt, hB2⟩ (by dsimp only; omega) ?_
        (
 apply Le.mk3' []; apply RnT3.c; exact rfl; apply Rn3.r; exact Rn.clo inferInstance rfl; apply RnT3.c; exact rfl; apply Rn3.r; exact Rn.clo inferInstance rfl
 apply RnT3.c; exact rfl; apply Rn3.r; exact Rn.v rfl; apply RnT3.c; exact rfl; apply Rn3.r; exact Rn.pt rfl rfl; apply RnT3.c; exact rfl; apply Rn3.r
 exact Rn.v rfl; apply RnT3.c; exact rfl; apply Rn3.r; exact Rn.v rfl; exact RnT3.n; apply RnH3.c; exact rfl; exact rfl; apply RnC.cl; rfl; exact inferInstance
 exact rfl; exact rfl; exact RnH3.n; exact rfl; exact rfl)
      have d3 : decide (z.h = b.h) = true := decide_eq_true h3
      by_cases h4 : z.n.toNat < b.n.toNat
      · have d4 : decide (z.n.toNat < b.n.toNat) = true := decide_eq_true h4
        have hB2 := hB.take hx hz h1 (.inr ⟨b, hb, (hiB_no b z).2 (.inr ⟨h3, h4⟩)⟩)
        rw [d4] at hless
        generalize hii : j = i at *
        (
 refine Gol.skip ?_; refine thn_n ?_; refine Gol.seq ?_; refine Gol.block ?_; refine Gol.seq ?_
 apply Gol.any; kernel_rfl; apply t0; exact sM rfl; apply t0; exact sM rfl; apply t0; exact sM rfl; apply t0; exact s_ixeD rfl rfl (by omega) (its_ne (by omega)) (its_at (by assumption))
 apply t0; exact s_fieldAddrE rfl; apply t0; exact s_loadEN rfl (lb rfl) (agu_nm8 rfl); apply tq; exact s_call (f := 47) rfl (eC rfl (eC rfl eN)) (aC aL (aC aL aN)) hF (lb rfl)
 dsimp only [reduceAdd, reduceMul, reduceSub, na, ca, nbk, mc, ml]; apply t0; exact sM rfl
 apply t0; exact s_eqn rfl rfl; apply t0; exact sM rfl; apply g0; exact wnt_g rfl rfl rfl (by simp only [*]; rfl); exact sM rfl; apply g0
 exact wnt_g rfl rfl rfl (by simp only [*]; rfl); exact sM rfl; apply g0; exact wnt_g rfl rfl rfl (by simp only [*]; rfl); exact sM rfl
 apply g0; exact wnt_g rfl rfl rfl (by simp only [*]; rfl); exact sM rfl; apply g0; exact wnt_g rfl rfl rfl (by simp only [*]; rfl)
 exact sM rfl; apply g0; exact wnt_g rfl rfl rfl (by simp only [*]; rfl); exact s_ixeD rfl rfl (by omega) (its_ne (by omega)) (its_at (by assumption))
 apply g0; exact wnt_g rfl rfl rfl (by simp only [*]; rfl); exact s_fieldAddrE rfl; apply g0; exact wnt_g rfl rfl rfl (by simp only [*]; rfl)
 exact s_loadEN rfl (lb rfl) (agu_nm8 rfl); apply gq; exact wnt_g rfl rfl rfl (by simp only [*]; rfl); exact s_call (f := 44) rfl (eC rfl (eC rfl (eC rfl (eC rfl eN)))) (aC aL (aC aL (aC aL (aC aL aN)))) hc (lb rfl)
 dsimp only [reduceAdd, reduceMul, reduceSub, na, ca, nbk, mc, ml]; apply t0; exact s_pick_t rfl (by assumption) rfl
 apply t0; exact sM rfl; apply g0; exact wnt_g rfl rfl rfl rfl; exact sM rfl; apply g0; exact wnt_g rfl rfl rfl rfl; exact s_ltn rfl rfl; apply g0
 exact wnt_g rfl rfl rfl rfl; exact sM rfl; apply g0; exact wnt_g rfl rfl rfl rfl; exact sM rfl; apply g0; exact wnt_g rfl rfl rfl rfl; exact sM rfl
 apply g0; exact wnt_g rfl rfl rfl rfl; exact s_ixeD rfl rfl (by omega) (its_ne (by omega)) (its_at (by assumption)); apply g0; exact wnt_g rfl rfl rfl rfl
 exact s_fieldAddrE rfl; apply g0; exact wnt_g rfl rfl rfl rfl; exact s_loadE rfl rfl; apply g0; exact wnt_g rfl rfl rfl rfl; exact sM rfl; apply g0
 exact wnt_g rfl rfl rfl rfl; exact sM rfl; apply g0; exact wnt_g rfl rfl rfl rfl; exact s_ixeD rfl rfl (by omega) (its_ne (by omega)) (its_at (by assumption))
 apply g0; exact wnt_g rfl rfl rfl rfl; exact s_fieldAddrE rfl; apply g0; exact wnt_g rfl rfl rfl rfl; exact s_loadE rfl rfl; apply g0; exact wnt_g rfl rfl rfl rfl
 exact s_gt rfl rfl; apply g0; exact wnt_g rfl rfl rfl rfl; exact s_pick_f rfl rfl rfl; apply g0; exact wnt_g rfl rfl rfl rfl; exact sM rfl; apply g0
 exact wnt_g rfl rfl rfl (by focus (simp [*]; done)); exact sM rfl; apply g0; exact wnt_g rfl rfl rfl (by focus (simp [*]; done)); exact sM rfl
 apply g0; exact wnt_g rfl rfl rfl (by focus (simp [*]; done)); exact s_ixeD rfl rfl (by omega) (its_ne (by omega)) (its_at (by assumption)); apply g0
 exact wnt_g rfl rfl rfl (by focus (simp [*]; done)); exact s_fieldAddrE rfl; apply g0; exact wnt_g rfl rfl rfl (by focus (simp [*]; done)); exact s_loadE rfl rfl
 apply g0; exact wnt_g rfl rfl rfl (by focus (simp [*]; done)); exact sM rfl; apply g0; exact wnt_g rfl rfl rfl (by focus (simp [*]; done)); exact sM rfl
 apply g0; exact wnt_g rfl rfl rfl (by focus (simp [*]; done)); exact s_ixeD rfl rfl (by omega) (its_ne (by omega)) (its_at (by assumption)); apply g0
 exact wnt_g rfl rfl rfl (by focus (simp [*]; done)); exact s_fieldAddrE rfl; apply g0; exact wnt_g rfl rfl rfl (by focus (simp [*]; done)); exact s_loadE rfl rfl
 apply g0; exact wnt_g rfl rfl rfl (by focus (simp [*]; done)); exact s_eq rfl rfl; apply g0; exact wnt_g rfl rfl rfl (by focus (simp [*]; done)); exact sM rfl
 apply g0; exact wnt_g rfl rfl rfl (by simp only [*]; rfl); exact sM rfl; apply g0; exact wnt_g rfl rfl rfl (by simp only [*]; rfl)
 exact sM rfl; apply g0; exact wnt_g rfl rfl rfl (by simp only [*]; rfl); exact s_ixeD rfl rfl (by omega) (its_ne (by omega)) (its_at (by assumption))
 apply g0; exact wnt_g rfl rfl rfl (by simp only [*]; rfl); exact s_fieldAddrE rfl; apply g0; exact wnt_g rfl rfl rfl (by simp only [*]; rfl)
 exact s_loadEN rfl (lb rfl) (agu_nm8 rfl); apply g0; exact wnt_g rfl rfl rfl (by simp only [*]; rfl); exact sM rfl; apply g0
 exact wnt_g rfl rfl rfl (by simp only [*]; rfl); exact sM rfl; apply g0; exact wnt_g rfl rfl rfl (by simp only [*]; rfl); exact s_ixeD rfl rfl (by omega) (its_ne (by omega)) (its_at (by assumption))
 apply g0; exact wnt_g rfl rfl rfl (by simp only [*]; rfl); exact s_fieldAddrE rfl; apply g0; exact wnt_g rfl rfl rfl (by simp only [*]; rfl)
 exact s_loadEN rfl (lb rfl) (agu_nm8 rfl); apply gq; exact wnt_g rfl rfl rfl (by simp only [*]; rfl); exact s_call (f := 48) rfl (eC rfl (eC rfl eN)) (aC aL (aC aL aN)) hless (lb rfl)
 dsimp only [reduceAdd, reduceMul, reduceSub, na, ca, nbk, mc, ml]; apply g0; exact wnt_g rfl rfl rfl (by focus (simp [*]; done))
 exact s_pick_t rfl (by assumption) rfl; apply g0; exact wnt_g rfl rfl rfl rfl; exact s_pick_f rfl (by assumption) rfl; apply t0; exact s_pick_t rfl rfl rfl
 dsimp only [reduceAdd, reduceMul]; exact dn; kernel_rfl; exact rfl; refine thn_n ?_)
        refine Gol.cond_t rfl (by first | rfl | assumption) ?_
        (
 apply Gol.region; apply t0; exact sM rfl; apply t0; exact sA rfl; dsimp only [reduceAdd, reduceMul]; exact dn; exact rfl
 refine inBlk_n ?_; refine thn_n ?_; apply Gol.region; apply t0; exact sM rfl; apply t0; exact s_addn rfl rfl (by simp <;> omega)
 apply t0; exact sA rfl; dsimp only [reduceAdd, reduceMul]; exact dn; exact rfl)
        refine rnd_n (i + 1, (i : Int)) ⟨hlt, hB2⟩ (by dsimp only; omega) ?_
        (
 apply Le.mk3' []; apply RnT3.c; exact rfl; apply Rn3.r; exact Rn.clo inferInstance rfl; apply RnT3.c; exact rfl; apply Rn3.r; exact Rn.clo inferInstance rfl
 apply RnT3.c; exact rfl; apply Rn3.r; exact Rn.v rfl; apply RnT3.c; exact rfl; apply Rn3.r; exact Rn.pt rfl rfl; apply RnT3.c; exact rfl; apply Rn3.r
 exact Rn.v rfl; apply RnT3.c; exact rfl; apply Rn3.r; exact Rn.v rfl; exact RnT3.n; apply RnH3.c; exact rfl; exact rfl; apply RnC.cl; rfl; exact inferInstance
 exact rfl; exact rfl; exact RnH3.n; exact rfl; exact rfl)
      · have d4 : decide (z.n.toNat < b.n.toNat) = false := decide_eq_false h4
        have hB2 := hB.skip hx hz (.inr ⟨b, hb, (hiB_iff b z).2 (.inr ⟨h3, by omega⟩)⟩)
        rw [d4] at hless
        generalize hii : j = i at *
        (
 refine Gol.skip ?_; refine thn_n ?_; refine Gol.seq ?_; refine Gol.block ?_; refine Gol.seq ?_
 apply Gol.any; kernel_rfl; apply t0; exact sM rfl; apply t0; exact sM rfl; apply t0; exact sM rfl; apply t0; exact s_ixeD rfl rfl (by omega) (its_ne (by omega)) (its_at (by assumption))
 apply t0; exact s_fieldAddrE rfl; apply t0; exact s_loadEN rfl (lb rfl) (agu_nm8 rfl); apply tq; exact s_call (f := 47) rfl (eC rfl (eC rfl eN)) (aC aL (aC aL aN)) hF (lb rfl)
 dsimp only [reduceAdd, reduceMul, reduceSub, na, ca, nbk, mc, ml]; apply t0; exact sM rfl
 apply t0; exact s_eqn rfl rfl; apply t0; exact sM rfl; apply g0; exact wnt_g rfl rfl rfl (by simp only [*]; rfl); exact sM rfl; apply g0
 exact wnt_g rfl rfl rfl (by simp only [*]; rfl); exact sM rfl; apply g0; exact wnt_g rfl rfl rfl (by simp only [*]; rfl); exact sM rfl
 apply g0; exact wnt_g rfl rfl rfl (by simp only [*]; rfl); exact sM rfl; apply g0; exact wnt_g rfl rfl rfl (by simp only [*]; rfl)
 exact sM rfl; apply g0; exact wnt_g rfl rfl rfl (by simp only [*]; rfl); exact s_ixeD rfl rfl (by omega) (its_ne (by omega)) (its_at (by assumption))
 apply g0; exact wnt_g rfl rfl rfl (by simp only [*]; rfl); exact s_fieldAddrE rfl; apply g0; exact wnt_g rfl rfl rfl (by simp only [*]; rfl)
 exact s_loadEN rfl (lb rfl) (agu_nm8 rfl); apply gq; exact wnt_g rfl rfl rfl (by simp only [*]; rfl); exact s_call (f := 44) rfl (eC rfl (eC rfl (eC rfl (eC rfl eN)))) (aC aL (aC aL (aC aL (aC aL aN)))) hc (lb rfl)
 dsimp only [reduceAdd, reduceMul, reduceSub, na, ca, nbk, mc, ml]; apply t0; exact s_pick_t rfl (by assumption) rfl
 apply t0; exact sM rfl; apply g0; exact wnt_g rfl rfl rfl rfl; exact sM rfl; apply g0; exact wnt_g rfl rfl rfl rfl; exact s_ltn rfl rfl; apply g0
 exact wnt_g rfl rfl rfl rfl; exact sM rfl; apply g0; exact wnt_g rfl rfl rfl rfl; exact sM rfl; apply g0; exact wnt_g rfl rfl rfl rfl; exact sM rfl
 apply g0; exact wnt_g rfl rfl rfl rfl; exact s_ixeD rfl rfl (by omega) (its_ne (by omega)) (its_at (by assumption)); apply g0; exact wnt_g rfl rfl rfl rfl
 exact s_fieldAddrE rfl; apply g0; exact wnt_g rfl rfl rfl rfl; exact s_loadE rfl rfl; apply g0; exact wnt_g rfl rfl rfl rfl; exact sM rfl; apply g0
 exact wnt_g rfl rfl rfl rfl; exact sM rfl; apply g0; exact wnt_g rfl rfl rfl rfl; exact s_ixeD rfl rfl (by omega) (its_ne (by omega)) (its_at (by assumption))
 apply g0; exact wnt_g rfl rfl rfl rfl; exact s_fieldAddrE rfl; apply g0; exact wnt_g rfl rfl rfl rfl; exact s_loadE rfl rfl; apply g0; exact wnt_g rfl rfl rfl rfl
 exact s_gt rfl rfl; apply g0; exact wnt_g rfl rfl rfl rfl; exact s_pick_f rfl rfl rfl; apply g0; exact wnt_g rfl rfl rfl rfl; exact sM rfl; apply g0
 exact wnt_g rfl rfl rfl (by focus (simp [*]; done)); exact sM rfl; apply g0; exact wnt_g rfl rfl rfl (by focus (simp [*]; done)); exact sM rfl
 apply g0; exact wnt_g rfl rfl rfl (by focus (simp [*]; done)); exact s_ixeD rfl rfl (by omega) (its_ne (by omega)) (its_at (by assumption)); apply g0
 exact wnt_g rfl rfl rfl (by focus (simp [*]; done)); exact s_fieldAddrE rfl; apply g0; exact wnt_g rfl rfl rfl (by focus (simp [*]; done)); exact s_loadE rfl rfl
 apply g0; exact wnt_g rfl rfl rfl (by focus (simp [*]; done)); exact sM rfl; apply g0; exact wnt_g rfl rfl rfl (by focus (simp [*]; done)); exact sM rfl
 apply g0; exact wnt_g rfl rfl rfl (by focus (simp [*]; done)); exact s_ixeD rfl rfl (by omega) (its_ne (by omega)) (its_at (by assumption)); apply g0
 exact wnt_g rfl rfl rfl (by focus (simp [*]; done)); exact s_fieldAddrE rfl; apply g0; exact wnt_g rfl rfl rfl (by focus (simp [*]; done)); exact s_loadE rfl rfl
 apply g0; exact wnt_g rfl rfl rfl (by focus (simp [*]; done)); exact s_eq rfl rfl; apply g0; exact wnt_g rfl rfl rfl (by focus (simp [*]; done)); exact sM rfl
 apply g0; exact wnt_g rfl rfl rfl (by simp only [*]; rfl); exact sM rfl; apply g0; exact wnt_g rfl rfl rfl (by simp only [*]; rfl)
 exact sM rfl; apply g0; exact wnt_g rfl rfl rfl (by simp only [*]; rfl); exact s_ixeD rfl rfl (by omega) (its_ne (by omega)) (its_at (by assumption))
 apply g0; exact wnt_g rfl rfl rfl (by simp only [*]; rfl); exact s_fieldAddrE rfl; apply g0; exact wnt_g rfl rfl rfl (by simp only [*]; rfl)
 exact s_loadEN rfl (lb rfl) (agu_nm8 rfl); apply g0; exact wnt_g rfl rfl rfl (by simp only [*]; rfl); exact sM rfl; apply g0
 exact wnt_g rfl rfl rfl (by simp only [*]; rfl); exact sM rfl; apply g0; exact wnt_g rfl rfl rfl (by simp only [*]; rfl); exact s_ixeD rfl rfl (by omega) (its_ne (by omega)) (its_at (by assumption))
 apply g0; exact wnt_g rfl rfl rfl (by simp only [*]; rfl); exact s_fieldAddrE rfl; apply g0; exact wnt_g rfl rfl rfl (by simp only [*]; rfl)
 exact s_loadEN rfl (lb rfl) (agu_nm8 rfl); apply gq; exact wnt_g rfl rfl rfl (by simp only [*]; rfl); exact s_call (f := 48) rfl (eC rfl (eC rfl eN)) (aC aL (aC aL aN)) hless (lb rfl)
 dsimp only [reduceAdd, reduceMul, reduceSub, na, ca, nbk, mc, ml]; apply g0; exact wnt_g rfl rfl rfl (by focus (simp [*]; done))
 exact s_pick_t rfl (by assumption) rfl; apply g0; exact wnt_g rfl rfl rfl rfl; exact s_pick_f rfl (by assumption) rfl; apply t0; exact s_pick_t rfl rfl rfl
 dsimp only [reduceAdd, reduceMul]; exact dn; kernel_rfl; exact rfl; refine thn_n ?_)
        refine Gol.cond_f rfl (by first | rfl | assumption) ?_
        (
 refine Gol.skip ?_; refine inBlk_n ?_; refine thn_n ?_; apply Gol.region; apply t0
 exact sM rfl; apply t0; exact s_addn rfl rfl (by simp <;> omega); apply t0; exact sA rfl; dsimp only [reduceAdd, reduceMul]; exact dn
 exact rfl)
        refine rnd_n (i + 1, (k : Int)) ⟨hlt, hB2⟩ (by dsimp only; omega) ?_
        (
 apply Le.mk3' []; apply RnT3.c; exact rfl; apply Rn3.r; exact Rn.clo inferInstance rfl; apply RnT3.c; exact rfl; apply Rn3.r; exact Rn.clo inferInstance rfl
 apply RnT3.c; exact rfl; apply Rn3.r; exact Rn.v rfl; apply RnT3.c; exact rfl; apply Rn3.r; exact Rn.pt rfl rfl; apply RnT3.c; exact rfl; apply Rn3.r
 exact Rn.v rfl; apply RnT3.c; exact rfl; apply Rn3.r; exact Rn.v rfl; exact RnT3.n; apply RnH3.c; exact rfl; exact rfl; apply RnC.cl; rfl; exact inferInstance
 exact rfl; exact rfl; exact RnH3.n; exact rfl; exact rfl)
end
end Go.Proofs.YtneeclacmhhblaaGreat


namespace Go.Proofs.YtneeclacmhhblaaGreat
open Go.RowKit
open Nat (reduceAdd reduceMul reduceSub)

def hv26 (x : It) : Nat := min x.hd 301 + min x.tp 301 + min x.st.cells.length 301 + min x.st.seqs.length 301 + min x.st.locks.length 301 + min x.st.applied.length 301
def hvL (q : It → Nat) (t : Nat) : List It → Nat → Nat
  | [], n => n
  | x :: l, n => if n ≤ t then hvL q t l (n + q x) else n
theorem hvL_le {q : It → Nat} {t : Nat} : ∀ (l : List It) (n : Nat), hvL q t l n ≤ t → n ≤ t ∧ ∀ x ∈ l, q x ≤ t
  | [], n, h => ⟨h, fun x hx => by cases hx⟩
  | x :: l, n, h => by
    rw [hvL] at h
    split at h
    · rename_i hn
      obtain ⟨h1, h2⟩ := hvL_le l _ h
      refine ⟨hn, fun y hy => ?_⟩
      rcases List.mem_cons.1 hy with rfl | hy
      · omega
      · exact h2 y hy
    · omega
theorem hvL_step {q : It → Nat} {t : Nat} {l : List It} {i : Nat} {x : It} {n : Nat} (h : l[i]? = some x) (hn : n ≤ t) : hvL q t (l.drop i) n = hvL q t (l.drop (i + 1)) (n + q x) := by
  rw [drop_of h, hvL, if_pos hn]
theorem hvL_stop {q : It → Nat} {t : Nat} {l : List It} {n : Nat} (hn : ¬ n ≤ t) : hvL q t l n = n := by
  cases l with
  | nil => rfl
  | cons x l => rw [hvL, if_neg hn]
def heavy26 (l : List It) (vs : Nat) : Bool := decide (300 < hvL hv26 300 l l.length) || decide (600 < vs)
theorem heavy26_no {l : List It} {vs : Nat} (h : heavy26 l vs = false) : l.length ≤ 300 ∧ vs ≤ 600 ∧ ∀ x ∈ l, Sm x.st := by
  unfold heavy26 at h
  rw [Bool.or_eq_false_iff] at h
  have h1 := of_decide_eq_false h.1
  have h2 := of_decide_eq_false h.2
  obtain ⟨h3, h4⟩ := hvL_le l l.length (Nat.not_lt.1 h1)
  refine ⟨h3, by omega, fun x hx => ?_⟩
  have := h4 x hx
  unfold hv26 at this
  exact ⟨by omega, by omega, by omega, by omega⟩
set_option maxHeartbeats 1600000 in
theorem heavy26_ok (l : List It) (f : Bool) (n : Nat) (cs : List AV) [CloL cs] (f2 : Bool) (hl : l.length ≤ 140737488351232) : Fresh Tryz.prog 8 [.ex l.length f (itsA l), .ex n f2 cs] (fun _ => .v (.bool (heavy26 l n))) [] := by
  unfold heavy26
  refine Fresh.of (fn := Tryz.f8) Tryz.func8 rfl (lb rfl) fun w => ?_
  (
 apply Gol.sr; apply t0; exact sA rfl; dsimp only [reduceAdd, reduceMul]; exact dn; exact rfl; apply Gol.sr; apply t0; exact sM rfl; apply t0
 exact s_len rfl ln_ex; apply t0; exact sA rfl; dsimp only [reduceAdd, reduceMul]; exact dn; exact rfl; refine Gol.seq ?_
 apply Gol.sr; apply t0; exact sA rfl; dsimp only [reduceAdd, reduceMul]; exact dn; exact rfl; refine Gol.block ?_)
  refine Gol.loop (ι := Nat × Nat) (fun i => i.1 ≤ l.length ∧ i.2 ≤ l.length + 2507 ∧ hvL hv26 300 (l.drop i.1) i.2 = hvL hv26 300 l l.length) (fun i => l.length - i.1) 200 (fun _ => []) (fun i => [(0, .ex l.length f (itsA l)), (1, .ex n f2 cs), (5, .v (.int .i64 (i.2 : Int))), (6, .v (.int .i64 (i.1 : Int)))]) (0, l.length) ⟨Nat.zero_le _, by dsimp only; omega, rfl⟩ ?_ ?_
  · (
 apply Le.mk3' []; apply RnT3.c; exact rfl; apply Rn3.r; exact Rn.clo inferInstance rfl; apply RnT3.c; exact rfl; apply Rn3.r; exact Rn.clo inferInstance rfl
 apply RnT3.c; exact rfl; apply Rn3.r; exact Rn.v rfl; apply RnT3.c; exact rfl; apply Rn3.r; exact Rn.v rfl; exact RnT3.n; exact RnH3.n; exact rfl; exact rfl)
  rintro ⟨i, m⟩ ⟨hi, hm, he⟩
  dsimp only at hi hm he ⊢
  by_cases hlt : i < l.length
  · have d2 : decide (i < l.length) = true := decide_eq_true hlt
    have hx : l[i]? = some l[i] := List.getElem?_eq_getElem hlt
    generalize l[i] = x at hx
    (
 refine Gol.seq ?_; apply Gol.sr; apply t0; exact sM rfl; apply t0; exact sM rfl; apply t0; exact s_len rfl ln_ex; apply t0; exact s_ltn rfl rfl
 apply t0; exact sM rfl; apply g0; exact wnt_g rfl rfl rfl (by simp only [*]; rfl); exact sM rfl; apply g0; exact wnt_g rfl rfl rfl (by simp only [*]; rfl)
 exact s_len' rfl rfl; apply t0; exact s_pick_t rfl (by assumption) rfl; dsimp only [reduceAdd, reduceMul]; exact dn; exact rfl)
    refine Gol.cond rfl (fun h => ?_) (fun h => ?_)
    · have hmt : m ≤ 300 := of_decide_eq_true h
      rw [hvL_step hx hmt] at he
      (
 refine Gol.skip ?_; refine thn_n ?_; refine Gol.seq ?_; refine Gol.block ?_; apply Gol.any
 kernel_rfl; apply t0; exact sM rfl; apply t0; exact sM rfl; apply t0; exact sM rfl; apply t0; exact s_ixeD rfl rfl (by omega) (its_ne (by omega)) (its_at (by assumption))
 apply t0; exact s_fieldAddrE rfl; apply t0; exact s_loadE rfl rfl; apply t0; exact s_len rfl ln_ex; apply t0; exact s_minn rfl rfl; apply t0; exact s_addn rfl rfl (by first | omega | exact lb rfl | decide | (simp <;> omega) | (dsimp <;> omega))
 apply t0; exact sM rfl; apply t0; exact sM rfl; apply t0; exact s_ixeD rfl rfl (by omega) (its_ne (by omega)) (its_at (by assumption)); apply t0
 exact s_fieldAddrE rfl; apply t0; exact s_loadE rfl rfl; apply t0; exact s_len rfl ln_ex; apply t0; exact s_minn rfl rfl; apply t0; exact s_addn rfl rfl (by first | omega | exact lb rfl | decide | (simp <;> omega) | (dsimp <;> omega))
 apply t0; exact sM rfl; apply t0; exact sM rfl; apply t0; exact s_ixeD rfl rfl (by omega) (its_ne (by omega)) (its_at (by assumption)); apply t0
 exact s_fieldAddrE rfl; apply t0; exact s_fieldAddrE rfl; apply t0; exact s_loadE rfl rfl; apply t0; exact s_len rfl ln_ex; apply t0; exact s_minn rfl rfl
 apply t0; exact s_addn rfl rfl (by first | omega | exact lb rfl | decide | (simp <;> omega) | (dsimp <;> omega)); apply t0; exact sM rfl; apply t0; exact sM rfl; apply t0; exact s_ixeD rfl rfl (by omega) (its_ne (by omega)) (its_at (by assumption))
 apply t0; exact s_fieldAddrE rfl; apply t0; exact s_fieldAddrE rfl; apply t0; exact s_loadE rfl rfl; apply t0; exact s_len rfl ln_ex; apply t0; exact s_minn rfl rfl
 apply t0; exact s_addn rfl rfl (by first | omega | exact lb rfl | decide | (simp <;> omega) | (dsimp <;> omega)); apply t0; exact sM rfl; apply t0; exact sM rfl; apply t0; exact s_ixeD rfl rfl (by omega) (its_ne (by omega)) (its_at (by assumption))
 apply t0; exact s_fieldAddrE rfl; apply t0; exact s_fieldAddrE rfl; apply t0; exact s_loadE rfl rfl; apply t0; exact s_len rfl ln_ex; apply t0; exact s_minn rfl rfl
 apply t0; exact s_addn rfl rfl (by first | omega | exact lb rfl | decide | (simp <;> omega) | (dsimp <;> omega)); apply t0; exact sM rfl; apply t0; exact sM rfl; apply t0; exact s_ixeD rfl rfl (by omega) (its_ne (by omega)) (its_at (by assumption))
 apply t0; exact s_fieldAddrE rfl; apply t0; exact s_fieldAddrE rfl; apply t0; exact s_loadE rfl rfl; apply t0; exact s_len rfl ln_ex; apply t0; exact s_minn rfl rfl
 apply t0; exact s_addn rfl rfl (by first | omega | exact lb rfl | decide | (simp <;> omega) | (dsimp <;> omega)); apply t0; exact sA rfl; dsimp only [reduceAdd, reduceMul]; exact dn; kernel_rfl; exact rfl; refine inBlk_n ?_
 refine thn_n ?_; apply Gol.region; apply t0; exact sM rfl; apply t0; exact s_addn rfl rfl (by simp <;> omega); apply t0
 exact sA rfl; dsimp only [reduceAdd, reduceMul]; exact dn; exact rfl)
      refine rnd_n (i + 1, m + hv26 x) ⟨by dsimp only; omega, by dsimp only [hv26]; omega, he⟩ (by dsimp only; omega) ?_
      dsimp only [hv26]
      (
 apply Le.mk3' []; apply RnT3.c; exact rfl; apply Rn3.r; exact Rn.clo inferInstance rfl; apply RnT3.c; exact rfl; apply Rn3.r; exact Rn.clo inferInstance rfl
 apply RnT3.c; exact rfl; apply Rn3.r; apply Rn.v; congr 1; omega; apply RnT3.c; exact rfl; apply Rn3.r; exact Rn.v rfl; exact RnT3.n; exact RnH3.n; exact rfl
 exact rfl)
    · have hmt : ¬ m ≤ 300 := of_decide_eq_false h
      rw [hvL_stop hmt] at he
      rw [← he]
      have hgt : 300 < m := by omega
      clear h he
      rw [decide_eq_true hgt]
      (
 refine Gol.exit ?_; refine thn_x ?_; refine rnd_x ?_; refine inBlk_hit ?_; refine thn_n ?_
 apply Gol.sr; apply t0; exact sM rfl; apply t0; exact s_gtn rfl rfl; apply t0; exact sM rfl; apply sk; exact wnt_g rfl rfl rfl (by simp only [*]; rfl)
 apply sk; exact wnt_g rfl rfl rfl (by simp only [*]; rfl); apply sk; exact wnt_g rfl rfl rfl (by simp only [*]; rfl); apply t0; exact s_pick_t rfl (by simp only [*]; rfl) rfl
 apply t0; exact sA rfl; dsimp only [reduceAdd, reduceMul]; exact dn; exact rfl; refine Gol.ret ?_)
      (apply RetQ.mk (by first | exact .inr rfl | exact .inl rfl); apply res_1 rfl; exact res_tmp rfl; exact out_val)
  · have d2 : decide (i < l.length) = false := decide_eq_false hlt
    have : l.drop i = [] := List.drop_eq_nil_of_le (by omega)
    rw [this] at he
    simp only [hvL] at he
    subst he
    (
 refine Gol.seq ?_; apply Gol.sr; apply t0; exact sM rfl; apply t0; exact sM rfl; apply t0; exact s_len rfl ln_ex; apply t0; exact s_ltn rfl rfl
 apply t0; exact sM rfl; apply sk; exact wnt_g rfl rfl rfl (by simp only [*]; rfl); apply sk; exact wnt_g rfl rfl rfl (by simp only [*]; rfl)
 apply t0; exact s_pick_f rfl (by assumption) rfl; dsimp only [reduceAdd, reduceMul]; exact dn; exact rfl)
    refine Gol.cond_f rfl rfl ?_
    by_cases h : 300 < hvL hv26 300 l l.length
    · rw [decide_eq_true h]
      (
 refine Gol.exit ?_; refine thn_x ?_; refine rnd_x ?_; refine inBlk_hit ?_; refine thn_n ?_
 apply Gol.sr; apply t0; exact sM rfl; apply t0; exact s_gtn rfl rfl; apply t0; exact sM rfl; apply sk; exact wnt_g rfl rfl rfl (by simp only [*]; rfl)
 apply sk; exact wnt_g rfl rfl rfl (by simp only [*]; rfl); apply sk; exact wnt_g rfl rfl rfl (by simp only [*]; rfl); apply t0; exact s_pick_t rfl (by simp only [*]; rfl) rfl
 apply t0; exact sA rfl; dsimp only [reduceAdd, reduceMul]; exact dn; exact rfl; refine Gol.ret ?_)
      (apply RetQ.mk (by first | exact .inr rfl | exact .inl rfl); apply res_1 rfl; exact res_tmp rfl; exact out_val)
    · rw [decide_eq_false h]
      (
 refine Gol.exit ?_; refine thn_x ?_; refine rnd_x ?_; refine inBlk_hit ?_; refine thn_n ?_
 apply Gol.sr; apply t0; exact sM rfl; apply t0; exact s_gtn rfl rfl; apply t0; exact sM rfl; apply g0; exact wnt_g rfl rfl rfl (by simp only [*]; rfl)
 exact sM rfl; apply g0; exact wnt_g rfl rfl rfl (by simp only [*]; rfl); exact s_len rfl ln_ex; apply g0; exact wnt_g rfl rfl rfl (by simp only [*]; rfl)
 exact s_gtn rfl rfl; apply t0; exact s_pick_f rfl (by simp only [*]; rfl) rfl; apply t0; exact sA rfl; dsimp only [reduceAdd, reduceMul]
 exact dn; exact rfl; refine Gol.ret ?_)
      (apply RetQ.mk (by first | exact .inr rfl | exact .inl rfl); apply res_1 rfl; exact res_tmp rfl; exact out_val)
end Go.Proofs.YtneeclacmhhblaaGreat


namespace Go.Proofs.YtneeclacmhhblaaGreat
open Go.RowKit
open Nat (reduceAdd reduceMul reduceSub)

section
variable (S : List UInt8 → UInt64) (hS : HashF S)
include hS
set_option maxHeartbeats 3200000 in
theorem exact_ok (l : List It) (vs : List Vt) (f f2 : Bool) (hl : l.length ≤ 1000000) (hv : vs.length ≤ 1000000) (hsm : ∀ x ∈ l, Sm x.st) (g : Int) (n : UInt64) :
    Fresh Tryz.prog 12 [.ex l.length f (itsA l), .ex vs.length f2 (vtsA vs), .v (.int .i64 g), .v (.agg (nameC n))] (fun _ => .v (.bool true)) [] := by
  have a1 := committee_ok l f n hl
  have b1 := refCommittee_ok l f n (by omega)
  have a2 := signers_ok S hS l vs f f2 n hl hv hsm
  have b2 := refSigners_ok S hS l vs f f2 hl hv hsm n
  have a3 := counted_ok S hS l vs f f2 n hl hv hsm g
  have b3 := refCounted_ok S hS l vs f f2 hl hv hsm g n
  have a4 := full_ok S hS l vs f f2 n hl hv hsm g
  have b4 := refFull_ok S hS l vs f f2 hl hv hsm g n
  have a5 := acks_ok S hS l vs f f2 n hl hv hsm g
  have b5 := refAcks_ok S hS l vs f f2 hl hv hsm g n
  have a6 := locked_ok S hS l vs f f2 n hl hv hsm g
  have b6 := refLocked_ok S hS l vs f f2 hl hv hsm g n
  have a7 := final_ok S hS l vs f f2 n hl hv hsm g
  have b7 := refFinal_ok S hS l vs f f2 hl hv hsm g n
  generalize comN l n = r1 at a1 b1
  generalize countedB (stqN S l vs n) g = r3 at a3 b3
  generalize fullB (stqN S l vs n) g = r4 at a4 b4
  generalize acksN (stqN S l vs n) g = r5 at a5 b5
  generalize lockedB (stqN S l vs n) g = r6 at a6 b6
  generalize finalB (stqN S l vs n) g = r7 at a7 b7
  generalize (stqN S l vs n).s = r2 at a2 b2
  refine Fresh.of (fn := Tryz.f12) Tryz.func12 rfl (lb rfl) fun w => ?_
  (
 apply Gol.sr; apply t1; exact s_box rfl rfl; apply t0; exact sA rfl; dsimp only [reduceAdd, reduceMul]; exact dn; exact rfl; refine Gol.seq ?_
 apply Gol.any; kernel_rfl; apply t0; exact sM rfl; apply t0; exact s_loadW rfl rfl rfl (agu_cuv _); apply tq; exact s_call (f := 27) rfl (eC rfl (eC rfl eN)) (aC aL (aC aL aN)) a1 (lb rfl)
 dsimp only [reduceAdd, reduceMul, reduceSub, na, ca, nbk, mc, ml]; apply t0; exact sM rfl
 apply t0; exact s_loadW rfl rfl rfl (agu_cuv _); apply tq; exact s_call (f := 38) rfl (eC rfl (eC rfl eN)) (aC aL (aC aL aN)) b1 (lb rfl)
 dsimp only [reduceAdd, reduceMul, reduceSub, na, ca, nbk, mc, ml]; apply t0; exact s_eq rfl rfl
 apply t0; exact sM rfl; apply g0; exact wnt_g rfl rfl rfl (by simp only [*]; rfl); exact sM rfl; apply g0; exact wnt_g rfl rfl rfl (by simp only [*]; rfl)
 exact sM rfl; apply g0; exact wnt_g rfl rfl rfl (by simp only [*]; rfl); exact s_loadW rfl rfl rfl (agu_cuv _); apply gq; exact wnt_g rfl rfl rfl (by simp only [*]; rfl)
 exact s_call (f := 28) rfl (eC rfl (eC rfl (eC rfl eN))) (aC aL (aC aL (aC aL aN))) a2 (lb rfl)
 dsimp only [reduceAdd, reduceMul, reduceSub, na, ca, nbk, mc, ml]; apply g0; exact wnt_g rfl rfl rfl (by simp only [*]; rfl)
 exact sM rfl; apply g0; exact wnt_g rfl rfl rfl (by simp only [*]; rfl); exact sM rfl; apply g0; exact wnt_g rfl rfl rfl (by simp only [*]; rfl)
 exact s_loadW rfl rfl rfl (agu_cuv _); apply gq; exact wnt_g rfl rfl rfl (by simp only [*]; rfl); exact s_call (f := 39) rfl (eC rfl (eC rfl (eC rfl eN))) (aC aL (aC aL (aC aL aN))) b2 (lb rfl)
 dsimp only [reduceAdd, reduceMul, reduceSub, na, ca, nbk, mc, ml]; apply g0; exact wnt_g rfl rfl rfl (by simp only [*]; rfl)
 exact s_eq rfl rfl; apply t0; exact s_pick_t rfl (by simp only [*]; rfl) rfl; apply t0; exact sM rfl; apply g0; exact wnt_g rfl rfl rfl (by simp only [*]; rfl)
 exact sM rfl; apply g0; exact wnt_g rfl rfl rfl (by simp only [*]; rfl); exact sM rfl; apply g0; exact wnt_g rfl rfl rfl (by simp only [*]; rfl)
 exact sM rfl; apply g0; exact wnt_g rfl rfl rfl (by simp only [*]; rfl); exact s_loadW rfl rfl rfl (agu_cuv _); apply gq; exact wnt_g rfl rfl rfl (by simp only [*]; rfl)
 exact s_call (f := 32) rfl (eC rfl (eC rfl (eC rfl (eC rfl eN)))) (aC aL (aC aL (aC aL (aC aL aN)))) a3 (lb rfl)
 dsimp only [reduceAdd, reduceMul, reduceSub, na, ca, nbk, mc, ml]; apply g0; exact wnt_g rfl rfl rfl (by simp only [*]; rfl)
 exact sM rfl; apply g0; exact wnt_g rfl rfl rfl (by simp only [*]; rfl); exact sM rfl; apply g0; exact wnt_g rfl rfl rfl (by simp only [*]; rfl)
 exact sM rfl; apply g0; exact wnt_g rfl rfl rfl (by simp only [*]; rfl); exact s_loadW rfl rfl rfl (agu_cuv _); apply gq; exact wnt_g rfl rfl rfl (by simp only [*]; rfl)
 exact s_call (f := 40) rfl (eC rfl (eC rfl (eC rfl (eC rfl eN)))) (aC aL (aC aL (aC aL (aC aL aN)))) b3 (lb rfl)
 dsimp only [reduceAdd, reduceMul, reduceSub, na, ca, nbk, mc, ml]; apply g0; exact wnt_g rfl rfl rfl (by simp only [*]; rfl)
 exact s_eqb rfl rfl; apply t0; exact s_pick_t rfl (by simp only [*]; rfl) rfl; apply t0; exact sM rfl; apply g0; exact wnt_g rfl rfl rfl (by focus (simp [*]; done))
 exact sM rfl; apply g0; exact wnt_g rfl rfl rfl (by focus (simp [*]; done)); exact sM rfl; apply g0; exact wnt_g rfl rfl rfl (by focus (simp [*]; done))
 exact sM rfl; apply g0; exact wnt_g rfl rfl rfl (by focus (simp [*]; done)); exact s_loadW rfl rfl rfl (agu_cuv _); apply gq; exact wnt_g rfl rfl rfl (by focus (simp [*]; done))
 exact s_call (f := 29) rfl (eC rfl (eC rfl (eC rfl (eC rfl eN)))) (aC aL (aC aL (aC aL (aC aL aN)))) a4 (lb rfl)
 dsimp only [reduceAdd, reduceMul, reduceSub, na, ca, nbk, mc, ml]; apply g0; exact wnt_g rfl rfl rfl (by focus (simp [*]; done))
 exact sM rfl; apply g0; exact wnt_g rfl rfl rfl (by focus (simp [*]; done)); exact sM rfl; apply g0; exact wnt_g rfl rfl rfl (by focus (simp [*]; done))
 exact sM rfl; apply g0; exact wnt_g rfl rfl rfl (by focus (simp [*]; done)); exact s_loadW rfl rfl rfl (agu_cuv _); apply gq; exact wnt_g rfl rfl rfl (by focus (simp [*]; done))
 exact s_call (f := 41) rfl (eC rfl (eC rfl (eC rfl (eC rfl eN)))) (aC aL (aC aL (aC aL (aC aL aN)))) b4 (lb rfl)
 dsimp only [reduceAdd, reduceMul, reduceSub, na, ca, nbk, mc, ml]; apply g0; exact wnt_g rfl rfl rfl (by focus (simp [*]; done))
 exact s_eqb rfl rfl; apply t0; exact s_pick_t rfl (by focus (simp [*]; done)) rfl; apply t0; exact sM rfl; apply g0; exact wnt_g rfl rfl rfl (by focus (simp [*]; done))
 exact sM rfl; apply g0; exact wnt_g rfl rfl rfl (by focus (simp [*]; done)); exact sM rfl; apply g0; exact wnt_g rfl rfl rfl (by focus (simp [*]; done))
 exact sM rfl; apply g0; exact wnt_g rfl rfl rfl (by focus (simp [*]; done)); exact s_loadW rfl rfl rfl (agu_cuv _); apply gq; exact wnt_g rfl rfl rfl (by focus (simp [*]; done))
 exact s_call (f := 33) rfl (eC rfl (eC rfl (eC rfl (eC rfl eN)))) (aC aL (aC aL (aC aL (aC aL aN)))) a5 (lb rfl)
 dsimp only [reduceAdd, reduceMul, reduceSub, na, ca, nbk, mc, ml]; apply g0; exact wnt_g rfl rfl rfl (by focus (simp [*]; done))
 exact sM rfl; apply g0; exact wnt_g rfl rfl rfl (by focus (simp [*]; done)); exact sM rfl; apply g0; exact wnt_g rfl rfl rfl (by focus (simp [*]; done))
 exact sM rfl; apply g0; exact wnt_g rfl rfl rfl (by focus (simp [*]; done)); exact s_loadW rfl rfl rfl (agu_cuv _); apply gq; exact wnt_g rfl rfl rfl (by focus (simp [*]; done))
 exact s_call (f := 42) rfl (eC rfl (eC rfl (eC rfl (eC rfl eN)))) (aC aL (aC aL (aC aL (aC aL aN)))) b5 (lb rfl)
 dsimp only [reduceAdd, reduceMul, reduceSub, na, ca, nbk, mc, ml]; apply g0; exact wnt_g rfl rfl rfl (by focus (simp [*]; done))
 exact s_eq rfl rfl; apply t0; exact s_pick_t rfl (by focus (simp [*]; done)) rfl; apply t0; exact sM rfl; apply g0; exact wnt_g rfl rfl rfl (by simp only [*]; rfl)
 exact sM rfl; apply g0; exact wnt_g rfl rfl rfl (by simp only [*]; rfl); exact sM rfl; apply g0; exact wnt_g rfl rfl rfl (by simp only [*]; rfl)
 exact sM rfl; apply g0; exact wnt_g rfl rfl rfl (by simp only [*]; rfl); exact s_loadW rfl rfl rfl (agu_cuv _); apply gq; exact wnt_g rfl rfl rfl (by simp only [*]; rfl)
 exact s_call (f := 30) rfl (eC rfl (eC rfl (eC rfl (eC rfl eN)))) (aC aL (aC aL (aC aL (aC aL aN)))) a6 (lb rfl)
 dsimp only [reduceAdd, reduceMul, reduceSub, na, ca, nbk, mc, ml]; apply g0; exact wnt_g rfl rfl rfl (by simp only [*]; rfl)
 exact sM rfl; apply g0; exact wnt_g rfl rfl rfl (by simp only [*]; rfl); exact sM rfl; apply g0; exact wnt_g rfl rfl rfl (by simp only [*]; rfl)
 exact sM rfl; apply g0; exact wnt_g rfl rfl rfl (by simp only [*]; rfl); exact s_loadW rfl rfl rfl (agu_cuv _); apply gq; exact wnt_g rfl rfl rfl (by simp only [*]; rfl)
 exact s_call (f := 43) rfl (eC rfl (eC rfl (eC rfl (eC rfl eN)))) (aC aL (aC aL (aC aL (aC aL aN)))) b6 (lb rfl)
 dsimp only [reduceAdd, reduceMul, reduceSub, na, ca, nbk, mc, ml]; apply g0; exact wnt_g rfl rfl rfl (by simp only [*]; rfl)
 exact s_eqb rfl rfl; apply t0; exact s_pick_t rfl (by simp only [*]; rfl) rfl; apply t0; exact sM rfl; apply g0; exact wnt_g rfl rfl rfl (by focus (simp [*]; done))
 exact sM rfl; apply g0; exact wnt_g rfl rfl rfl (by focus (simp [*]; done)); exact sM rfl; apply g0; exact wnt_g rfl rfl rfl (by focus (simp [*]; done))
 exact sM rfl; apply g0; exact wnt_g rfl rfl rfl (by focus (simp [*]; done)); exact s_loadW rfl rfl rfl (agu_cuv _); apply gq; exact wnt_g rfl rfl rfl (by focus (simp [*]; done))
 exact s_call (f := 31) rfl (eC rfl (eC rfl (eC rfl (eC rfl eN)))) (aC aL (aC aL (aC aL (aC aL aN)))) a7 (lb rfl)
 dsimp only [reduceAdd, reduceMul, reduceSub, na, ca, nbk, mc, ml]; apply g0; exact wnt_g rfl rfl rfl (by focus (simp [*]; done))
 exact sM rfl; apply g0; exact wnt_g rfl rfl rfl (by focus (simp [*]; done)); exact sM rfl; apply g0; exact wnt_g rfl rfl rfl (by focus (simp [*]; done))
 exact sM rfl; apply g0; exact wnt_g rfl rfl rfl (by focus (simp [*]; done)); exact s_loadW rfl rfl rfl (agu_cuv _); apply gq; exact wnt_g rfl rfl rfl (by focus (simp [*]; done))
 exact s_call (f := 44) rfl (eC rfl (eC rfl (eC rfl (eC rfl eN)))) (aC aL (aC aL (aC aL (aC aL aN)))) b7 (lb rfl)
 dsimp only [reduceAdd, reduceMul, reduceSub, na, ca, nbk, mc, ml]; apply g0; exact wnt_g rfl rfl rfl (by focus (simp [*]; done))
 exact s_eqb rfl rfl; apply t0; exact s_pick_t rfl (by focus (simp [*]; done)) rfl; apply t0; exact sA rfl; dsimp only [reduceAdd, reduceMul]
 exact dn; kernel_rfl; exact rfl; refine thn_n ?_; refine Gol.ret ?_)
  apply RetQ.bool
  · (apply RetQ.mk (by first | exact .inr rfl | exact .inl rfl); apply res_1 rfl; exact res_tmp rfl; exact out_val)
  · simp
variable (haw : Fresh Tryz.prog 9 [] (fun _ => .v (.bool true)) [])
include haw
theorem sealRaw_ok (l : List It) (vs : List Vt) (f f2 : Bool) (hl : l.length ≤ 140737488351232) (hv : vs.length ≤ 140737488351232) (g : Int) (n : UInt64) :
    Fresh Tryz.prog 4 [.ex l.length f (itsA l), .ex vs.length f2 (vtsA vs), .v (.int .i64 g), .v (.agg (nameC n))] (fun _ => .v (.bool true)) [] := by
  have hh := heavy26_ok l f vs.length (vtsA vs) f2 hl
  have hno := heavy26_no (l := l) (vs := vs.length)
  generalize heavy26 l vs.length = F at hh hno
  cases F with
  | true =>
    refine Fresh.of (fn := Tryz.f4) Tryz.func4 rfl (lb rfl) fun w => ?_
    (
 apply Gol.sr; apply t1; exact s_box rfl rfl; apply t0; exact sA rfl; dsimp only [reduceAdd, reduceMul]; exact dn; exact rfl; refine Gol.seq ?_
 apply Gol.sr; apply t0; exact sM rfl; apply t0; exact sM rfl; apply tq; exact s_call (f := 8) rfl (eC rfl (eC rfl eN)) (aC aL (aC aL aN)) hh (lb rfl)
 dsimp only [reduceAdd, reduceMul, reduceSub, na, ca, nbk, mc, ml]; apply t0; exact sM rfl
 apply sk; exact wnt_g rfl rfl rfl rfl; apply sk; exact wnt_g rfl rfl rfl rfl; apply sk; exact wnt_g rfl rfl rfl rfl; apply t0; exact s_pick_t rfl rfl rfl
 dsimp only [reduceAdd, reduceMul]; exact dn; exact rfl)
    refine Gol.cond_t rfl rfl ?_
    (
 apply Gol.sr; apply tq; exact s_call (f := 9) rfl evs.nil ArgL.nil haw (lb rfl); dsimp only [reduceAdd, reduceMul, reduceSub, na, ca, nbk, mc, ml]
 apply t0; exact sA rfl; dsimp only [reduceAdd, reduceMul]; exact dn; exact rfl; refine Gol.ret ?_; refine thn_r ?_)
    (apply RetQ.mk (by first | exact .inr rfl | exact .inl rfl); apply res_1 rfl; exact res_tmp rfl; exact out_val)
  | false =>
    obtain ⟨k1, k2, k3⟩ := hno rfl
    by_cases h30 : 30 < l.length
    · have d : decide (30 < l.length) = true := decide_eq_true h30
      refine Fresh.of (fn := Tryz.f4) Tryz.func4 rfl (lb rfl) fun w => ?_
      (
 apply Gol.sr; apply t1; exact s_box rfl rfl; apply t0; exact sA rfl; dsimp only [reduceAdd, reduceMul]; exact dn; exact rfl; refine Gol.seq ?_
 apply Gol.sr; apply t0; exact sM rfl; apply t0; exact sM rfl; apply tq; exact s_call (f := 8) rfl (eC rfl (eC rfl eN)) (aC aL (aC aL aN)) hh (lb rfl)
 dsimp only [reduceAdd, reduceMul, reduceSub, na, ca, nbk, mc, ml]; apply t0; exact sM rfl
 apply g0; exact wnt_g rfl rfl rfl rfl; exact sM rfl; apply g0; exact wnt_g rfl rfl rfl rfl; exact s_len rfl ln_ex; apply g0; exact wnt_g rfl rfl rfl rfl
 exact s_gtn rfl rfl; apply t0; exact s_pick_f rfl rfl rfl; dsimp only [reduceAdd, reduceMul]; exact dn; exact rfl)
      refine Gol.cond_t rfl d ?_
      (
 apply Gol.sr; apply tq; exact s_call (f := 9) rfl evs.nil ArgL.nil haw (lb rfl); dsimp only [reduceAdd, reduceMul, reduceSub, na, ca, nbk, mc, ml]
 apply t0; exact sA rfl; dsimp only [reduceAdd, reduceMul]; exact dn; exact rfl; refine Gol.ret ?_; refine thn_r ?_)
      (apply RetQ.mk (by first | exact .inr rfl | exact .inl rfl); apply res_1 rfl; exact res_tmp rfl; exact out_val)
    have d : decide (30 < l.length) = false := decide_eq_false h30
    have hex : ∀ m, _ := fun m => exact_ok S hS l vs f f2 (by omega) (by omega) k3 g m
    have p1 := base_ok S hS l vs f f2 (by omega) (by omega) k3 g
    have q1 := refBase_ok S hS l vs f f2 (by omega) (by omega) k3 g
    have p2 := last_ok S hS l vs f f2 (by omega) (by omega) k3 g
    have q2 := refLastFinal_ok S hS l vs f f2 (by omega) (by omega) k3 g
    generalize hiF (fun n => lockedB (stqN S l vs n) g) l = r1 at p1 q1
    generalize hiF (fun n => finalB (stqN S l vs n) g) l = r2 at p2 q2
    have e1 : (r1 == r1) = true := by simp
    have e2 : (r2 == r2) = true := by simp
    refine Fresh.of (fn := Tryz.f4) Tryz.func4 rfl (lb rfl) fun w => ?_
    (
 apply Gol.sr; apply t1; exact s_box rfl rfl; apply t0; exact sA rfl; dsimp only [reduceAdd, reduceMul]; exact dn; exact rfl; refine Gol.seq ?_
 apply Gol.sr; apply t0; exact sM rfl; apply t0; exact sM rfl; apply tq; exact s_call (f := 8) rfl (eC rfl (eC rfl eN)) (aC aL (aC aL aN)) hh (lb rfl)
 dsimp only [reduceAdd, reduceMul, reduceSub, na, ca, nbk, mc, ml]; apply t0; exact sM rfl
 apply g0; exact wnt_g rfl rfl rfl rfl; exact sM rfl; apply g0; exact wnt_g rfl rfl rfl rfl; exact s_len rfl ln_ex; apply g0; exact wnt_g rfl rfl rfl rfl
 exact s_gtn rfl rfl; apply t0; exact s_pick_f rfl rfl rfl; dsimp only [reduceAdd, reduceMul]; exact dn; exact rfl)
    refine Gol.cond_f rfl d ?_
    (
 refine Gol.skip ?_; refine thn_n ?_; refine Gol.seq ?_; apply Gol.sr; apply t0; exact sA rfl
 dsimp only [reduceAdd, reduceMul]; exact dn; exact rfl; refine Gol.block ?_)
    refine Gol.loop (ι := Nat) (fun i => i ≤ l.length) (fun i => l.length - i) 400 (fun _ => [(0, some ⟨cu (.v (.agg (nameC n))), 23, 8⟩)])
      (fun i => [(0, .ex l.length f (itsA l)), (1, .ex vs.length f2 (vtsA vs)), (2, .v (.int .i64 g)), (7, .pt 0 0), (9, .v (.int .i64 (i : Int)))]) 0 (Nat.zero_le _) ?_ ?_
    · (
 apply Le.mk3' []; apply RnT3.c; exact rfl; apply Rn3.r; exact Rn.clo inferInstance rfl; apply RnT3.c; exact rfl; apply Rn3.r; exact Rn.clo inferInstance rfl
 apply RnT3.c; exact rfl; apply Rn3.r; exact Rn.v rfl; apply RnT3.c; exact rfl; apply Rn3.r; exact Rn.pt rfl rfl; apply RnT3.c; exact rfl; apply Rn3.r
 exact Rn.v rfl; exact RnT3.n; apply RnH3.c; exact rfl; exact rfl; apply RnC.cl; rfl; exact inferInstance; exact rfl; exact rfl; exact RnH3.n; exact rfl
 exact rfl)
    intro i hi
    (
 refine Gol.seq ?_; apply Gol.sr; apply t0; exact sM rfl; apply t0; exact sM rfl; apply t0; exact s_len rfl ln_ex; apply t0; exact s_ltn rfl rfl
 dsimp only [reduceAdd, reduceMul]; exact dn; exact rfl)
    refine Gol.cond rfl (fun h => ?_) (fun h => ?_)
    · have hlt : i < l.length := of_decide_eq_true h
      have hx : l[i]? = some l[i] := List.getElem?_eq_getElem hlt
      generalize l[i] = x at hx
      have hc := hex x.n
      (
 refine Gol.skip ?_; refine thn_n ?_; refine Gol.seq ?_; refine Gol.block ?_; apply Gol.sr
 apply t0; exact sM rfl; apply t0; exact sM rfl; apply t0; exact sM rfl; apply t0; exact sM rfl; apply t0; exact sM rfl; apply t0; exact s_ixeD rfl rfl (by omega) (its_ne (by omega)) (its_at (by assumption))
 apply t0; exact s_fieldAddrE rfl; apply t0; exact s_loadEN rfl (lb rfl) (agu_nm8 rfl); apply tq; exact s_call (f := 12) rfl (eC rfl (eC rfl (eC rfl (eC rfl eN)))) (aC aL (aC aL (aC aL (aC aL aN)))) hc (lb rfl)
 dsimp only [reduceAdd, reduceMul, reduceSub, na, ca, nbk, mc, ml]; apply t0; exact s_not rfl
 dsimp only [reduceAdd, reduceMul]; exact dn; exact rfl)
      refine Gol.cond_f rfl rfl ?_
      (
 refine Gol.skip ?_; refine inBlk_n ?_; refine thn_n ?_; apply Gol.region; apply t0
 exact sM rfl; apply t0; exact s_addn rfl rfl (by simp <;> omega); apply t0; exact sA rfl; dsimp only [reduceAdd, reduceMul]; exact dn
 exact rfl)
      refine rnd_n (i + 1) hlt (by omega) ?_
      (
 apply Le.mk3' []; apply RnT3.c; exact rfl; apply Rn3.r; exact Rn.clo inferInstance rfl; apply RnT3.c; exact rfl; apply Rn3.r; exact Rn.clo inferInstance rfl
 apply RnT3.c; exact rfl; apply Rn3.r; exact Rn.v rfl; apply RnT3.c; exact rfl; apply Rn3.r; exact Rn.pt rfl rfl; apply RnT3.c; exact rfl; apply Rn3.r
 exact Rn.v rfl; exact RnT3.n; apply RnH3.c; exact rfl; exact rfl; apply RnC.cl; rfl; exact inferInstance; exact rfl; exact rfl; exact RnH3.n; exact rfl
 exact rfl)
    · have hc := hex n
      (
 refine Gol.exit ?_; refine thn_x ?_; refine rnd_x ?_; refine inBlk_hit ?_; refine thn_n ?_
 apply Gol.sr; apply t0; exact sM rfl; apply t0; exact sM rfl; apply t0; exact sM rfl; apply t0; exact s_loadW rfl rfl rfl (agu_cuv _); apply tq
 exact s_call (f := 12) rfl (eC rfl (eC rfl (eC rfl (eC rfl eN)))) (aC aL (aC aL (aC aL (aC aL aN)))) hc (lb rfl)
 dsimp only [reduceAdd, reduceMul, reduceSub, na, ca, nbk, mc, ml]; apply t0; exact sM rfl
 apply g0; exact wnt_g rfl rfl rfl rfl; exact sM rfl; apply g0; exact wnt_g rfl rfl rfl rfl; exact sM rfl; apply g0; exact wnt_g rfl rfl rfl rfl
 exact sM rfl; apply gq; exact wnt_g rfl rfl rfl rfl; exact s_call (f := 13) rfl (eC rfl (eC rfl (eC rfl eN))) (aC aL (aC aL (aC aL aN))) p1 (lb rfl)
 dsimp only [reduceAdd, reduceMul, reduceSub, na, ca, nbk, mc, ml]; apply g0; exact wnt_g rfl rfl rfl rfl
 exact sM rfl; apply g0; exact wnt_g rfl rfl rfl rfl; exact sM rfl; apply g0; exact wnt_g rfl rfl rfl rfl; exact sM rfl; apply gq; exact wnt_g rfl rfl rfl rfl
 exact s_call (f := 14) rfl (eC rfl (eC rfl (eC rfl eN))) (aC aL (aC aL (aC aL aN))) q1 (lb rfl)
 dsimp only [reduceAdd, reduceMul, reduceSub, na, ca, nbk, mc, ml]; apply g0; exact wnt_g rfl rfl rfl rfl
 exact s_eqN rfl rfl; apply t0; exact s_pick_t rfl rfl rfl; apply t0; exact sM rfl; apply g0; exact wnt_g rfl rfl rfl (by simp only [*]; rfl)
 exact sM rfl; apply g0; exact wnt_g rfl rfl rfl (by simp only [*]; rfl); exact sM rfl; apply g0; exact wnt_g rfl rfl rfl (by simp only [*]; rfl)
 exact sM rfl; apply gq; exact wnt_g rfl rfl rfl (by simp only [*]; rfl); exact s_call (f := 15) rfl (eC rfl (eC rfl (eC rfl eN))) (aC aL (aC aL (aC aL aN))) p2 (lb rfl)
 dsimp only [reduceAdd, reduceMul, reduceSub, na, ca, nbk, mc, ml]; apply g0; exact wnt_g rfl rfl rfl (by simp only [*]; rfl)
 exact sM rfl; apply g0; exact wnt_g rfl rfl rfl (by simp only [*]; rfl); exact sM rfl; apply g0; exact wnt_g rfl rfl rfl (by simp only [*]; rfl)
 exact sM rfl; apply gq; exact wnt_g rfl rfl rfl (by simp only [*]; rfl); exact s_call (f := 16) rfl (eC rfl (eC rfl (eC rfl eN))) (aC aL (aC aL (aC aL aN))) q2 (lb rfl)
 dsimp only [reduceAdd, reduceMul, reduceSub, na, ca, nbk, mc, ml]; apply g0; exact wnt_g rfl rfl rfl (by simp only [*]; rfl)
 exact s_eqN rfl rfl; apply t0; exact s_pick_t rfl (by assumption) rfl; apply t0; exact sM rfl; apply gq; exact wnt_g rfl rfl rfl (by simp only [*]; rfl)
 exact s_call (f := 9) rfl evs.nil ArgL.nil haw (lb rfl); dsimp only [reduceAdd, reduceMul, reduceSub, na, ca, nbk, mc, ml]
 apply t0; exact s_pick_t rfl (by assumption) rfl; apply t0; exact sA rfl; dsimp only [reduceAdd, reduceMul]; exact dn; exact rfl; refine Gol.ret ?_)
      (apply RetQ.mk (by first | exact .inr rfl | exact .inl rfl); apply res_1 rfl; exact res_tmp rfl; exact out_val)
end
end Go.Proofs.YtneeclacmhhblaaGreat


namespace Go.Proofs.YtneeclacmhhblaaGreat
open Go.ChangeShapes Go.WideShapes Go.ChangeAt Go.RowKit

section
variable {P : Program}
def Opn (P : Program) (t : TypeId) (k : Nat) {α : Type} (q : α → Prop) (f : α → List AV) : Prop :=
  ∀ (H : Type) (enc : TypeId × Value → H) (w : World) (base : Nat) (held : Bool) (fuel : Nat) (cs : List Value) (x : DataW H × List MemPlace),
    DataW.trod enc P w base (fun _ => true) held fuel t cs = some x → (∀ n ∈ x.1.weights P t, n ≤ reachBytes) → ∃ a, q a ∧ (f a).length = k ∧ RVs (E0 w) (f a) cs
theorem RVs.one {E : Env} {a : AV} {x : Value} (h : RV E a x) : RVs E [a] [x] :=
  ⟨rfl, fun j c y hc hy => by cases j with | zero => simp at hc hy; subst hc hy; exact h | succ j => simp at hc⟩
theorem opn_i64 {t : TypeId} (ht : P.underlying t = some (.int .i64)) : Opn P t 1 (fun a : Int => -9223372036854775808 ≤ a ∧ a ≤ 9223372036854775807) (fun a => [.v (.int .i64 a)]) := by
  intro H enc w base held fuel cs x h _
  obtain ⟨z, rfl, _, hwf⟩ := DataW.trod_int ht h
  have hbd := bounds_i64 hwf
  exact ⟨z, by omega, rfl, RVs.one (.v _)⟩
theorem opn_name {t e : TypeId} (ht : P.underlying t = some (.array 8 e)) (he : P.underlying e = some (.int .u8)) (hce : P.cellsOf e = 1) (hct : P.cellsOf t = 8) : Opn P t 8 (fun _ : UInt64 => True) (fun a => byA (nameB a)) := by
  intro H enc w base held fuel cs x h _
  obtain ⟨n, rfl⟩ := trod_name ht he hce hct h
  refine ⟨n, trivial, rfl, ?_⟩
  exact RVs.vals (nameC n).toList
def OpnL (P : Program) (fs : List Field) (o k : Nat) {α : Type} (q : α → Prop) (f : α → List AV) : Prop :=
  ∀ (H : Type) (enc : TypeId × Value → H) (w : World) (base : Nat) (held : Bool) (n : Nat) (cs : List Value) (xs : List (DataW H × List MemPlace)), xs.length = fs.length →
    (∀ (i : Nat) (fd : Field), fs[i]? = some fd → DataW.trod enc P w base (fun _ => true) held n fd.type ((cs.drop fd.offset).take (P.cellsOf fd.type)) = xs[i]?) →
    (∀ m ∈ DataW.weightsEach P (fs.map (·.type)) (xs.map (·.1)), m ≤ reachBytes) → ∃ a, q a ∧ (f a).length = k ∧ RVs (E0 w) (f a) ((cs.drop o).take k)
theorem OpnL.nil {o : Nat} : OpnL P [] o 0 (fun _ : Unit => True) (fun _ => []) := by
  intro H enc w base held n cs xs _ _ _
  exact ⟨(), trivial, rfl, by rw [List.take_zero]; exact RVs.vals []⟩
theorem OpnL.cons {fd : Field} {fs : List Field} {o k0 k1 : Nat} {α β : Type} {q : α → Prop} {f : α → List AV} {r : β → Prop} {g : β → List AV} (ho : fd.offset = o) (hk : P.cellsOf fd.type = k0) (h0 : Opn P fd.type k0 q f) (h1 : OpnL P fs (o + k0) k1 r g) :
    OpnL P (fd :: fs) o (k0 + k1) (fun p : α × β => q p.1 ∧ r p.2) (fun p => f p.1 ++ g p.2) := by
  intro H enc w base held n cs xs hl h hw
  cases xs with
  | nil => simp at hl
  | cons x xs =>
    have hx := h 0 fd rfl
    simp only [List.getElem?_cons_zero] at hx
    simp only [List.map_cons, DataW.weightsEach, List.mem_append] at hw
    obtain ⟨a, qa, la, ra⟩ := h0 _ enc w base held n _ x hx (fun m hm => hw m (.inl hm))
    obtain ⟨b, qb, lb, rb⟩ := h1 _ enc w base held n cs xs (by simpa using hl) (fun i fd' hi => by simpa using h (i + 1) fd' (by simpa using hi)) (fun m hm => hw m (.inr hm))
    refine ⟨(a, b), ⟨qa, qb⟩, by simp [la, lb], ?_⟩
    rw [ho, hk] at ra
    rw [List.take_add, List.drop_drop]
    exact ra.append rb
theorem Opn.struct {t : TypeId} {fs : Array Field} {k : Nat} {α : Type} {q : α → Prop} {f : α → List AV} (ht : P.underlying t = some (.struct fs)) (hk : P.cellsOf t = k) (h : OpnL P fs.toList 0 k q f) : Opn P t k q f := by
  intro H enc w base held fuel cs x hx hw
  obtain ⟨xs, n, _, rfl, hl, hlen, hf⟩ := DataW.trod_struct ht hx
  simp only [DataW.weights, ht] at hw
  obtain ⟨a, qa, la, ra⟩ := h _ enc w base held n cs xs (by simpa using hlen) (fun i fd hi => hf i fd (by simpa using hi)) hw
  refine ⟨a, qa, la, ?_⟩
  rw [List.drop_zero, List.take_of_length_le (by omega)] at ra
  exact ra
theorem Opn.map {t : TypeId} {k : Nat} {α β : Type} {q : α → Prop} {f : α → List AV} {r : β → Prop} {g : β → List AV} (h : Opn P t k q f) (m : α → β) (hq : ∀ a, q a → r (m a)) (hf : ∀ a, g (m a) = f a) : Opn P t k r g := by
  intro H enc w base held fuel cs x hx hw
  obtain ⟨a, qa, la, ra⟩ := h _ enc w base held fuel cs x hx hw
  exact ⟨m a, hq a qa, by rw [hf]; exact la, by rw [hf]; exact ra⟩
theorem cells_get {w : World} {base : Nat} {a : Addr} {n : Nat} {xs : List Value} (h : w.cells? base a n = some xs) : xs.length = n ∧ ∀ (j : Nat) x, xs[j]? = some x → w.cell? (a.add j) = some x := by
  unfold World.cells? at h
  split at h
  · have hl := mapM_some_length h
    rw [List.length_range] at hl
    refine ⟨hl, fun j x hx => ?_⟩
    have hj : j < n := by
      by_cases hj : j < n
      · exact hj
      · rw [List.getElem?_eq_none (by omega)] at hx; cases hx
    have := mapM_some_get h j j (by simp [hj])
    rw [this, hx]
  · cases h
theorem weights_all {H : Type} {e : TypeId} {ds : List (DataW H)} {d : DataW H} (h : d ∈ ds) {n : Nat} (hn : n ∈ d.weights P e) : n ∈ DataW.weightsAll P e ds := by
  induction ds with
  | nil => cases h
  | cons x xs ih =>
    simp only [DataW.weightsAll, List.mem_append]
    rcases List.mem_cons.1 h with rfl | h
    · exact .inl hn
    · exact .inr (ih h)
theorem rows_of {α : Type} {k : Nat} {q : α → Prop} {f : α → List AV} {w : World} {blk : Nat} (n : Nat) : ∀ (off : Nat), (∀ i, i < n → ∃ a cs, q a ∧ (f a).length = k ∧ RVs (E0 w) (f a) cs ∧ ∀ (j : Nat) x, cs[j]? = some x → w.cell? ⟨blk, off + i * k + j, none⟩ = some x) →
    ∃ (l : List α) (xs : List Value), l.length = n ∧ (∀ a ∈ l, q a) ∧ RVs (E0 w) (l.flatMap f) xs ∧ (∀ (j : Nat) x, xs[j]? = some x → w.cell? ⟨blk, off + j, none⟩ = some x) := by
  induction n with
  | zero => intro off _; exact ⟨[], [], rfl, by simp, RVs.vals [], by simp⟩
  | succ n ih =>
    intro off h
    obtain ⟨a, cs, qa, la, ra, ca⟩ := h 0 (by omega)
    obtain ⟨l, xs, ll, ql, rl, cl⟩ := ih (off + k) (fun i hi => by
      obtain ⟨a, cs, qa, la, ra, ca⟩ := h (i + 1) (by omega)
      refine ⟨a, cs, qa, la, ra, fun j x hx => ?_⟩
      have := ca j x hx
      rw [Nat.add_mul, Nat.one_mul] at this
      rw [← this]
      congr 2
      omega)
    have lcs : cs.length = k := by rw [← la, ra.1]
    refine ⟨a :: l, cs ++ xs, by simp [ll], fun b hb => by rcases List.mem_cons.1 hb with rfl | hb; exact qa; exact ql b hb, by rw [List.flatMap_cons]; exact ra.append rl, fun j x hx => ?_⟩
    by_cases hj : j < k
    · rw [List.getElem?_append_left (by omega)] at hx
      simpa using ca j x hx
    · rw [List.getElem?_append_right (by omega), lcs] at hx
      have := cl _ x hx
      rw [← this]
      congr 2
      omega
theorem Opn.slice {t e : TypeId} {k : Nat} {α : Type} {q : α → Prop} {f : α → List AV} (ht : P.underlying t = some (.slice e)) (hk : P.cellsOf e = k) (h : Opn P e k q f) :
    Opn P t 1 (fun l : List α => l.length * P.bytesOf e ≤ reachBytes ∧ ∀ a ∈ l, q a) (fun l => [.ex l.length false (l.flatMap f)]) := by
  intro H enc w base held fuel cs x hx hw
  rcases DataW.trod_slice ht hx with ⟨rfl, rfl⟩ | ⟨a, len, cap, elems, rest, n, _, rfl, rfl, hb, hlc, hm, hel, hg, hs, _⟩
  · exact ⟨[], ⟨by simp, by simp⟩, rfl, RVs.one (.ex0 _ _ _ _ (Nat.le_refl _) (fun h => by cases h))⟩
  · simp only [DataW.weights, ht, List.mem_cons, List.mem_append] at hw
    have hsz := hw _ (.inl rfl)
    have hlen : (elems.map (·.1)).length * P.bytesOf e ≤ reachBytes := Nat.le_trans (Nat.mul_le_mul_right _ (Nat.le_add_right _ _)) hsz
    obtain ⟨blk, off, spot⟩ := a
    by_cases hc : len = 0 ∨ k = 0
    · have hz : ∃ l : List α, l.length = len ∧ (∀ a ∈ l, q a) ∧ l.flatMap f = [] := by
        rcases hc with rfl | rfl
        · exact ⟨[], rfl, by simp, rfl⟩
        · have : ∀ i, i < len → ∃ a, q a ∧ f a = [] := fun i hi => by
            have h1 := hg i hi
            rw [List.getElem?_eq_getElem (by omega)] at h1
            obtain ⟨ys, _, hy⟩ := Option.bind_eq_some_iff.1 h1
            obtain ⟨a, qa, la, _⟩ := h _ enc w base held n ys _ hy (fun m hm => hw m (.inr (.inl (weights_all (List.mem_map_of_mem (List.getElem_mem (by omega))) hm))))
            exact ⟨a, qa, List.eq_nil_of_length_eq_zero la⟩
          cases len with
          | zero => exact ⟨[], rfl, by simp, rfl⟩
          | succ m =>
            obtain ⟨a, qa, fa⟩ := this 0 (by omega)
            exact ⟨List.replicate (m + 1) a, by simp, fun b hb => by rw [(List.mem_replicate.1 hb).2]; exact qa, by simp [fa]⟩
      obtain ⟨l, ll, ql, fl⟩ := hz
      refine ⟨l, ⟨by rw [ll, ← hel]; simpa using hlen, ql⟩, rfl, RVs.one ?_⟩
      rw [fl, ll]
      exact .ex0 _ _ _ _ hlc (fun h => by cases h)
    · have hrow : ∀ i, i < len → ∃ a ys, q a ∧ (f a).length = k ∧ RVs (E0 w) (f a) ys ∧ ∀ (j : Nat) x, ys[j]? = some x → w.cell? ((⟨blk, off, spot⟩ : Addr).add (i * k) |>.add j) = some x := fun i hi => by
        have h1 := hg i hi
        rw [List.getElem?_eq_getElem (by omega)] at h1
        obtain ⟨ys, hc, hy⟩ := Option.bind_eq_some_iff.1 h1
        obtain ⟨a, qa, la, ra⟩ := h _ enc w base held n ys _ hy (fun m hm => hw m (.inr (.inl (weights_all (List.mem_map_of_mem (List.getElem_mem (by omega))) hm))))
        rw [hk] at hc
        exact ⟨a, ys, qa, la, ra, (cells_get hc).2⟩
      have hspot : spot = none := by
        obtain ⟨a, ys, qa, la, ra, ca⟩ := hrow 0 (by omega)
        have hys : 0 < ys.length := by have := ra.1; omega
        have := World.cell?_spot (ca 0 _ (List.getElem?_eq_getElem hys))
        unfold Addr.add at this
        split at this <;> simp_all
      subst hspot
      have hadd : ∀ i j, ((⟨blk, off, none⟩ : Addr).add i |>.add j) = ⟨blk, off + i + j, none⟩ := fun i j => by
        have : ∀ o m, (⟨blk, o, none⟩ : Addr).add m = ⟨blk, o + m, none⟩ := fun o m => by unfold Addr.add; split <;> simp_all
        rw [this, this]
      obtain ⟨l, xs, ll, ql, rl, cl⟩ := rows_of (w := w) (blk := blk) (k := k) len off (fun i hi => by
        obtain ⟨a, ys, qa, la, ra, ca⟩ := hrow i hi
        exact ⟨a, ys, qa, la, ra, fun j x hx => by rw [← hadd]; exact ca j x hx⟩)
      refine ⟨l, ⟨by rw [ll, ← hel]; simpa using hlen, ql⟩, rfl, RVs.one ?_⟩
      rw [ll]
      by_cases hx0 : xs = []
      · have : l.flatMap f = [] := List.eq_nil_of_length_eq_zero (by have := rl.1; rw [hx0] at this; simpa using this.symm)
        rw [this]
        exact .ex0 _ _ _ _ hlc (fun h => by cases h)
      · refine .ex _ _ _ blk off cap xs hlc (fun h => by cases h) ?_ (fun h => h) rl.1 cl rl.2
        have h0 : 0 < xs.length := List.length_pos_iff.2 hx0
        exact block_lt_of_cell (cl 0 _ (List.getElem?_eq_getElem h0))
theorem flat_cells (l : List UInt64) : l.flatMap (fun a => byA (nameB a)) = byA (flat l) := by
  induction l with
  | nil => rfl
  | cons a l ih => rw [List.flatMap_cons, ih]; simp only [flat, byA, List.flatMap_cons, List.map_append]
theorem opn_names {t e u : TypeId} (ht : P.underlying t = some (.slice e)) (he : P.underlying e = some (.array 8 u)) (hu : P.underlying u = some (.int .u8)) (hcu : P.cellsOf u = 1) (hce : P.cellsOf e = 8) (hb : P.bytesOf e = 8) :
    Opn P t 1 (fun l : List UInt64 => l.length * 8 ≤ 140737488351232) (fun l => [.ex l.length false (byA (flat l))]) :=
  (Opn.slice ht hce (opn_name he hu hcu hce)).map (fun l => l) (fun l h => by have := h.1; rw [hb] at this; exact this) (fun l => by rw [flat_cells])
theorem okWide_one {w : World} {r : Reach} {b0 : Nat} {t e : TypeId} {v : Value} (ht : P.underlying t = some (.slice e)) (h : Value.okWide P w r b0 t v) : v.cells.toList = [v] := by
  obtain ⟨a0, len, cap, rfl⟩ := okWide_slice ht h
  rfl
end
theorem RVs.head1 {E : Env} {a : AV} {x : Value} (h : RVs E [a] [x]) : RV E a x := h.2 0 a x rfl rfl
theorem Opn.arg {P : Program} {t : TypeId} {k : Nat} {α : Type} {q : α → Prop} {f : α → List AV} (h : Opn P t k q f) {H : Type} {enc : TypeId × Value → H} {w : World} {base : Nat} {held : Bool} {v : Value} {d : DataW H} {p : List MemPlace}
    (hv : DataW.Trod enc P w base (fun _ => true) held t v d p) (hs : ∀ n ∈ d.weights P t, n ≤ reachBytes) : ∃ a, q a ∧ RVs (E0 w) (f a) v.cells.toList := by
  obtain ⟨fuel, hf⟩ := hv
  obtain ⟨a, qa, _, ra⟩ := h _ enc w base held fuel _ _ hf hs
  exact ⟨a, qa, ra⟩
theorem weights_arg {P : Program} {H : Type} {ts : List TypeId} {ds : List (DataW H)} (h : (DataW.weightsEach P ts ds).all (· ≤ reachBytes) = true) {j : Nat} {t : TypeId} {d : DataW H} (ht : ts[j]? = some t) (hd : ds[j]? = some d) : ∀ n ∈ d.weights P t, n ≤ reachBytes := fun n hn => by
  simpa using List.all_eq_true.1 h _ (DataW.weights_mem_each ht hd n hn)
end Go.Proofs.YtneeclacmhhblaaGreat


namespace Go.Proofs.YtneeclacmhhblaaGreat
open Go.ChangeShapes Go.WideShapes Go.ChangeAt Go.RowKit
def okC (c : Cl) : Prop := okZ c.k ∧ okZ c.i
def okD (d : Dl) : Prop := okZ d.k ∧ okZ d.i ∧ okZ d.a
def okK (d : Lk) : Prop := okZ d.o ∧ okZ d.t ∧ okZ d.u
theorem opn_cell : Opn Tryz.prog 136 10 okC (fun c => (cellC c.k c.i c.n).toList.map AV.v) := by
  have hI := opn_i64 Tryz.underlying3
  have hN := opn_name Tryz.underlying23 Tryz.underlying5 (by kernel_rfl) (by kernel_rfl)
  have h := Opn.struct (P := Tryz.prog) (t := 136) (k := 10) Tryz.underlying136 (by kernel_rfl)
    (OpnL.cons (k0 := 1) (k1 := 9) rfl (by kernel_rfl) hI (OpnL.cons (k0 := 1) (k1 := 8) rfl (by kernel_rfl) hI (OpnL.cons (k0 := 8) (k1 := 0) rfl (by kernel_rfl) hN OpnL.nil)))
  exact h.map (fun p => ⟨p.1, p.2.1, p.2.2.1⟩) (fun p q => ⟨q.1, q.2.1⟩) (fun p => rfl)
theorem opn_delta : Opn Tryz.prog 138 11 okD dA := by
  have hI := opn_i64 Tryz.underlying3
  have h := Opn.struct (P := Tryz.prog) (t := 138) (k := 11) Tryz.underlying138 (by kernel_rfl)
    (OpnL.cons (k0 := 10) (k1 := 1) rfl (by kernel_rfl) opn_cell (OpnL.cons (k0 := 1) (k1 := 0) rfl (by kernel_rfl) hI OpnL.nil))
  exact h.map (fun p => ⟨p.1.k, p.1.i, p.1.n, p.2.1⟩) (fun p q => ⟨q.1.1, q.1.2, q.2.1⟩) (fun p => rfl)
theorem opn_lock : Opn Tryz.prog 141 19 okK lA := by
  have hI := opn_i64 Tryz.underlying3
  have hN := opn_name Tryz.underlying23 Tryz.underlying5 (by kernel_rfl) (by kernel_rfl)
  have h := Opn.struct (P := Tryz.prog) (t := 141) (k := 19) Tryz.underlying141 (by kernel_rfl)
    (OpnL.cons (k0 := 8) (k1 := 11) rfl (by kernel_rfl) hN (OpnL.cons (k0 := 8) (k1 := 3) rfl (by kernel_rfl) hN (OpnL.cons (k0 := 1) (k1 := 2) rfl (by kernel_rfl) hI (OpnL.cons (k0 := 1) (k1 := 1) rfl (by kernel_rfl) hI (OpnL.cons (k0 := 1) (k1 := 0) rfl (by kernel_rfl) hI OpnL.nil)))))
  exact h.map (fun p => ⟨p.1, p.2.1, p.2.2.1, p.2.2.2.1, p.2.2.2.2.1⟩) (fun p q => ⟨q.2.2.1, q.2.2.2.1, q.2.2.2.2.1⟩) (fun p => rfl)
theorem opn_deltas : Opn Tryz.prog 27 1 (fun l : List Dl => l.length ≤ 140737488351232 ∧ ∀ a ∈ l, okD a) (fun l => [.ex l.length false (dsA l)]) :=
  (Opn.slice Tryz.underlying27 (by kernel_rfl) opn_delta).map (fun l => l) (fun l h => by
    have hb : Tryz.prog.bytesOf 138 = 32 := by kernel_rfl
    have := h.1
    rw [hb] at this
    have hr : reachBytes = 140737488351232 := rfl
    exact ⟨by omega, h.2⟩) (fun l => rfl)
theorem opn_locks : Opn Tryz.prog 29 1 (fun l : List Lk => l.length ≤ 140737488351232 ∧ ∀ a ∈ l, okK a) (fun l => [.ex l.length false (lsA l)]) :=
  (Opn.slice Tryz.underlying29 (by kernel_rfl) opn_lock).map (fun l => l) (fun l h => by
    have hb : Tryz.prog.bytesOf 141 = 40 := by kernel_rfl
    have := h.1
    rw [hb] at this
    have hr : reachBytes = 140737488351232 := rfl
    exact ⟨by omega, h.2⟩) (fun l => rfl)
theorem inA_cells (l : List Int) : l.flatMap (fun a => [AV.v (.int .i64 a)]) = inA l := by
  induction l with
  | nil => rfl
  | cons a l ih => rw [List.flatMap_cons, ih]; rfl
theorem opn_ints : Opn Tryz.prog 28 1 (fun l : List Int => l.length ≤ 140737488351232 ∧ ∀ a ∈ l, okZ a) (fun l => [.ex l.length false (inA l)]) :=
  (Opn.slice Tryz.underlying28 (by kernel_rfl) (opn_i64 Tryz.underlying3)).map (fun l => l) (fun l h => by
    have hb : Tryz.prog.bytesOf 3 = 8 := by kernel_rfl
    have := h.1
    rw [hb] at this
    have hr : reachBytes = 140737488351232 := rfl
    exact ⟨by omega, h.2⟩) (fun l => by rw [inA_cells])
structure OkS (S : Stt) : Prop where
  c : S.cells.length ≤ 140737488351232 ∧ ∀ a ∈ S.cells, okD a
  q : S.seqs.length ≤ 140737488351232 ∧ ∀ a ∈ S.seqs, okZ a
  l : S.locks.length ≤ 140737488351232 ∧ ∀ a ∈ S.locks, okK a
  a : S.applied.length * 8 ≤ 140737488351232
  g : okZ S.guilty
def stQ (s : Stt) : List AV := [.ex s.cells.length false (dsA s.cells), .ex s.seqs.length false (inA s.seqs), .ex s.locks.length false (lsA s.locks), .ex s.applied.length false (byA (flat s.applied)), .v (.int .i64 s.guilty)]
theorem opn_state : Opn Tryz.prog 31 5 OkS stQ := by
  have hM := opn_i64 Tryz.underlying26
  have hN := opn_names Tryz.underlying25 Tryz.underlying23 Tryz.underlying5 (by kernel_rfl) (by kernel_rfl) (by kernel_rfl)
  have h := Opn.struct (P := Tryz.prog) (t := 31) (k := 5) Tryz.underlying31 (by kernel_rfl)
    (OpnL.cons (k0 := 1) (k1 := 4) rfl (by kernel_rfl) opn_deltas (OpnL.cons (k0 := 1) (k1 := 3) rfl (by kernel_rfl) opn_ints (OpnL.cons (k0 := 1) (k1 := 2) rfl (by kernel_rfl) opn_locks (OpnL.cons (k0 := 1) (k1 := 1) rfl (by kernel_rfl) hN (OpnL.cons (k0 := 1) (k1 := 0) rfl (by kernel_rfl) hM OpnL.nil)))))
  exact h.map (fun x => ⟨x.1, x.2.1, x.2.2.1, x.2.2.2.1, x.2.2.2.2.1⟩) (fun x q => ⟨q.1, q.2.1, q.2.2.1, q.2.2.2.1, q.2.2.2.2.1⟩) (fun x => rfl)
structure Inc where
  i : Int
  n : Int
  p : List UInt64
end Go.Proofs.YtneeclacmhhblaaGreat


namespace Go.Proofs.YtneeclacmhhblaaGreat
open Go.ChangeShapes Go.WideShapes Go.ChangeAt Go.RowKit

def okI (a : Int) : Prop := -9223372036854775808 ≤ a ∧ a ≤ 9223372036854775807
def okV (v : Vt) : Prop := okI v.kind ∧ okI v.slot ∧ okI v.round ∧ okI v.choice ∧ okI v.signer ∧ okI v.support
theorem opn_vote : Opn Tryz.prog 87 22 okV (fun v => (voteC v).toList.map AV.v) := by
  have hI := opn_i64 Tryz.underlying3
  have hM := opn_i64 Tryz.underlying26
  have hN := opn_name Tryz.underlying23 Tryz.underlying5 (by kernel_rfl) (by kernel_rfl)
  have h := Opn.struct (P := Tryz.prog) (t := 87) (k := 22) Tryz.underlying87 (by kernel_rfl)
    (OpnL.cons (k0 := 1) (k1 := 21) rfl (by kernel_rfl) hI (OpnL.cons (k0 := 1) (k1 := 20) rfl (by kernel_rfl) hI (OpnL.cons (k0 := 1) (k1 := 19) rfl (by kernel_rfl) hI (OpnL.cons (k0 := 1) (k1 := 18) rfl (by kernel_rfl) hI (OpnL.cons (k0 := 1) (k1 := 17) rfl (by kernel_rfl) hI (OpnL.cons (k0 := 1) (k1 := 16) rfl (by kernel_rfl) hM (OpnL.cons (k0 := 8) (k1 := 8) rfl (by kernel_rfl) hN (OpnL.cons (k0 := 8) (k1 := 0) rfl (by kernel_rfl) hN OpnL.nil))))))))
  exact h.map (fun p => ⟨p.1, p.2.1, p.2.2.1, p.2.2.2.1, p.2.2.2.2.1, p.2.2.2.2.2.1, p.2.2.2.2.2.2.1, p.2.2.2.2.2.2.2.1⟩) (fun p q => ⟨q.1, q.2.1, q.2.2.1, q.2.2.2.1, q.2.2.2.2.1, q.2.2.2.2.2.1⟩) (fun p => rfl)
end Go.Proofs.YtneeclacmhhblaaGreat


namespace Go.Proofs.YtneeclacmhhblaaGreat
open Go.ChangeShapes Go.WideShapes Go.ChangeAt Go.RowKit
theorem Opn.slice0 {P : Program} {t e : TypeId} (ht : P.underlying t = some (.slice e)) : Opn P t 1 (fun n : Nat => n * P.bytesOf e ≤ reachBytes) (fun n => [.ex n false []]) := by
  intro H enc w base held fuel cs x hx hw
  rcases DataW.trod_slice ht hx with ⟨rfl, rfl⟩ | ⟨a, len, cap, elems, rest, n, _, rfl, rfl, hb, hlc, hm, hel, hg, hs, _⟩
  · exact ⟨0, by simp, rfl, RVs.one (.ex0 _ _ _ _ (Nat.le_refl _) (fun h => by cases h))⟩
  · simp only [DataW.weights, ht, List.mem_cons, List.mem_append] at hw
    have hsz := hw _ (.inl rfl)
    have hlen : (elems.map (·.1)).length * P.bytesOf e ≤ reachBytes := Nat.le_trans (Nat.mul_le_mul_right _ (Nat.le_add_right _ _)) hsz
    refine ⟨len, ?_, rfl, RVs.one (.ex0 _ _ _ _ hlc (fun h => by cases h))⟩
    rw [List.length_map, hel] at hlen
    exact hlen
theorem reach_val : reachBytes = 140737488351232 := rfl
def okR (r : Rc) : Prop := okZ r.c ∧ r.e ≤ 140737488351232 ∧ okZ r.o ∧ okZ r.g
theorem opn_receipt : Opn Tryz.prog 73 4 okR rcA := by
  have hI := opn_i64 Tryz.underlying3
  have hM := opn_i64 Tryz.underlying26
  have hE := opn_i64 Tryz.underlying71
  have hD := Opn.slice0 Tryz.underlying27
  have hb : Tryz.prog.bytesOf 138 = 32 := by kernel_rfl
  rw [hb, reach_val] at hD
  have h := Opn.struct (P := Tryz.prog) (t := 73) (k := 4) Tryz.underlying73 (by kernel_rfl)
    (OpnL.cons (k0 := 1) (k1 := 3) rfl (by kernel_rfl) hE (OpnL.cons (k0 := 1) (k1 := 2) rfl (by kernel_rfl) hD (OpnL.cons (k0 := 1) (k1 := 1) rfl (by kernel_rfl) hI (OpnL.cons (k0 := 1) (k1 := 0) rfl (by kernel_rfl) hM OpnL.nil))))
  exact h.map (fun p => (⟨p.1, p.2.1, p.2.2.1, p.2.2.2.1⟩ : Rc)) (fun p q => ⟨q.1, by have := q.2.1; show p.2.1 ≤ _; omega, q.2.2.1, q.2.2.2.1⟩) (fun p => rfl)
theorem opn_receipts : Opn Tryz.prog 33 1 (fun l : List Rc => l.length ≤ 140737488351232 ∧ ∀ a ∈ l, okR a) (fun l => [.ex l.length false (rcsA l)]) :=
  (Opn.slice Tryz.underlying33 (by kernel_rfl) opn_receipt).map (fun l => l) (fun l h => by
    have hb : Tryz.prog.bytesOf 73 = 48 := by kernel_rfl
    have := h.1
    rw [hb, reach_val] at this
    exact ⟨by omega, h.2⟩) (fun l => rfl)
structure OkI (x : It) : Prop where
  k : okZ x.k
  h : okZ x.h
  hd : x.hd ≤ 140737488351232
  tp : x.tp ≤ 140737488351232
  cm : okZ x.cm
  st : OkS x.st
  rc : x.rc.length ≤ 140737488351232 ∧ ∀ a ∈ x.rc, okR a
theorem opn_item : Opn Tryz.prog 35 28 OkI itA := by
  have hI := opn_i64 Tryz.underlying3
  have hN := opn_name Tryz.underlying23 Tryz.underlying5 (by kernel_rfl) (by kernel_rfl)
  have hM := opn_i64 Tryz.underlying26
  have hH := Opn.slice0 Tryz.underlying24
  have hT := Opn.slice0 Tryz.underlying25
  have hX := Opn.slice0 Tryz.underlying32
  have hb1 : Tryz.prog.bytesOf 200 = 16 := by kernel_rfl
  have hb2 : Tryz.prog.bytesOf 23 = 8 := by kernel_rfl
  rw [hb1, reach_val] at hH
  rw [hb2, reach_val] at hT
  have h := Opn.struct (P := Tryz.prog) (t := 35) (k := 28) Tryz.underlying35 (by kernel_rfl)
    (OpnL.cons (k0 := 8) (k1 := 20) rfl (by kernel_rfl) hN (OpnL.cons (k0 := 1) (k1 := 19) rfl (by kernel_rfl) hI (OpnL.cons (k0 := 1) (k1 := 18) rfl (by kernel_rfl) hI
    (OpnL.cons (k0 := 8) (k1 := 10) rfl (by kernel_rfl) hN (OpnL.cons (k0 := 1) (k1 := 9) rfl (by kernel_rfl) hH (OpnL.cons (k0 := 1) (k1 := 8) rfl (by kernel_rfl) hT
    (OpnL.cons (k0 := 1) (k1 := 7) rfl (by kernel_rfl) hM (OpnL.cons (k0 := 5) (k1 := 2) rfl (by kernel_rfl) opn_state (OpnL.cons (k0 := 1) (k1 := 1) rfl (by kernel_rfl) hX (OpnL.cons (k0 := 1) (k1 := 0) rfl (by kernel_rfl) opn_receipts OpnL.nil))))))))))
  exact h.map (fun p => (⟨p.1, p.2.1, p.2.2.1, p.2.2.2.1, p.2.2.2.2.1, p.2.2.2.2.2.1, p.2.2.2.2.2.2.1, p.2.2.2.2.2.2.2.1, p.2.2.2.2.2.2.2.2.1, p.2.2.2.2.2.2.2.2.2.1⟩ : It))
    (fun p q => ⟨q.2.1, q.2.2.1, by have := q.2.2.2.2.1; show p.2.2.2.2.1 ≤ _; omega, by have := q.2.2.2.2.2.1; show p.2.2.2.2.2.1 ≤ _; omega, q.2.2.2.2.2.2.1, q.2.2.2.2.2.2.2.1, q.2.2.2.2.2.2.2.2.2.1⟩) (fun p => rfl)
theorem opn_items : Opn Tryz.prog 37 1 (fun l : List It => l.length ≤ 140737488351232 ∧ ∀ a ∈ l, OkI a) (fun l => [.ex l.length false (itsA l)]) :=
  (Opn.slice Tryz.underlying37 (by kernel_rfl) opn_item).map (fun l => l) (fun l h => by
    have hb : Tryz.prog.bytesOf 35 = 240 := by kernel_rfl
    have := h.1
    rw [hb, reach_val] at this
    exact ⟨by omega, h.2⟩) (fun l => rfl)
theorem opn_votes : Opn Tryz.prog 41 1 (fun l : List Vt => l.length ≤ 140737488351232 ∧ ∀ a ∈ l, okV a) (fun l => [.ex l.length false (vtsA l)]) :=
  (Opn.slice Tryz.underlying41 (by kernel_rfl) opn_vote).map (fun l => l) (fun l h => by
    have hb : Tryz.prog.bytesOf 87 = 64 := by kernel_rfl
    have := h.1
    rw [hb, reach_val] at this
    exact ⟨by omega, h.2⟩) (fun l => rfl)
end Go.Proofs.YtneeclacmhhblaaGreat

