/-
  Texts laid together: Bs, Rs, Cm, A26, Kn, Hk, Hn, Vx, Hv, Lv26, Opg, Op21, Opv7, Op26. Conditions: as told in each.
-/
import Derived.Test.YtneeclacmhhblaaGreatKV4
set_option linter.unusedSimpArgs false
set_option linter.unusedVariables false
set_option linter.unusedSectionVars false
/-
  Layer 26, seal: the highest item that is locked, or final. Conditions: lengths below 2^20, states of at most 100000 entries each.
-/
namespace Go.Proofs.YtneeclacmhhblaaGreat
open Go.RowKit
open Nat (reduceAdd reduceMul reduceSub)

def hiB (b y : It) : Bool := decide (y.h < b.h) || (decide (y.h = b.h) && decide (0 ≤ cmpN y.n b.n))
def hiOne (p : UInt64 → Bool) (l : List It) (best : Option It) (x : It) : Option It := match itOf l x.n with
  | none => best
  | some y => if p x.n = true then (match best with | none => some y | some b => if hiB b y = true then best else some y) else best
def hiN (p : UInt64 → Bool) (l : List It) (i : Nat) : Option It := (l.take i).foldl (hiOne p l) none
def hiF (p : UInt64 → Bool) (l : List It) : UInt64 := ((hiN p l l.length).getD It0).n
theorem hiN_next {p : UInt64 → Bool} {l : List It} {i : Nat} {x : It} (h : l[i]? = some x) : hiN p l (i + 1) = hiOne p l (hiN p l i) x := by
  obtain ⟨hl, e⟩ := List.getElem?_eq_some_iff.1 h
  rw [hiN, List.take_succ_eq_append_getElem hl, List.foldl_append, e]; rfl
theorem hiOne_no {p : UInt64 → Bool} {l : List It} {best : Option It} {x z : It} (hz : itOf l x.n = some z) (h : p x.n = false) : hiOne p l best x = best := by
  unfold hiOne; rw [hz]; dsimp only; rw [if_neg (by rw [h]; simp)]
theorem hiOne_first {p : UInt64 → Bool} {l : List It} {x z : It} (hz : itOf l x.n = some z) (h : p x.n = true) : hiOne p l none x = some z := by
  unfold hiOne; rw [hz]; dsimp only; rw [if_pos h]
theorem hiOne_keep {p : UInt64 → Bool} {l : List It} {b x z : It} (hz : itOf l x.n = some z) (h : hiB b z = true) : hiOne p l (some b) x = some b := by
  unfold hiOne; rw [hz]; dsimp only; split <;> rfl
theorem hiOne_new {p : UInt64 → Bool} {l : List It} {b x z : It} (hz : itOf l x.n = some z) (h : p x.n = true) (hb : hiB b z = false) : hiOne p l (some b) x = some z := by
  unfold hiOne; rw [hz]; dsimp only; rw [if_pos h, if_neg (by rw [hb]; simp)]
section
variable (S : List UInt8 → UInt64) (hS : HashF S)
include hS
theorem baseFn_ok (l : List It) (vs : List Vt) (f : Bool) (K : List (UInt64 × Stu)) (n : UInt64) (hl : l.length ≤ 1000000) (hsm : ∀ x ∈ l, Sm x.st) (hK : KnOk S l vs K) (g : Int) :
    Acts Tryz.prog 81 [bookB l vs f, knB K, ⟨[.pt 0 0], 66, 1⟩, ⟨[.v (.int .i64 g)], 26, 1⟩] [.v (.agg (nameC n)), .pt 2 0, .pt 3 0] (.v (.bool (lockedB (stqN S l vs n) g))) [some (bookB l vs f), some (knB (knF S l vs K n)), some ⟨[.pt 0 0], 66, 1⟩, some ⟨[.v (.int .i64 g)], 26, 1⟩] := by
  have h := blocked_ok S hS l vs f K n hl hsm hK g
  generalize knF S l vs K n = K2 at h ⊢
  generalize lockedB (stqN S l vs n) g = r at h ⊢
  refine Acts.of (fn := Tryz.f81) Tryz.func81 rfl (lb rfl) (lb rfl) fun w bl hid loc => ?_
  (apply Gol.sr; apply t1; exact s_box rfl rfl; apply t0; exact s_assign rfl; dsimp only [reduceAdd, reduceMul]; exact dn; exact rfl; apply Gol.sr
   apply t0; exact s_load rfl rfl rfl; apply t0; exact s_load rfl rfl rfl; apply t0; exact s_loadW rfl rfl rfl (agu_cuv _); dsimp only [reduceAdd, reduceMul, reduceSub, na, ca, nbk, mc, ml]
   apply tq; apply s_acts (f := 65) [0, 1] rfl inferInstance; exact h; apply evs.cons rfl
   apply evs.cons rfl; apply evs.cons rfl; exact evs.nil; exact rfl; apply ABs.cons; exact rfl; exact rfl; exact rfl; apply RenL.cons; exact Ren.clo inferInstance
   apply RenL.cons; exact Ren.clo inferInstance; apply RenL.cons; exact Ren.clo inferInstance; apply RenL.cons; exact Ren.clo inferInstance; apply RenL.cons
   apply Ren.mp; exact CaR.old rfl; exact RenL.nil; apply ABs.cons; exact rfl; exact rfl; exact rfl; exact RenL.clo; exact ABs.nil; dsimp only [List.cons_append, List.nil_append, List.append_nil]
   apply RenL.cons; apply Ren.pt; exact CaR.old rfl; apply RenL.cons; exact Ren.clo inferInstance; apply RenL.cons; exact Ren.clo inferInstance; exact RenL.nil
   exact Ren.clo inferInstance; apply HRen.kept; exact CaR.old rfl; apply RenL.cons; exact Ren.clo inferInstance; apply RenL.cons; exact Ren.clo inferInstance
   apply RenL.cons; exact Ren.clo inferInstance; apply RenL.cons; exact Ren.clo inferInstance; apply RenL.cons; apply Ren.mp; exact CaR.old rfl; exact RenL.nil
   apply HRen.kept; exact CaR.old rfl; exact RenL.clo; exact HRen.nil; exact lb rfl; dsimp only [reduceAdd, reduceMul, reduceSub, na, ca, nbk, nones, mc, ml]
   apply t0; exact s_assign rfl; dsimp only [reduceAdd, reduceMul]; exact dn; exact rfl; refine Gol.ret ?_)
  (apply RetA.mk [0, 1, 2, 3] (by first | exact .inr rfl | exact .inl rfl); apply res_1 rfl; exact res_tmp rfl; exact rfl; exact rfl; exact rfl; apply OAs.kept
   exact rfl; exact rfl; exact rfl; apply RenL.cons; exact Ren.clo inferInstance; apply RenL.cons; exact Ren.clo inferInstance; apply RenL.cons; exact Ren.clo inferInstance
   apply RenL.cons; exact Ren.clo inferInstance; apply RenL.cons; apply Ren.mp; exact IdR.mk rfl; exact RenL.nil; apply OAs.kept; exact rfl; exact rfl; exact rfl
   exact RenL.clo; apply OAs.kept; exact rfl; exact rfl; exact rfl; apply RenL.cons; apply Ren.pt; exact IdR.mk rfl; exact RenL.nil; apply OAs.kept; exact rfl
   exact rfl; exact rfl; exact RenL.clo; exact OAs.nil; exact Ren.clo inferInstance)
set_option maxHeartbeats 3200000 in
theorem baseHi_ok (l : List It) (vs : List Vt) (f : Bool) (K : List (UInt64 × Stu)) (hl : l.length ≤ 1000000) (hsm : ∀ x ∈ l, Sm x.st) (hK : KnOk S l vs K) (g : Int) :
    Acts Tryz.prog 80 [bookB l vs f, knB K, ⟨[.pt 0 0], 66, 1⟩, ⟨[.v (.int .i64 g)], 26, 1⟩] [.pt 0 0, .fn 81 [.pt 2 0, .pt 3 0]] (.v (.agg (nameC (hiF (fun n => lockedB (stqN S l vs n) g) l)))) [none, none, none, none] := by
  have hF : ∀ K n, KnOk S l vs K → _ := fun K n hK => baseFn_ok S hS l vs f K n hl hsm hK g
  unfold hiF
  generalize hp : (fun n => lockedB (stqN S l vs n) g) = p
  have hpn : ∀ n, lockedB (stqN S l vs n) g = p n := fun n => by rw [← hp]
  clear hp
  refine Acts.of (fn := Tryz.f80) Tryz.func80 rfl (lb rfl) (lb rfl) fun w bl hid loc => ?_
  (apply Gol.sr; apply t1; exact s_alloc; dsimp only [reduceAdd, reduceMul]; exact dn; exact rfl; apply Gol.sr; apply t1; exact s_alloc; dsimp only [reduceAdd, reduceMul]
   exact dn; exact rfl; apply Gol.sr; apply t0; exact s_assign rfl; dsimp only [reduceAdd, reduceMul]; exact dn; exact rfl; refine Gol.seq ?_
   apply Gol.sr; apply t0; exact s_move rfl; apply t0; exact s_nilCheck rfl rfl; apply t0; exact s_fieldAddr rfl; apply t0; exact s_load rfl rfl rfl; apply t0
   exact s_len rfl ln_ex; apply t0; exact s_move rfl; dsimp only [reduceAdd, reduceMul]; exact dn; exact rfl; refine Gol.block ?_)
  refine Gol.le (Le.tell (B := 16) (itA It0) 35 28 rfl rfl wk_It0) ?_
  refine Gol.loop (ι := Nat × List (UInt64 × Stu)) (fun q => q.1 ≤ l.length ∧ KnOk S l vs q.2) (fun q => l.length - q.1) 600
    (fun q => [(0, some (bookB l vs f)), (1, some (knB q.2)), (2, some ⟨[.pt 0 0], 66, 1⟩), (3, some ⟨[.v (.int .i64 g)], 26, 1⟩), (8, some ⟨[.v (.int .u8 0), .v (.int .u8 0), .v (.int .u8 0), .v (.int .u8 0), .v (.int .u8 0), .v (.int .u8 0), .v (.int .u8 0), .v (.int .u8 0)], 23, 8⟩), (16, some ⟨itA ((hiN p l q.1).getD It0), 35, 28⟩)])
    (fun q => [(1, .fn 81 [.pt 2 0, .pt 3 0]), (0, .pt 0 0), (4, .pt 8 0), (5, .pt 16 0), (6, .v (.bool (hiN p l q.1).isSome)), (14, .ex l.length f (itsA l)), (15, .v (.int .i64 (l.length : Int))), (16, .v (.int .i64 (q.1 : Int)))]) (0, K) ⟨Nat.zero_le _, hK⟩ ?_ ?_
  · refine Le.fn2 rfl rfl rfl ?_
    (apply Le.mk3' []; apply RnT3.c; exact rfl; apply Rn3.r; exact Rn.pt rfl rfl; apply RnT3.c; exact rfl; apply Rn3.r; exact Rn.pt rfl rfl; apply RnT3.c; exact rfl
     apply Rn3.r; exact Rn.pt rfl rfl; apply RnT3.c; exact rfl; apply Rn3.r; exact Rn.v rfl; apply RnT3.c; exact rfl; apply Rn3.r; exact Rn.clo inferInstance rfl
     apply RnT3.c; exact rfl; apply Rn3.r; exact Rn.v rfl; apply RnT3.c; exact rfl; apply Rn3.r; exact Rn.v rfl; exact RnT3.n; apply RnH3.c; exact rfl; exact rfl
     apply RnC.l; apply Rn3L.cons; apply Rn3.r; exact Rn.clo inferInstance rfl; apply Rn3L.cons; apply Rn3.r; exact Rn.clo inferInstance rfl; apply Rn3L.cons
     apply Rn3.r; exact Rn.clo inferInstance rfl; apply Rn3L.cons; apply Rn3.r; exact Rn.clo inferInstance rfl; apply Rn3L.cons; apply Rn3.r; exact Rn.mp rfl
     exact Rn3L.nil; exact rfl; exact rfl; apply RnH3.c; exact rfl; exact rfl; apply RnC.cl; rfl; exact inferInstance; exact rfl; exact rfl; apply RnH3.c; exact rfl
     exact rfl; apply RnC.l; apply Rn3L.cons; apply Rn3.r; exact Rn.pt rfl rfl; exact Rn3L.nil; exact rfl; exact rfl; apply RnH3.c; exact rfl; exact rfl; apply RnC.cl
     rfl; exact inferInstance; exact rfl; exact rfl; apply RnH3.c; exact rfl; exact rfl; apply RnC.cl; rfl; exact inferInstance; exact rfl; exact rfl; apply RnH3.c
     exact rfl; exact rfl; apply RnC.cl; rfl; exact inferInstance; exact rfl; exact rfl; exact RnH3.n; exact rfl; exact rfl)
  rintro ⟨i, K⟩ ⟨hi, hK⟩
  dsimp only at hi hK ⊢
  (apply Gol.sr; apply t0; exact s_ltn rfl rfl; dsimp only [reduceAdd, reduceMul]; exact dn; exact rfl; refine Gol.seq ?_)
  refine Gol.cond rfl (fun h => ?_) (fun h => ?_)
  rotate_left
  · have hge : ¬ i < l.length := of_decide_eq_false h
    obtain rfl : i = l.length := by omega
    generalize (hiN p l l.length).getD It0 = z
    (refine Gol.exit ?_; refine thn_x ?_; refine rnd_x ?_; refine inBlk_hit ?_; refine thn_n ?_
     apply Gol.sr; apply t0; exact s_fieldAddr rfl; apply t0; exact s_loadN rfl rfl (lb rfl) (agu_nm8 rfl); apply n1; exact s_storeW rfl rfl rfl rfl rfl rfl
     dsimp only [reduceAdd, reduceMul]; exact dn; exact rfl; refine Gol.ret ?_)
    (apply RetA.mk [0, 1, 2, 3] (by first | exact .inr rfl | exact .inl rfl); apply res_1 rfl; exact res_cell rfl rfl rfl (agu_cuv _); exact rfl; exact rfl
     exact rfl; apply OAs.gone; apply OAs.gone; apply OAs.gone; apply OAs.gone; exact OAs.nil; exact Ren.clo inferInstance)
  have hlt : i < l.length := of_decide_eq_true h
  have hx : l[i]? = some l[i] := List.getElem?_eq_getElem hlt
  generalize l[i] = x at hx
  have hN := hiN_next (p := p) hx
  generalize hiN p l i = best at hN ⊢
  obtain ⟨z, hz, hzn⟩ := itOf_some hx
  have hiz := item_yes l f x.n z hl hz
  have hc := hF K x.n hK
  have hK2 := knOk_next S hK x.n
  rw [hpn] at hc
  generalize knF S l vs K x.n = K2 at hc hK2
  (refine Gol.skip ?_; refine thn_n ?_; refine Gol.seq ?_; refine Gol.block ?_; apply Gol.sr
   apply t0; exact s_ixeD rfl rfl (by omega) (its_ne (by omega)) (its_at (by assumption)); apply t0; exact s_loadEN rfl (lb rfl) agu_it
   apply t1; exact s_alloc; apply n1; exact s_storeW rfl rfl rfl rfl rfl rfl; dsimp only [reduceAdd, reduceMul]; exact dn; exact rfl)
  (refine Gol.seq ?_; apply Gol.any; kernel_rfl; apply t0; exact s_move rfl; apply t0; exact s_nilCheck rfl rfl; apply t0
   exact s_fieldAddr rfl; apply t0; exact s_loadN rfl rfl (lb rfl) (agu_ag _); apply t0; exact s_fieldAddr rfl; apply t0; exact s_loadN rfl rfl (lb rfl) (agu_nm8 rfl)
   dsimp only [reduceAdd, reduceMul, reduceSub, na, ca, nbk, mc, ml]; apply tq; apply s_acts (f := 61) [] rfl inferInstance; exact hiz; apply evs.cons rfl; apply evs.cons rfl; exact evs.nil
   exact rfl; exact ABs.nil; dsimp only [List.cons_append, List.nil_append, List.append_nil]; exact RenL.clo; exact Ren.clo inferInstance; exact HRen.nil
   exact lb rfl; dsimp only [reduceAdd, reduceMul, reduceSub, na, ca, nbk, nones, mc, ml]
   apply t0; exact s_move rfl; apply t0; exact s_extract rfl rfl; apply t0; exact s_extract rfl rfl; apply t1; exact s_alloc; apply n1; exact s_storeW rfl rfl rfl rfl rfl rfl
   apply t0; exact s_assign rfl; dsimp only [reduceAdd, reduceMul]; exact dn; kernel_rfl; exact rfl; refine thn_n ?_)
  cases h1 : p x.n with
  | false =>
    rw [h1] at hc
    rw [hiOne_no hz h1] at hN
    (refine Gol.seq ?_; apply Gol.sr; apply t0; exact s_move rfl; apply t0; exact s_fieldAddr rfl; apply t0; exact s_loadN rfl rfl (lb rfl) (agu_nm8 rfl)
     dsimp only [reduceAdd, reduceMul, reduceSub, na, ca, nbk, mc, ml]; apply tq; apply s_acts (f := 81) [0, 1, 2, 3] rfl inferInstance; exact hc; apply evs.cons rfl; exact evs.nil; exact rfl
     apply ABs.cons; exact rfl; exact rfl; exact rfl; apply RenL.cons; exact Ren.clo inferInstance; apply RenL.cons; exact Ren.clo inferInstance; apply RenL.cons
     exact Ren.clo inferInstance; apply RenL.cons; exact Ren.clo inferInstance; apply RenL.cons; apply Ren.mp; exact CaR.old rfl; exact RenL.nil; apply ABs.cons
     exact rfl; exact rfl; exact rfl; exact RenL.clo; apply ABs.cons; exact rfl; exact rfl; exact rfl; apply RenL.cons; apply Ren.pt; exact CaR.old rfl; exact RenL.nil
     apply ABs.cons; exact rfl; exact rfl; exact rfl; exact RenL.clo; exact ABs.nil; dsimp only [List.cons_append, List.nil_append, List.append_nil]; apply RenL.cons
     exact Ren.clo inferInstance; apply RenL.cons; apply Ren.pt; exact CaR.old rfl; apply RenL.cons; apply Ren.pt; exact CaR.old rfl; exact RenL.nil; exact Ren.clo inferInstance
     apply HRen.kept; exact CaR.old rfl; apply RenL.cons; exact Ren.clo inferInstance; apply RenL.cons; exact Ren.clo inferInstance; apply RenL.cons; exact Ren.clo inferInstance
     apply RenL.cons; exact Ren.clo inferInstance; apply RenL.cons; apply Ren.mp; exact CaR.old rfl; exact RenL.nil; apply HRen.kept; exact CaR.old rfl; exact RenL.clo
     apply HRen.kept; exact CaR.old rfl; apply RenL.cons; apply Ren.pt; exact CaR.old rfl; exact RenL.nil; apply HRen.kept; exact CaR.old rfl; exact RenL.clo
     exact HRen.nil; exact lb rfl; dsimp only [reduceAdd, reduceMul, reduceSub, na, ca, nbk, nones, mc, ml]
     apply t0; exact s_not rfl; apply t0; exact s_move rfl; apply sk; exact wnt_g rfl rfl rfl rfl; apply sk; exact wnt_g rfl rfl rfl rfl; apply sk; exact wnt_u rfl rfl rfl
     apply sk; exact wnt_u rfl rfl rfl; apply sk; exact wnt_u rfl rfl rfl; apply sk; exact wnt_u rfl rfl rfl; apply sk; exact wnt_u rfl rfl rfl; apply sk; exact wnt_u rfl rfl rfl
     apply sk; exact wnt_u rfl rfl rfl; apply sk; exact wnt_u rfl rfl rfl; apply sk; exact wnt_u rfl rfl rfl; apply sk; exact wnt_u rfl rfl rfl; apply sk; exact wnt_u rfl rfl rfl
     apply sk; exact wnt_u rfl rfl rfl; apply sk; exact wnt_u rfl rfl rfl; apply sk; exact wnt_u rfl rfl rfl; apply sk; exact wnt_u rfl rfl rfl; apply sk; exact wnt_u rfl rfl rfl
     apply sk; exact wnt_u rfl rfl rfl; apply sk; exact wnt_u rfl rfl rfl; apply sk; exact wnt_u rfl rfl rfl; apply sk; exact wnt_u rfl rfl rfl; apply sk; exact wnt_g rfl rfl rfl rfl
     apply t0; exact s_pick_t rfl rfl rfl; dsimp only [reduceAdd, reduceMul]; exact dn; exact rfl)
    refine Gol.cond_t rfl (by first | rfl | assumption) ?_
    (refine Gol.exit ?_; refine thn_x ?_; refine inBlk_hit ?_; refine thn_n ?_; apply Gol.region
     apply t0; exact s_addn rfl rfl (by simp <;> omega); apply t0; exact s_move rfl; dsimp only [reduceAdd, reduceMul]; exact dn; exact rfl)
    refine rnd_n (i + 1, K2) ⟨hlt, hK2⟩ (by dsimp only; omega) ?_
    dsimp only
    rw [hN]
    refine Le.fn2 rfl rfl rfl ?_
    (apply Le.mk3' []; apply RnT3.c; exact rfl; apply Rn3.r; exact Rn.pt rfl rfl; apply RnT3.c; exact rfl; apply Rn3.r; exact Rn.pt rfl rfl; apply RnT3.c; exact rfl
     apply Rn3.r; exact Rn.pt rfl rfl; apply RnT3.c; exact rfl; apply Rn3.r; exact Rn.v rfl; apply RnT3.c; exact rfl; apply Rn3.r; exact Rn.clo inferInstance rfl
     apply RnT3.c; exact rfl; apply Rn3.r; exact Rn.v rfl; apply RnT3.c; exact rfl; apply Rn3.r; exact Rn.v rfl; exact RnT3.n; apply RnH3.c; exact rfl; exact rfl
     apply RnC.l; apply Rn3L.cons; apply Rn3.r; exact Rn.clo inferInstance rfl; apply Rn3L.cons; apply Rn3.r; exact Rn.clo inferInstance rfl; apply Rn3L.cons
     apply Rn3.r; exact Rn.clo inferInstance rfl; apply Rn3L.cons; apply Rn3.r; exact Rn.clo inferInstance rfl; apply Rn3L.cons; apply Rn3.r; exact Rn.mp rfl
     exact Rn3L.nil; exact rfl; exact rfl; apply RnH3.c; exact rfl; exact rfl; apply RnC.cl; rfl; exact inferInstance; exact rfl; exact rfl; apply RnH3.c; exact rfl
     exact rfl; apply RnC.l; apply Rn3L.cons; apply Rn3.r; exact Rn.pt rfl rfl; exact Rn3L.nil; exact rfl; exact rfl; apply RnH3.c; exact rfl; exact rfl; apply RnC.cl
     rfl; exact inferInstance; exact rfl; exact rfl; apply RnH3.c; exact rfl; exact rfl; apply RnC.cl; rfl; exact inferInstance; exact rfl; exact rfl; apply RnH3.c
     exact rfl; exact rfl; apply RnC.cl; rfl; exact inferInstance; exact rfl; exact rfl; exact RnH3.n; exact rfl; exact rfl)
  | true =>
    rw [h1] at hc
    cases best with
    | none =>
      rw [hiOne_first hz h1] at hN
      dsimp only [Option.isSome, Option.getD]
      (refine Gol.seq ?_; apply Gol.sr; apply t0; exact s_move rfl; apply t0; exact s_fieldAddr rfl; apply t0; exact s_loadN rfl rfl (lb rfl) (agu_nm8 rfl)
       dsimp only [reduceAdd, reduceMul, reduceSub, na, ca, nbk, mc, ml]; apply tq; apply s_acts (f := 81) [0, 1, 2, 3] rfl inferInstance; exact hc; apply evs.cons rfl; exact evs.nil; exact rfl
       apply ABs.cons; exact rfl; exact rfl; exact rfl; apply RenL.cons; exact Ren.clo inferInstance; apply RenL.cons; exact Ren.clo inferInstance; apply RenL.cons
       exact Ren.clo inferInstance; apply RenL.cons; exact Ren.clo inferInstance; apply RenL.cons; apply Ren.mp; exact CaR.old rfl; exact RenL.nil; apply ABs.cons
       exact rfl; exact rfl; exact rfl; exact RenL.clo; apply ABs.cons; exact rfl; exact rfl; exact rfl; apply RenL.cons; apply Ren.pt; exact CaR.old rfl; exact RenL.nil
       apply ABs.cons; exact rfl; exact rfl; exact rfl; exact RenL.clo; exact ABs.nil; dsimp only [List.cons_append, List.nil_append, List.append_nil]; apply RenL.cons
       exact Ren.clo inferInstance; apply RenL.cons; apply Ren.pt; exact CaR.old rfl; apply RenL.cons; apply Ren.pt; exact CaR.old rfl; exact RenL.nil; exact Ren.clo inferInstance
       apply HRen.kept; exact CaR.old rfl; apply RenL.cons; exact Ren.clo inferInstance; apply RenL.cons; exact Ren.clo inferInstance; apply RenL.cons; exact Ren.clo inferInstance
       apply RenL.cons; exact Ren.clo inferInstance; apply RenL.cons; apply Ren.mp; exact CaR.old rfl; exact RenL.nil; apply HRen.kept; exact CaR.old rfl; exact RenL.clo
       apply HRen.kept; exact CaR.old rfl; apply RenL.cons; apply Ren.pt; exact CaR.old rfl; exact RenL.nil; apply HRen.kept; exact CaR.old rfl; exact RenL.clo
       exact HRen.nil; exact lb rfl; dsimp only [reduceAdd, reduceMul, reduceSub, na, ca, nbk, nones, mc, ml]
       apply t0; exact s_not rfl; apply t0; exact s_move rfl; apply g0; exact wnt_g rfl rfl rfl rfl; exact s_move rfl; apply g0; exact wnt_g rfl rfl rfl rfl
       exact s_move rfl; apply sk; exact wnt_g rfl rfl rfl rfl; apply sk; exact wnt_g rfl rfl rfl rfl; apply sk; exact wnt_g rfl rfl rfl rfl; apply sk; exact wnt_g rfl rfl rfl rfl
       apply sk; exact wnt_g rfl rfl rfl rfl; apply sk; exact wnt_g rfl rfl rfl rfl; apply sk; exact wnt_u rfl rfl rfl; apply sk; exact wnt_u rfl rfl rfl; apply sk
       exact wnt_u rfl rfl rfl; apply sk; exact wnt_u rfl rfl rfl; apply sk; exact wnt_u rfl rfl rfl; apply sk; exact wnt_u rfl rfl rfl; apply sk; exact wnt_u rfl rfl rfl
       apply sk; exact wnt_u rfl rfl rfl; apply sk; exact wnt_u rfl rfl rfl; apply sk; exact wnt_u rfl rfl rfl; apply sk; exact wnt_u rfl rfl rfl; apply sk; exact wnt_u rfl rfl rfl
       apply sk; exact wnt_u rfl rfl rfl; apply sk; exact wnt_g rfl rfl rfl rfl; apply g0; exact wnt_g rfl rfl rfl rfl; exact s_pick_f rfl rfl rfl; apply t0
       exact s_pick_f rfl rfl rfl; dsimp only [reduceAdd, reduceMul]; exact dn; exact rfl)
      refine Gol.cond_f rfl (by first | rfl | assumption) ?_
      (refine Gol.skip ?_; refine thn_n ?_; apply Gol.region; apply t0; exact s_loadW rfl rfl rfl (agu_cua _)
       apply n1; exact s_storeW rfl rfl rfl rfl rfl rfl; apply t0; exact s_assign rfl; dsimp only [reduceAdd, reduceMul]; exact dn; exact rfl; refine inBlk_n ?_
       refine thn_n ?_; apply Gol.region; apply t0; exact s_addn rfl rfl (by simp <;> omega); apply t0; exact s_move rfl; dsimp only [reduceAdd, reduceMul]
       exact dn; exact rfl)
      refine rnd_n (i + 1, K2) ⟨hlt, hK2⟩ (by dsimp only; omega) ?_
      dsimp only
      rw [hN]
      refine Le.fn2 rfl rfl rfl ?_
      (apply Le.mk3' []; apply RnT3.c; exact rfl; apply Rn3.r; exact Rn.pt rfl rfl; apply RnT3.c; exact rfl; apply Rn3.r; exact Rn.pt rfl rfl; apply RnT3.c; exact rfl
       apply Rn3.r; exact Rn.pt rfl rfl; apply RnT3.c; exact rfl; apply Rn3.r; exact Rn.v rfl; apply RnT3.c; exact rfl; apply Rn3.r; exact Rn.clo inferInstance rfl
       apply RnT3.c; exact rfl; apply Rn3.r; exact Rn.v rfl; apply RnT3.c; exact rfl; apply Rn3.r; exact Rn.v rfl; exact RnT3.n; apply RnH3.c; exact rfl; exact rfl
       apply RnC.l; apply Rn3L.cons; apply Rn3.r; exact Rn.clo inferInstance rfl; apply Rn3L.cons; apply Rn3.r; exact Rn.clo inferInstance rfl; apply Rn3L.cons
       apply Rn3.r; exact Rn.clo inferInstance rfl; apply Rn3L.cons; apply Rn3.r; exact Rn.clo inferInstance rfl; apply Rn3L.cons; apply Rn3.r; exact Rn.mp rfl
       exact Rn3L.nil; exact rfl; exact rfl; apply RnH3.c; exact rfl; exact rfl; apply RnC.cl; rfl; exact inferInstance; exact rfl; exact rfl; apply RnH3.c; exact rfl
       exact rfl; apply RnC.l; apply Rn3L.cons; apply Rn3.r; exact Rn.pt rfl rfl; exact Rn3L.nil; exact rfl; exact rfl; apply RnH3.c; exact rfl; exact rfl; apply RnC.cl
       rfl; exact inferInstance; exact rfl; exact rfl; apply RnH3.c; exact rfl; exact rfl; apply RnC.cl; rfl; exact inferInstance; exact rfl; exact rfl; apply RnH3.c
       exact rfl; exact rfl; apply RnC.cl; rfl; exact inferInstance; exact rfl; exact rfl; exact RnH3.n; exact rfl; exact rfl)
    | some b =>
      dsimp only [Option.isSome, Option.getD]
      by_cases h2 : z.h < b.h
      · have d2 : decide (z.h < b.h) = true := decide_eq_true h2
        rw [hiOne_keep hz (by unfold hiB; rw [d2]; rfl)] at hN
        (refine Gol.seq ?_; apply Gol.sr; apply t0; exact s_move rfl; apply t0; exact s_fieldAddr rfl; apply t0; exact s_loadN rfl rfl (lb rfl) (agu_nm8 rfl)
         dsimp only [reduceAdd, reduceMul, reduceSub, na, ca, nbk, mc, ml]; apply tq; apply s_acts (f := 81) [0, 1, 2, 3] rfl inferInstance; exact hc; apply evs.cons rfl; exact evs.nil; exact rfl
         apply ABs.cons; exact rfl; exact rfl; exact rfl; apply RenL.cons; exact Ren.clo inferInstance; apply RenL.cons; exact Ren.clo inferInstance; apply RenL.cons
         exact Ren.clo inferInstance; apply RenL.cons; exact Ren.clo inferInstance; apply RenL.cons; apply Ren.mp; exact CaR.old rfl; exact RenL.nil; apply ABs.cons
         exact rfl; exact rfl; exact rfl; exact RenL.clo; apply ABs.cons; exact rfl; exact rfl; exact rfl; apply RenL.cons; apply Ren.pt; exact CaR.old rfl; exact RenL.nil
         apply ABs.cons; exact rfl; exact rfl; exact rfl; exact RenL.clo; exact ABs.nil; dsimp only [List.cons_append, List.nil_append, List.append_nil]; apply RenL.cons
         exact Ren.clo inferInstance; apply RenL.cons; apply Ren.pt; exact CaR.old rfl; apply RenL.cons; apply Ren.pt; exact CaR.old rfl; exact RenL.nil; exact Ren.clo inferInstance
         apply HRen.kept; exact CaR.old rfl; apply RenL.cons; exact Ren.clo inferInstance; apply RenL.cons; exact Ren.clo inferInstance; apply RenL.cons; exact Ren.clo inferInstance
         apply RenL.cons; exact Ren.clo inferInstance; apply RenL.cons; apply Ren.mp; exact CaR.old rfl; exact RenL.nil; apply HRen.kept; exact CaR.old rfl; exact RenL.clo
         apply HRen.kept; exact CaR.old rfl; apply RenL.cons; apply Ren.pt; exact CaR.old rfl; exact RenL.nil; apply HRen.kept; exact CaR.old rfl; exact RenL.clo
         exact HRen.nil; exact lb rfl; dsimp only [reduceAdd, reduceMul, reduceSub, na, ca, nbk, nones, mc, ml]
         apply t0; exact s_not rfl; apply t0; exact s_move rfl; apply g0; exact wnt_g rfl rfl rfl rfl; exact s_move rfl; apply g0; exact wnt_g rfl rfl rfl rfl
         exact s_move rfl; apply g0; exact wnt_g rfl rfl rfl rfl; exact s_fieldAddr rfl; apply g0; exact wnt_g rfl rfl rfl rfl; exact s_load rfl rfl rfl; apply g0
         exact wnt_g rfl rfl rfl rfl; exact s_fieldAddr rfl; apply g0; exact wnt_g rfl rfl rfl rfl; exact s_load rfl rfl rfl; apply g0; exact wnt_g rfl rfl rfl rfl
         exact s_lt rfl rfl; apply g0; exact wnt_g rfl rfl rfl rfl; exact s_move rfl; apply sk; exact wnt_g rfl rfl rfl (by focus (simp only [*]; rfl)); apply sk
         exact wnt_g rfl rfl rfl (by focus (simp only [*]; rfl)); apply sk; exact wnt_g rfl rfl rfl (by focus (simp only [*]; rfl)); apply sk; exact wnt_g rfl rfl rfl (by focus (simp only [*]; rfl))
         apply sk; exact wnt_g rfl rfl rfl (by focus (simp only [*]; rfl)); apply sk; exact wnt_g rfl rfl rfl (by focus (simp only [*]; rfl)); apply sk; exact wnt_u rfl rfl rfl
         apply sk; exact wnt_u rfl rfl rfl; apply sk; exact wnt_u rfl rfl rfl; apply sk; exact wnt_u rfl rfl rfl; apply sk; exact wnt_u rfl rfl rfl; apply sk; exact wnt_u rfl rfl rfl
         apply sk; exact wnt_g rfl rfl rfl (by focus (simp only [*]; rfl)); apply g0; exact wnt_g rfl rfl rfl rfl; exact s_pick_t rfl (by assumption) rfl; apply g0
         exact wnt_g rfl rfl rfl rfl; exact s_pick_t rfl rfl rfl; apply t0; exact s_pick_f rfl rfl rfl; dsimp only [reduceAdd, reduceMul]; exact dn; exact rfl)
        refine Gol.cond_t rfl (by first | rfl | assumption) ?_
        (refine Gol.exit ?_; refine thn_x ?_; refine inBlk_hit ?_; refine thn_n ?_; apply Gol.region
         apply t0; exact s_addn rfl rfl (by simp <;> omega); apply t0; exact s_move rfl; dsimp only [reduceAdd, reduceMul]; exact dn; exact rfl)
        refine rnd_n (i + 1, K2) ⟨hlt, hK2⟩ (by dsimp only; omega) ?_
        dsimp only
        rw [hN]
        refine Le.fn2 rfl rfl rfl ?_
        (apply Le.mk3' []; apply RnT3.c; exact rfl; apply Rn3.r; exact Rn.pt rfl rfl; apply RnT3.c; exact rfl; apply Rn3.r; exact Rn.pt rfl rfl; apply RnT3.c; exact rfl
         apply Rn3.r; exact Rn.pt rfl rfl; apply RnT3.c; exact rfl; apply Rn3.r; exact Rn.v rfl; apply RnT3.c; exact rfl; apply Rn3.r; exact Rn.clo inferInstance rfl
         apply RnT3.c; exact rfl; apply Rn3.r; exact Rn.v rfl; apply RnT3.c; exact rfl; apply Rn3.r; exact Rn.v rfl; exact RnT3.n; apply RnH3.c; exact rfl; exact rfl
         apply RnC.l; apply Rn3L.cons; apply Rn3.r; exact Rn.clo inferInstance rfl; apply Rn3L.cons; apply Rn3.r; exact Rn.clo inferInstance rfl; apply Rn3L.cons
         apply Rn3.r; exact Rn.clo inferInstance rfl; apply Rn3L.cons; apply Rn3.r; exact Rn.clo inferInstance rfl; apply Rn3L.cons; apply Rn3.r; exact Rn.mp rfl
         exact Rn3L.nil; exact rfl; exact rfl; apply RnH3.c; exact rfl; exact rfl; apply RnC.cl; rfl; exact inferInstance; exact rfl; exact rfl; apply RnH3.c; exact rfl
         exact rfl; apply RnC.l; apply Rn3L.cons; apply Rn3.r; exact Rn.pt rfl rfl; exact Rn3L.nil; exact rfl; exact rfl; apply RnH3.c; exact rfl; exact rfl; apply RnC.cl
         rfl; exact inferInstance; exact rfl; exact rfl; apply RnH3.c; exact rfl; exact rfl; apply RnC.cl; rfl; exact inferInstance; exact rfl; exact rfl; apply RnH3.c
         exact rfl; exact rfl; apply RnC.cl; rfl; exact inferInstance; exact rfl; exact rfl; exact RnH3.n; exact rfl; exact rfl)
      have d2 : decide (z.h < b.h) = false := decide_eq_false h2
      by_cases h3 : z.h = b.h
      · have d3 : decide (z.h = b.h) = true := decide_eq_true h3
        by_cases h4 : 0 ≤ cmpN z.n b.n
        · have d4 : decide (0 ≤ cmpN z.n b.n) = true := decide_eq_true h4
          rw [hiOne_keep hz (by unfold hiB; rw [d3, d4]; simp)] at hN
          (refine Gol.seq ?_; apply Gol.sr; apply t0; exact s_move rfl; apply t0; exact s_fieldAddr rfl; apply t0; exact s_loadN rfl rfl (lb rfl) (agu_nm8 rfl)
           dsimp only [reduceAdd, reduceMul, reduceSub, na, ca, nbk, mc, ml]; apply tq; apply s_acts (f := 81) [0, 1, 2, 3] rfl inferInstance; exact hc; apply evs.cons rfl; exact evs.nil; exact rfl
           apply ABs.cons; exact rfl; exact rfl; exact rfl; apply RenL.cons; exact Ren.clo inferInstance; apply RenL.cons; exact Ren.clo inferInstance; apply RenL.cons
           exact Ren.clo inferInstance; apply RenL.cons; exact Ren.clo inferInstance; apply RenL.cons; apply Ren.mp; exact CaR.old rfl; exact RenL.nil; apply ABs.cons
           exact rfl; exact rfl; exact rfl; exact RenL.clo; apply ABs.cons; exact rfl; exact rfl; exact rfl; apply RenL.cons; apply Ren.pt; exact CaR.old rfl; exact RenL.nil
           apply ABs.cons; exact rfl; exact rfl; exact rfl; exact RenL.clo; exact ABs.nil; dsimp only [List.cons_append, List.nil_append, List.append_nil]; apply RenL.cons
           exact Ren.clo inferInstance; apply RenL.cons; apply Ren.pt; exact CaR.old rfl; apply RenL.cons; apply Ren.pt; exact CaR.old rfl; exact RenL.nil; exact Ren.clo inferInstance
           apply HRen.kept; exact CaR.old rfl; apply RenL.cons; exact Ren.clo inferInstance; apply RenL.cons; exact Ren.clo inferInstance; apply RenL.cons; exact Ren.clo inferInstance
           apply RenL.cons; exact Ren.clo inferInstance; apply RenL.cons; apply Ren.mp; exact CaR.old rfl; exact RenL.nil; apply HRen.kept; exact CaR.old rfl; exact RenL.clo
           apply HRen.kept; exact CaR.old rfl; apply RenL.cons; apply Ren.pt; exact CaR.old rfl; exact RenL.nil; apply HRen.kept; exact CaR.old rfl; exact RenL.clo
           exact HRen.nil; exact lb rfl; dsimp only [reduceAdd, reduceMul, reduceSub, na, ca, nbk, nones, mc, ml]
           apply t0; exact s_not rfl; apply t0; exact s_move rfl; apply g0; exact wnt_g rfl rfl rfl rfl; exact s_move rfl; apply g0; exact wnt_g rfl rfl rfl rfl
           exact s_move rfl; apply g0; exact wnt_g rfl rfl rfl rfl; exact s_fieldAddr rfl; apply g0; exact wnt_g rfl rfl rfl rfl; exact s_load rfl rfl rfl; apply g0
           exact wnt_g rfl rfl rfl rfl; exact s_fieldAddr rfl; apply g0; exact wnt_g rfl rfl rfl rfl; exact s_load rfl rfl rfl; apply g0; exact wnt_g rfl rfl rfl rfl
           exact s_lt rfl rfl; apply g0; exact wnt_g rfl rfl rfl rfl; exact s_move rfl; apply g0; exact wnt_g rfl rfl rfl (by focus (simp [*]; done)); exact s_fieldAddr rfl
           apply g0; exact wnt_g rfl rfl rfl (by focus (simp [*]; done)); exact s_load rfl rfl rfl; apply g0; exact wnt_g rfl rfl rfl (by focus (simp [*]; done))
           exact s_fieldAddr rfl; apply g0; exact wnt_g rfl rfl rfl (by focus (simp [*]; done)); exact s_load rfl rfl rfl; apply g0; exact wnt_g rfl rfl rfl (by focus (simp [*]; done))
           exact s_eq rfl rfl; apply g0; exact wnt_g rfl rfl rfl (by focus (simp [*]; done)); exact s_move rfl; apply g0; exact wnt_g rfl rfl rfl (by focus (simp only [*]; rfl))
           exact s_fieldAddr rfl; apply g0; exact wnt_g rfl rfl rfl (by focus (simp only [*]; rfl)); exact s_loadN rfl rfl (lb rfl) (agu_nm8 rfl)
           apply g0; exact wnt_g rfl rfl rfl (by focus (simp only [*]; rfl)); exact s_fieldAddr rfl; apply g0; exact wnt_g rfl rfl rfl (by focus (simp only [*]; rfl))
           exact s_loadN rfl rfl (lb rfl) (agu_nm8 rfl); apply gq; exact wnt_g rfl rfl rfl (by focus (simp only [*]; rfl)); exact s_call (f := 116) rfl (evs.cons rfl (evs.cons rfl evs.nil)) (ArgL.cons arg_clo (ArgL.cons arg_clo ArgL.nil)) (cmpNm_ok _ _) (lb rfl)
           dsimp only [reduceAdd, reduceMul, reduceSub, na, ca, nbk, mc, ml]; apply g0; exact wnt_g rfl rfl rfl (by focus (simp only [*]; rfl))
           exact s_ge rfl rfl; apply g0; exact wnt_g rfl rfl rfl (by focus (simp [*]; done)); exact s_pick_t rfl (by assumption) rfl; apply g0; exact wnt_g rfl rfl rfl rfl
           exact s_pick_f rfl (by assumption) rfl; apply g0; exact wnt_g rfl rfl rfl rfl; exact s_pick_t rfl rfl rfl; apply t0; exact s_pick_f rfl rfl rfl; dsimp only [reduceAdd, reduceMul]
           exact dn; exact rfl)
          refine Gol.cond_t rfl (by first | rfl | assumption) ?_
          (refine Gol.exit ?_; refine thn_x ?_; refine inBlk_hit ?_; refine thn_n ?_; apply Gol.region
           apply t0; exact s_addn rfl rfl (by simp <;> omega); apply t0; exact s_move rfl; dsimp only [reduceAdd, reduceMul]; exact dn; exact rfl)
          refine rnd_n (i + 1, K2) ⟨hlt, hK2⟩ (by dsimp only; omega) ?_
          dsimp only
          rw [hN]
          refine Le.fn2 rfl rfl rfl ?_
          (apply Le.mk3' []; apply RnT3.c; exact rfl; apply Rn3.r; exact Rn.pt rfl rfl; apply RnT3.c; exact rfl; apply Rn3.r; exact Rn.pt rfl rfl; apply RnT3.c; exact rfl
           apply Rn3.r; exact Rn.pt rfl rfl; apply RnT3.c; exact rfl; apply Rn3.r; exact Rn.v rfl; apply RnT3.c; exact rfl; apply Rn3.r; exact Rn.clo inferInstance rfl
           apply RnT3.c; exact rfl; apply Rn3.r; exact Rn.v rfl; apply RnT3.c; exact rfl; apply Rn3.r; exact Rn.v rfl; exact RnT3.n; apply RnH3.c; exact rfl; exact rfl
           apply RnC.l; apply Rn3L.cons; apply Rn3.r; exact Rn.clo inferInstance rfl; apply Rn3L.cons; apply Rn3.r; exact Rn.clo inferInstance rfl; apply Rn3L.cons
           apply Rn3.r; exact Rn.clo inferInstance rfl; apply Rn3L.cons; apply Rn3.r; exact Rn.clo inferInstance rfl; apply Rn3L.cons; apply Rn3.r; exact Rn.mp rfl
           exact Rn3L.nil; exact rfl; exact rfl; apply RnH3.c; exact rfl; exact rfl; apply RnC.cl; rfl; exact inferInstance; exact rfl; exact rfl; apply RnH3.c; exact rfl
           exact rfl; apply RnC.l; apply Rn3L.cons; apply Rn3.r; exact Rn.pt rfl rfl; exact Rn3L.nil; exact rfl; exact rfl; apply RnH3.c; exact rfl; exact rfl; apply RnC.cl
           rfl; exact inferInstance; exact rfl; exact rfl; apply RnH3.c; exact rfl; exact rfl; apply RnC.cl; rfl; exact inferInstance; exact rfl; exact rfl; apply RnH3.c
           exact rfl; exact rfl; apply RnC.cl; rfl; exact inferInstance; exact rfl; exact rfl; exact RnH3.n; exact rfl; exact rfl)
        · have d4 : decide (0 ≤ cmpN z.n b.n) = false := decide_eq_false h4
          rw [hiOne_new hz h1 (by unfold hiB; rw [d2, d3, d4]; rfl)] at hN
          (refine Gol.seq ?_; apply Gol.sr; apply t0; exact s_move rfl; apply t0; exact s_fieldAddr rfl; apply t0; exact s_loadN rfl rfl (lb rfl) (agu_nm8 rfl)
           dsimp only [reduceAdd, reduceMul, reduceSub, na, ca, nbk, mc, ml]; apply tq; apply s_acts (f := 81) [0, 1, 2, 3] rfl inferInstance; exact hc; apply evs.cons rfl; exact evs.nil; exact rfl
           apply ABs.cons; exact rfl; exact rfl; exact rfl; apply RenL.cons; exact Ren.clo inferInstance; apply RenL.cons; exact Ren.clo inferInstance; apply RenL.cons
           exact Ren.clo inferInstance; apply RenL.cons; exact Ren.clo inferInstance; apply RenL.cons; apply Ren.mp; exact CaR.old rfl; exact RenL.nil; apply ABs.cons
           exact rfl; exact rfl; exact rfl; exact RenL.clo; apply ABs.cons; exact rfl; exact rfl; exact rfl; apply RenL.cons; apply Ren.pt; exact CaR.old rfl; exact RenL.nil
           apply ABs.cons; exact rfl; exact rfl; exact rfl; exact RenL.clo; exact ABs.nil; dsimp only [List.cons_append, List.nil_append, List.append_nil]; apply RenL.cons
           exact Ren.clo inferInstance; apply RenL.cons; apply Ren.pt; exact CaR.old rfl; apply RenL.cons; apply Ren.pt; exact CaR.old rfl; exact RenL.nil; exact Ren.clo inferInstance
           apply HRen.kept; exact CaR.old rfl; apply RenL.cons; exact Ren.clo inferInstance; apply RenL.cons; exact Ren.clo inferInstance; apply RenL.cons; exact Ren.clo inferInstance
           apply RenL.cons; exact Ren.clo inferInstance; apply RenL.cons; apply Ren.mp; exact CaR.old rfl; exact RenL.nil; apply HRen.kept; exact CaR.old rfl; exact RenL.clo
           apply HRen.kept; exact CaR.old rfl; apply RenL.cons; apply Ren.pt; exact CaR.old rfl; exact RenL.nil; apply HRen.kept; exact CaR.old rfl; exact RenL.clo
           exact HRen.nil; exact lb rfl; dsimp only [reduceAdd, reduceMul, reduceSub, na, ca, nbk, nones, mc, ml]
           apply t0; exact s_not rfl; apply t0; exact s_move rfl; apply g0; exact wnt_g rfl rfl rfl rfl; exact s_move rfl; apply g0; exact wnt_g rfl rfl rfl rfl
           exact s_move rfl; apply g0; exact wnt_g rfl rfl rfl rfl; exact s_fieldAddr rfl; apply g0; exact wnt_g rfl rfl rfl rfl; exact s_load rfl rfl rfl; apply g0
           exact wnt_g rfl rfl rfl rfl; exact s_fieldAddr rfl; apply g0; exact wnt_g rfl rfl rfl rfl; exact s_load rfl rfl rfl; apply g0; exact wnt_g rfl rfl rfl rfl
           exact s_lt rfl rfl; apply g0; exact wnt_g rfl rfl rfl rfl; exact s_move rfl; apply g0; exact wnt_g rfl rfl rfl (by focus (simp [*]; done)); exact s_fieldAddr rfl
           apply g0; exact wnt_g rfl rfl rfl (by focus (simp [*]; done)); exact s_load rfl rfl rfl; apply g0; exact wnt_g rfl rfl rfl (by focus (simp [*]; done))
           exact s_fieldAddr rfl; apply g0; exact wnt_g rfl rfl rfl (by focus (simp [*]; done)); exact s_load rfl rfl rfl; apply g0; exact wnt_g rfl rfl rfl (by focus (simp [*]; done))
           exact s_eq rfl rfl; apply g0; exact wnt_g rfl rfl rfl (by focus (simp [*]; done)); exact s_move rfl; apply g0; exact wnt_g rfl rfl rfl (by focus (simp only [*]; rfl))
           exact s_fieldAddr rfl; apply g0; exact wnt_g rfl rfl rfl (by focus (simp only [*]; rfl)); exact s_loadN rfl rfl (lb rfl) (agu_nm8 rfl)
           apply g0; exact wnt_g rfl rfl rfl (by focus (simp only [*]; rfl)); exact s_fieldAddr rfl; apply g0; exact wnt_g rfl rfl rfl (by focus (simp only [*]; rfl))
           exact s_loadN rfl rfl (lb rfl) (agu_nm8 rfl); apply gq; exact wnt_g rfl rfl rfl (by focus (simp only [*]; rfl)); exact s_call (f := 116) rfl (evs.cons rfl (evs.cons rfl evs.nil)) (ArgL.cons arg_clo (ArgL.cons arg_clo ArgL.nil)) (cmpNm_ok _ _) (lb rfl)
           dsimp only [reduceAdd, reduceMul, reduceSub, na, ca, nbk, mc, ml]; apply g0; exact wnt_g rfl rfl rfl (by focus (simp only [*]; rfl))
           exact s_ge rfl rfl; apply g0; exact wnt_g rfl rfl rfl (by focus (simp [*]; done)); exact s_pick_t rfl (by assumption) rfl; apply g0; exact wnt_g rfl rfl rfl rfl
           exact s_pick_f rfl (by assumption) rfl; apply g0; exact wnt_g rfl rfl rfl rfl; exact s_pick_t rfl rfl rfl; apply t0; exact s_pick_f rfl rfl rfl; dsimp only [reduceAdd, reduceMul]
           exact dn; exact rfl)
          refine Gol.cond_f rfl (by first | rfl | assumption) ?_
          (refine Gol.skip ?_; refine thn_n ?_; apply Gol.region; apply t0; exact s_loadW rfl rfl rfl (agu_cua _)
           apply n1; exact s_storeW rfl rfl rfl rfl rfl rfl; apply t0; exact s_assign rfl; dsimp only [reduceAdd, reduceMul]; exact dn; exact rfl; refine inBlk_n ?_
           refine thn_n ?_; apply Gol.region; apply t0; exact s_addn rfl rfl (by simp <;> omega); apply t0; exact s_move rfl; dsimp only [reduceAdd, reduceMul]
           exact dn; exact rfl)
          refine rnd_n (i + 1, K2) ⟨hlt, hK2⟩ (by dsimp only; omega) ?_
          dsimp only
          rw [hN]
          refine Le.fn2 rfl rfl rfl ?_
          (apply Le.mk3' []; apply RnT3.c; exact rfl; apply Rn3.r; exact Rn.pt rfl rfl; apply RnT3.c; exact rfl; apply Rn3.r; exact Rn.pt rfl rfl; apply RnT3.c; exact rfl
           apply Rn3.r; exact Rn.pt rfl rfl; apply RnT3.c; exact rfl; apply Rn3.r; exact Rn.v rfl; apply RnT3.c; exact rfl; apply Rn3.r; exact Rn.clo inferInstance rfl
           apply RnT3.c; exact rfl; apply Rn3.r; exact Rn.v rfl; apply RnT3.c; exact rfl; apply Rn3.r; exact Rn.v rfl; exact RnT3.n; apply RnH3.c; exact rfl; exact rfl
           apply RnC.l; apply Rn3L.cons; apply Rn3.r; exact Rn.clo inferInstance rfl; apply Rn3L.cons; apply Rn3.r; exact Rn.clo inferInstance rfl; apply Rn3L.cons
           apply Rn3.r; exact Rn.clo inferInstance rfl; apply Rn3L.cons; apply Rn3.r; exact Rn.clo inferInstance rfl; apply Rn3L.cons; apply Rn3.r; exact Rn.mp rfl
           exact Rn3L.nil; exact rfl; exact rfl; apply RnH3.c; exact rfl; exact rfl; apply RnC.cl; rfl; exact inferInstance; exact rfl; exact rfl; apply RnH3.c; exact rfl
           exact rfl; apply RnC.l; apply Rn3L.cons; apply Rn3.r; exact Rn.pt rfl rfl; exact Rn3L.nil; exact rfl; exact rfl; apply RnH3.c; exact rfl; exact rfl; apply RnC.cl
           rfl; exact inferInstance; exact rfl; exact rfl; apply RnH3.c; exact rfl; exact rfl; apply RnC.cl; rfl; exact inferInstance; exact rfl; exact rfl; apply RnH3.c
           exact rfl; exact rfl; apply RnC.cl; rfl; exact inferInstance; exact rfl; exact rfl; exact RnH3.n; exact rfl; exact rfl)
      · have d3 : decide (z.h = b.h) = false := decide_eq_false h3
        rw [hiOne_new hz h1 (by unfold hiB; rw [d2, d3]; rfl)] at hN
        (refine Gol.seq ?_; apply Gol.sr; apply t0; exact s_move rfl; apply t0; exact s_fieldAddr rfl; apply t0; exact s_loadN rfl rfl (lb rfl) (agu_nm8 rfl)
         dsimp only [reduceAdd, reduceMul, reduceSub, na, ca, nbk, mc, ml]; apply tq; apply s_acts (f := 81) [0, 1, 2, 3] rfl inferInstance; exact hc; apply evs.cons rfl; exact evs.nil; exact rfl
         apply ABs.cons; exact rfl; exact rfl; exact rfl; apply RenL.cons; exact Ren.clo inferInstance; apply RenL.cons; exact Ren.clo inferInstance; apply RenL.cons
         exact Ren.clo inferInstance; apply RenL.cons; exact Ren.clo inferInstance; apply RenL.cons; apply Ren.mp; exact CaR.old rfl; exact RenL.nil; apply ABs.cons
         exact rfl; exact rfl; exact rfl; exact RenL.clo; apply ABs.cons; exact rfl; exact rfl; exact rfl; apply RenL.cons; apply Ren.pt; exact CaR.old rfl; exact RenL.nil
         apply ABs.cons; exact rfl; exact rfl; exact rfl; exact RenL.clo; exact ABs.nil; dsimp only [List.cons_append, List.nil_append, List.append_nil]; apply RenL.cons
         exact Ren.clo inferInstance; apply RenL.cons; apply Ren.pt; exact CaR.old rfl; apply RenL.cons; apply Ren.pt; exact CaR.old rfl; exact RenL.nil; exact Ren.clo inferInstance
         apply HRen.kept; exact CaR.old rfl; apply RenL.cons; exact Ren.clo inferInstance; apply RenL.cons; exact Ren.clo inferInstance; apply RenL.cons; exact Ren.clo inferInstance
         apply RenL.cons; exact Ren.clo inferInstance; apply RenL.cons; apply Ren.mp; exact CaR.old rfl; exact RenL.nil; apply HRen.kept; exact CaR.old rfl; exact RenL.clo
         apply HRen.kept; exact CaR.old rfl; apply RenL.cons; apply Ren.pt; exact CaR.old rfl; exact RenL.nil; apply HRen.kept; exact CaR.old rfl; exact RenL.clo
         exact HRen.nil; exact lb rfl; dsimp only [reduceAdd, reduceMul, reduceSub, na, ca, nbk, nones, mc, ml]
         apply t0; exact s_not rfl; apply t0; exact s_move rfl; apply g0; exact wnt_g rfl rfl rfl rfl; exact s_move rfl; apply g0; exact wnt_g rfl rfl rfl rfl
         exact s_move rfl; apply g0; exact wnt_g rfl rfl rfl rfl; exact s_fieldAddr rfl; apply g0; exact wnt_g rfl rfl rfl rfl; exact s_load rfl rfl rfl; apply g0
         exact wnt_g rfl rfl rfl rfl; exact s_fieldAddr rfl; apply g0; exact wnt_g rfl rfl rfl rfl; exact s_load rfl rfl rfl; apply g0; exact wnt_g rfl rfl rfl rfl
         exact s_lt rfl rfl; apply g0; exact wnt_g rfl rfl rfl rfl; exact s_move rfl; apply g0; exact wnt_g rfl rfl rfl (by focus (simp only [*]; rfl)); exact s_fieldAddr rfl
         apply g0; exact wnt_g rfl rfl rfl (by focus (simp only [*]; rfl)); exact s_load rfl rfl rfl; apply g0; exact wnt_g rfl rfl rfl (by focus (simp only [*]; rfl))
         exact s_fieldAddr rfl; apply g0; exact wnt_g rfl rfl rfl (by focus (simp only [*]; rfl)); exact s_load rfl rfl rfl; apply g0; exact wnt_g rfl rfl rfl (by focus (simp only [*]; rfl))
         exact s_eq rfl rfl; apply g0; exact wnt_g rfl rfl rfl (by focus (simp only [*]; rfl)); exact s_move rfl; apply sk; exact wnt_g rfl rfl rfl (by focus (simp only [*]; rfl))
         apply sk; exact wnt_g rfl rfl rfl (by focus (simp only [*]; rfl)); apply sk; exact wnt_g rfl rfl rfl (by focus (simp only [*]; rfl)); apply sk; exact wnt_g rfl rfl rfl (by focus (simp only [*]; rfl))
         apply sk; exact wnt_g rfl rfl rfl (by focus (simp only [*]; rfl)); apply sk; exact wnt_g rfl rfl rfl (by focus (simp only [*]; rfl)); apply g0; exact wnt_g rfl rfl rfl (by focus (simp only [*]; rfl))
         exact s_pick_f rfl (by assumption) rfl; apply g0; exact wnt_g rfl rfl rfl rfl; exact s_pick_f rfl (by assumption) rfl; apply g0; exact wnt_g rfl rfl rfl rfl
         exact s_pick_t rfl rfl rfl; apply t0; exact s_pick_f rfl rfl rfl; dsimp only [reduceAdd, reduceMul]; exact dn; exact rfl)
        refine Gol.cond_f rfl (by first | rfl | assumption) ?_
        (refine Gol.skip ?_; refine thn_n ?_; apply Gol.region; apply t0; exact s_loadW rfl rfl rfl (agu_cua _)
         apply n1; exact s_storeW rfl rfl rfl rfl rfl rfl; apply t0; exact s_assign rfl; dsimp only [reduceAdd, reduceMul]; exact dn; exact rfl; refine inBlk_n ?_
         refine thn_n ?_; apply Gol.region; apply t0; exact s_addn rfl rfl (by simp <;> omega); apply t0; exact s_move rfl; dsimp only [reduceAdd, reduceMul]
         exact dn; exact rfl)
        refine rnd_n (i + 1, K2) ⟨hlt, hK2⟩ (by dsimp only; omega) ?_
        dsimp only
        rw [hN]
        refine Le.fn2 rfl rfl rfl ?_
        (apply Le.mk3' []; apply RnT3.c; exact rfl; apply Rn3.r; exact Rn.pt rfl rfl; apply RnT3.c; exact rfl; apply Rn3.r; exact Rn.pt rfl rfl; apply RnT3.c; exact rfl
         apply Rn3.r; exact Rn.pt rfl rfl; apply RnT3.c; exact rfl; apply Rn3.r; exact Rn.v rfl; apply RnT3.c; exact rfl; apply Rn3.r; exact Rn.clo inferInstance rfl
         apply RnT3.c; exact rfl; apply Rn3.r; exact Rn.v rfl; apply RnT3.c; exact rfl; apply Rn3.r; exact Rn.v rfl; exact RnT3.n; apply RnH3.c; exact rfl; exact rfl
         apply RnC.l; apply Rn3L.cons; apply Rn3.r; exact Rn.clo inferInstance rfl; apply Rn3L.cons; apply Rn3.r; exact Rn.clo inferInstance rfl; apply Rn3L.cons
         apply Rn3.r; exact Rn.clo inferInstance rfl; apply Rn3L.cons; apply Rn3.r; exact Rn.clo inferInstance rfl; apply Rn3L.cons; apply Rn3.r; exact Rn.mp rfl
         exact Rn3L.nil; exact rfl; exact rfl; apply RnH3.c; exact rfl; exact rfl; apply RnC.cl; rfl; exact inferInstance; exact rfl; exact rfl; apply RnH3.c; exact rfl
         exact rfl; apply RnC.l; apply Rn3L.cons; apply Rn3.r; exact Rn.pt rfl rfl; exact Rn3L.nil; exact rfl; exact rfl; apply RnH3.c; exact rfl; exact rfl; apply RnC.cl
         rfl; exact inferInstance; exact rfl; exact rfl; apply RnH3.c; exact rfl; exact rfl; apply RnC.cl; rfl; exact inferInstance; exact rfl; exact rfl; apply RnH3.c
         exact rfl; exact rfl; apply RnC.cl; rfl; exact inferInstance; exact rfl; exact rfl; exact RnH3.n; exact rfl; exact rfl)
theorem baseB_ok (l : List It) (vs : List Vt) (f : Bool) (K : List (UInt64 × Stu)) (hl : l.length ≤ 1000000) (hsm : ∀ x ∈ l, Sm x.st) (hK : KnOk S l vs K) (g : Int) :
    Acts Tryz.prog 46 [bookB l vs f, knB K] [.pt 0 0, .v (.int .i64 g)] (.v (.agg (nameC (hiF (fun n => lockedB (stqN S l vs n) g) l)))) [none, none] := by
  have h := baseHi_ok S hS l vs f K hl hsm hK g
  generalize hiF (fun n => lockedB (stqN S l vs n) g) l = r at h ⊢
  refine Acts.of (fn := Tryz.f46) Tryz.func46 rfl (lb rfl) (lb rfl) fun w bl hid loc => ?_
  (apply Gol.sr; apply t1; exact s_box rfl rfl; apply t1; exact s_box rfl rfl; apply t1; exact s_alloc; dsimp only [reduceAdd, reduceMul]; exact dn
   exact rfl; apply Gol.sr; apply t0; exact s_load rfl rfl rfl; apply t0; exact s_mkf (evs.cons rfl (evs.cons rfl evs.nil)); dsimp only [reduceAdd, reduceMul, reduceSub, na, ca, nbk, mc, ml]
   apply tq; apply s_acts (f := 80) [0, 1, 8, 16] rfl inferInstance; exact h; apply evs.cons rfl
   apply evs.cons rfl; exact evs.nil; exact rfl; apply ABs.cons; exact rfl; exact rfl; exact rfl; apply RenL.cons; exact Ren.clo inferInstance; apply RenL.cons
   exact Ren.clo inferInstance; apply RenL.cons; exact Ren.clo inferInstance; apply RenL.cons; exact Ren.clo inferInstance; apply RenL.cons; apply Ren.mp
   exact CaR.old rfl; exact RenL.nil; apply ABs.cons; exact rfl; exact rfl; exact rfl; exact RenL.clo; apply ABs.cons; exact rfl; exact rfl; exact rfl; apply RenL.cons
   apply Ren.pt; exact CaR.old rfl; exact RenL.nil; apply ABs.cons; exact rfl; exact rfl; exact rfl; exact RenL.clo; exact ABs.nil; dsimp only [List.cons_append, List.nil_append, List.append_nil]
   apply RenL.cons; apply Ren.pt; exact CaR.old rfl; apply RenL.cons; apply Ren.fnL; apply RenL.cons; apply Ren.pt; exact CaR.old rfl; apply RenL.cons; apply Ren.pt
   exact CaR.old rfl; exact RenL.nil; exact RenL.nil; exact Ren.clo inferInstance; apply HRen.gone; exact CaR.old rfl; apply HRen.gone; exact CaR.old rfl
   apply HRen.gone; exact CaR.old rfl; apply HRen.gone; exact CaR.old rfl; exact HRen.nil; exact lb rfl; dsimp only [reduceAdd, reduceMul, reduceSub, na, ca, nbk, nones, mc, ml]
   apply n1; exact s_storeW rfl rfl rfl rfl rfl rfl; dsimp only [reduceAdd, reduceMul]; exact dn; exact rfl; refine Gol.ret ?_)
  (apply RetA.mk [0, 1] (by first | exact .inr rfl | exact .inl rfl); apply res_1 rfl; exact res_cell rfl rfl rfl (agu_cuv _); exact rfl; exact rfl; exact rfl
   apply OAs.gone; apply OAs.gone; exact OAs.nil; exact Ren.clo inferInstance)
theorem base_ok (l : List It) (vs : List Vt) (f f2 : Bool) (hl : l.length ≤ 1000000) (hv : vs.length ≤ 1000000) (hsm : ∀ x ∈ l, Sm x.st) (g : Int) :
    Fresh Tryz.prog 13 [.ex l.length f (itsA l), .ex vs.length f2 (vtsA vs), .v (.int .i64 g)] (fun _ => .v (.agg (nameC (hiF (fun n => lockedB (stqN S l vs n) g) l)))) [] := by
  have ho := open_ok l vs f f2 hl hv
  have h := baseB_ok S hS l vs f [] hl hsm (knOk_nil S l vs) g
  generalize hiF (fun n => lockedB (stqN S l vs n) g) l = r at h ⊢
  refine Fresh.of (fn := Tryz.f13) Tryz.func13 rfl (lb rfl) fun w => ?_
  (apply Gol.sr; apply t1; exact s_alloc; dsimp only [reduceAdd, reduceMul]; exact dn; exact rfl; apply Gol.sr; apply t0; exact s_move rfl; apply t0
   exact s_move rfl; dsimp only [reduceAdd, reduceMul, reduceSub, na, ca, nbk, mc, ml]; apply tq; apply s_acts (f := 45) [] rfl inferInstance; exact ho; apply evs.cons rfl; apply evs.cons rfl; exact evs.nil; exact rfl
   exact ABs.nil; dsimp only [List.cons_append, List.nil_append, List.append_nil]; exact RenL.clo; apply Ren.pt; exact CaR.new 0 rfl rfl; apply HRen.kept
   exact CaR.new 0 rfl rfl; apply RenL.cons; exact Ren.clo inferInstance; apply RenL.cons; exact Ren.clo inferInstance; apply RenL.cons; exact Ren.clo inferInstance
   apply RenL.cons; exact Ren.clo inferInstance; apply RenL.cons; apply Ren.mp; exact CaR.new 1 rfl rfl; exact RenL.nil; apply HRen.kept; exact CaR.new 1 rfl rfl
   exact RenL.clo; exact HRen.nil; exact lb rfl; dsimp only [reduceAdd, reduceMul, reduceSub, na, ca, nbk, nones, mc, ml]
   apply t0; exact s_move rfl; dsimp only [reduceAdd, reduceMul, reduceSub, na, ca, nbk, mc, ml]
   apply tq; apply s_acts (f := 46) [24, 25] rfl inferInstance; exact h; apply evs.cons rfl
   apply evs.cons rfl; exact evs.nil; exact rfl; apply ABs.cons; exact rfl; exact rfl; exact rfl; apply RenL.cons; exact Ren.clo inferInstance; apply RenL.cons
   exact Ren.clo inferInstance; apply RenL.cons; exact Ren.clo inferInstance; apply RenL.cons; exact Ren.clo inferInstance; apply RenL.cons; apply Ren.mp
   exact CaR.old rfl; exact RenL.nil; apply ABs.cons; exact rfl; exact rfl; exact rfl; exact RenL.clo; exact ABs.nil; dsimp only [List.cons_append, List.nil_append, List.append_nil]
   apply RenL.cons; apply Ren.pt; exact CaR.old rfl; apply RenL.cons; exact Ren.clo inferInstance; exact RenL.nil; exact Ren.clo inferInstance; apply HRen.gone
   exact CaR.old rfl; apply HRen.gone; exact CaR.old rfl; exact HRen.nil; exact lb rfl; dsimp only [reduceAdd, reduceMul, reduceSub, na, ca, nbk, nones, mc, ml]
   apply n1; exact s_storeW rfl rfl rfl rfl rfl rfl; dsimp only [reduceAdd, reduceMul]; exact dn; exact rfl; refine Gol.ret ?_)
  (apply RetQ.mk (by first | exact .inr rfl | exact .inl rfl); apply res_1 rfl; exact res_cell rfl rfl rfl (agu_cuv _); exact out_val)
theorem lastFn_ok (l : List It) (vs : List Vt) (f : Bool) (K : List (UInt64 × Stu)) (n : UInt64) (hl : l.length ≤ 1000000) (hsm : ∀ x ∈ l, Sm x.st) (hK : KnOk S l vs K) (g : Int) :
    Acts Tryz.prog 83 [bookB l vs f, knB K, ⟨[.pt 0 0], 66, 1⟩, ⟨[.v (.int .i64 g)], 26, 1⟩] [.v (.agg (nameC n)), .pt 2 0, .pt 3 0] (.v (.bool (finalB (stqN S l vs n) g))) [some (bookB l vs f), some (knB (knF S l vs K n)), some ⟨[.pt 0 0], 66, 1⟩, some ⟨[.v (.int .i64 g)], 26, 1⟩] := by
  have h := bfinal_ok S hS l vs f K n hl hsm hK g
  generalize knF S l vs K n = K2 at h ⊢
  generalize finalB (stqN S l vs n) g = r at h ⊢
  refine Acts.of (fn := Tryz.f83) Tryz.func83 rfl (lb rfl) (lb rfl) fun w bl hid loc => ?_
  (apply Gol.sr; apply t1; exact s_box rfl rfl; apply t0; exact s_assign rfl; dsimp only [reduceAdd, reduceMul]; exact dn; exact rfl; apply Gol.sr
   apply t0; exact s_load rfl rfl rfl; apply t0; exact s_load rfl rfl rfl; apply t0; exact s_loadW rfl rfl rfl (agu_cuv _); dsimp only [reduceAdd, reduceMul, reduceSub, na, ca, nbk, mc, ml]
   apply tq; apply s_acts (f := 66) [0, 1] rfl inferInstance; exact h; apply evs.cons rfl
   apply evs.cons rfl; apply evs.cons rfl; exact evs.nil; exact rfl; apply ABs.cons; exact rfl; exact rfl; exact rfl; apply RenL.cons; exact Ren.clo inferInstance
   apply RenL.cons; exact Ren.clo inferInstance; apply RenL.cons; exact Ren.clo inferInstance; apply RenL.cons; exact Ren.clo inferInstance; apply RenL.cons
   apply Ren.mp; exact CaR.old rfl; exact RenL.nil; apply ABs.cons; exact rfl; exact rfl; exact rfl; exact RenL.clo; exact ABs.nil; dsimp only [List.cons_append, List.nil_append, List.append_nil]
   apply RenL.cons; apply Ren.pt; exact CaR.old rfl; apply RenL.cons; exact Ren.clo inferInstance; apply RenL.cons; exact Ren.clo inferInstance; exact RenL.nil
   exact Ren.clo inferInstance; apply HRen.kept; exact CaR.old rfl; apply RenL.cons; exact Ren.clo inferInstance; apply RenL.cons; exact Ren.clo inferInstance
   apply RenL.cons; exact Ren.clo inferInstance; apply RenL.cons; exact Ren.clo inferInstance; apply RenL.cons; apply Ren.mp; exact CaR.old rfl; exact RenL.nil
   apply HRen.kept; exact CaR.old rfl; exact RenL.clo; exact HRen.nil; exact lb rfl; dsimp only [reduceAdd, reduceMul, reduceSub, na, ca, nbk, nones, mc, ml]
   apply t0; exact s_assign rfl; dsimp only [reduceAdd, reduceMul]; exact dn; exact rfl; refine Gol.ret ?_)
  (apply RetA.mk [0, 1, 2, 3] (by first | exact .inr rfl | exact .inl rfl); apply res_1 rfl; exact res_tmp rfl; exact rfl; exact rfl; exact rfl; apply OAs.kept
   exact rfl; exact rfl; exact rfl; apply RenL.cons; exact Ren.clo inferInstance; apply RenL.cons; exact Ren.clo inferInstance; apply RenL.cons; exact Ren.clo inferInstance
   apply RenL.cons; exact Ren.clo inferInstance; apply RenL.cons; apply Ren.mp; exact IdR.mk rfl; exact RenL.nil; apply OAs.kept; exact rfl; exact rfl; exact rfl
   exact RenL.clo; apply OAs.kept; exact rfl; exact rfl; exact rfl; apply RenL.cons; apply Ren.pt; exact IdR.mk rfl; exact RenL.nil; apply OAs.kept; exact rfl
   exact rfl; exact rfl; exact RenL.clo; exact OAs.nil; exact Ren.clo inferInstance)
set_option maxHeartbeats 3200000 in
theorem lastHi_ok (l : List It) (vs : List Vt) (f : Bool) (K : List (UInt64 × Stu)) (hl : l.length ≤ 1000000) (hsm : ∀ x ∈ l, Sm x.st) (hK : KnOk S l vs K) (g : Int) :
    Acts Tryz.prog 80 [bookB l vs f, knB K, ⟨[.pt 0 0], 66, 1⟩, ⟨[.v (.int .i64 g)], 26, 1⟩] [.pt 0 0, .fn 83 [.pt 2 0, .pt 3 0]] (.v (.agg (nameC (hiF (fun n => finalB (stqN S l vs n) g) l)))) [none, none, none, none] := by
  have hF : ∀ K n, KnOk S l vs K → _ := fun K n hK => lastFn_ok S hS l vs f K n hl hsm hK g
  unfold hiF
  generalize hp : (fun n => finalB (stqN S l vs n) g) = p
  have hpn : ∀ n, finalB (stqN S l vs n) g = p n := fun n => by rw [← hp]
  clear hp
  refine Acts.of (fn := Tryz.f80) Tryz.func80 rfl (lb rfl) (lb rfl) fun w bl hid loc => ?_
  (apply Gol.sr; apply t1; exact s_alloc; dsimp only [reduceAdd, reduceMul]; exact dn; exact rfl; apply Gol.sr; apply t1; exact s_alloc; dsimp only [reduceAdd, reduceMul]
   exact dn; exact rfl; apply Gol.sr; apply t0; exact s_assign rfl; dsimp only [reduceAdd, reduceMul]; exact dn; exact rfl; refine Gol.seq ?_
   apply Gol.sr; apply t0; exact s_move rfl; apply t0; exact s_nilCheck rfl rfl; apply t0; exact s_fieldAddr rfl; apply t0; exact s_load rfl rfl rfl; apply t0
   exact s_len rfl ln_ex; apply t0; exact s_move rfl; dsimp only [reduceAdd, reduceMul]; exact dn; exact rfl; refine Gol.block ?_)
  refine Gol.le (Le.tell (B := 16) (itA It0) 35 28 rfl rfl wk_It0) ?_
  refine Gol.loop (ι := Nat × List (UInt64 × Stu)) (fun q => q.1 ≤ l.length ∧ KnOk S l vs q.2) (fun q => l.length - q.1) 600
    (fun q => [(0, some (bookB l vs f)), (1, some (knB q.2)), (2, some ⟨[.pt 0 0], 66, 1⟩), (3, some ⟨[.v (.int .i64 g)], 26, 1⟩), (8, some ⟨[.v (.int .u8 0), .v (.int .u8 0), .v (.int .u8 0), .v (.int .u8 0), .v (.int .u8 0), .v (.int .u8 0), .v (.int .u8 0), .v (.int .u8 0)], 23, 8⟩), (16, some ⟨itA ((hiN p l q.1).getD It0), 35, 28⟩)])
    (fun q => [(1, .fn 83 [.pt 2 0, .pt 3 0]), (0, .pt 0 0), (4, .pt 8 0), (5, .pt 16 0), (6, .v (.bool (hiN p l q.1).isSome)), (14, .ex l.length f (itsA l)), (15, .v (.int .i64 (l.length : Int))), (16, .v (.int .i64 (q.1 : Int)))]) (0, K) ⟨Nat.zero_le _, hK⟩ ?_ ?_
  · refine Le.fn2 rfl rfl rfl ?_
    (apply Le.mk3' []; apply RnT3.c; exact rfl; apply Rn3.r; exact Rn.pt rfl rfl; apply RnT3.c; exact rfl; apply Rn3.r; exact Rn.pt rfl rfl; apply RnT3.c; exact rfl
     apply Rn3.r; exact Rn.pt rfl rfl; apply RnT3.c; exact rfl; apply Rn3.r; exact Rn.v rfl; apply RnT3.c; exact rfl; apply Rn3.r; exact Rn.clo inferInstance rfl
     apply RnT3.c; exact rfl; apply Rn3.r; exact Rn.v rfl; apply RnT3.c; exact rfl; apply Rn3.r; exact Rn.v rfl; exact RnT3.n; apply RnH3.c; exact rfl; exact rfl
     apply RnC.l; apply Rn3L.cons; apply Rn3.r; exact Rn.clo inferInstance rfl; apply Rn3L.cons; apply Rn3.r; exact Rn.clo inferInstance rfl; apply Rn3L.cons
     apply Rn3.r; exact Rn.clo inferInstance rfl; apply Rn3L.cons; apply Rn3.r; exact Rn.clo inferInstance rfl; apply Rn3L.cons; apply Rn3.r; exact Rn.mp rfl
     exact Rn3L.nil; exact rfl; exact rfl; apply RnH3.c; exact rfl; exact rfl; apply RnC.cl; rfl; exact inferInstance; exact rfl; exact rfl; apply RnH3.c; exact rfl
     exact rfl; apply RnC.l; apply Rn3L.cons; apply Rn3.r; exact Rn.pt rfl rfl; exact Rn3L.nil; exact rfl; exact rfl; apply RnH3.c; exact rfl; exact rfl; apply RnC.cl
     rfl; exact inferInstance; exact rfl; exact rfl; apply RnH3.c; exact rfl; exact rfl; apply RnC.cl; rfl; exact inferInstance; exact rfl; exact rfl; apply RnH3.c
     exact rfl; exact rfl; apply RnC.cl; rfl; exact inferInstance; exact rfl; exact rfl; exact RnH3.n; exact rfl; exact rfl)
  rintro ⟨i, K⟩ ⟨hi, hK⟩
  dsimp only at hi hK ⊢
  (apply Gol.sr; apply t0; exact s_ltn rfl rfl; dsimp only [reduceAdd, reduceMul]; exact dn; exact rfl; refine Gol.seq ?_)
  refine Gol.cond rfl (fun h => ?_) (fun h => ?_)
  rotate_left
  · have hge : ¬ i < l.length := of_decide_eq_false h
    obtain rfl : i = l.length := by omega
    generalize (hiN p l l.length).getD It0 = z
    (refine Gol.exit ?_; refine thn_x ?_; refine rnd_x ?_; refine inBlk_hit ?_; refine thn_n ?_
     apply Gol.sr; apply t0; exact s_fieldAddr rfl; apply t0; exact s_loadN rfl rfl (lb rfl) (agu_nm8 rfl); apply n1; exact s_storeW rfl rfl rfl rfl rfl rfl
     dsimp only [reduceAdd, reduceMul]; exact dn; exact rfl; refine Gol.ret ?_)
    (apply RetA.mk [0, 1, 2, 3] (by first | exact .inr rfl | exact .inl rfl); apply res_1 rfl; exact res_cell rfl rfl rfl (agu_cuv _); exact rfl; exact rfl
     exact rfl; apply OAs.gone; apply OAs.gone; apply OAs.gone; apply OAs.gone; exact OAs.nil; exact Ren.clo inferInstance)
  have hlt : i < l.length := of_decide_eq_true h
  have hx : l[i]? = some l[i] := List.getElem?_eq_getElem hlt
  generalize l[i] = x at hx
  have hN := hiN_next (p := p) hx
  generalize hiN p l i = best at hN ⊢
  obtain ⟨z, hz, hzn⟩ := itOf_some hx
  have hiz := item_yes l f x.n z hl hz
  have hc := hF K x.n hK
  have hK2 := knOk_next S hK x.n
  rw [hpn] at hc
  generalize knF S l vs K x.n = K2 at hc hK2
  (refine Gol.skip ?_; refine thn_n ?_; refine Gol.seq ?_; refine Gol.block ?_; apply Gol.sr
   apply t0; exact s_ixeD rfl rfl (by omega) (its_ne (by omega)) (its_at (by assumption)); apply t0; exact s_loadEN rfl (lb rfl) agu_it
   apply t1; exact s_alloc; apply n1; exact s_storeW rfl rfl rfl rfl rfl rfl; dsimp only [reduceAdd, reduceMul]; exact dn; exact rfl)
  (refine Gol.seq ?_; apply Gol.any; kernel_rfl; apply t0; exact s_move rfl; apply t0; exact s_nilCheck rfl rfl; apply t0
   exact s_fieldAddr rfl; apply t0; exact s_loadN rfl rfl (lb rfl) (agu_ag _); apply t0; exact s_fieldAddr rfl; apply t0; exact s_loadN rfl rfl (lb rfl) (agu_nm8 rfl)
   dsimp only [reduceAdd, reduceMul, reduceSub, na, ca, nbk, mc, ml]; apply tq; apply s_acts (f := 61) [] rfl inferInstance; exact hiz; apply evs.cons rfl; apply evs.cons rfl; exact evs.nil
   exact rfl; exact ABs.nil; dsimp only [List.cons_append, List.nil_append, List.append_nil]; exact RenL.clo; exact Ren.clo inferInstance; exact HRen.nil
   exact lb rfl; dsimp only [reduceAdd, reduceMul, reduceSub, na, ca, nbk, nones, mc, ml]
   apply t0; exact s_move rfl; apply t0; exact s_extract rfl rfl; apply t0; exact s_extract rfl rfl; apply t1; exact s_alloc; apply n1; exact s_storeW rfl rfl rfl rfl rfl rfl
   apply t0; exact s_assign rfl; dsimp only [reduceAdd, reduceMul]; exact dn; kernel_rfl; exact rfl; refine thn_n ?_)
  cases h1 : p x.n with
  | false =>
    rw [h1] at hc
    rw [hiOne_no hz h1] at hN
    (refine Gol.seq ?_; apply Gol.sr; apply t0; exact s_move rfl; apply t0; exact s_fieldAddr rfl; apply t0; exact s_loadN rfl rfl (lb rfl) (agu_nm8 rfl)
     dsimp only [reduceAdd, reduceMul, reduceSub, na, ca, nbk, mc, ml]; apply tq; apply s_acts (f := 83) [0, 1, 2, 3] rfl inferInstance; exact hc; apply evs.cons rfl; exact evs.nil
     exact rfl; apply ABs.cons; exact rfl; exact rfl; exact rfl; apply RenL.cons; exact Ren.clo inferInstance; apply RenL.cons; exact Ren.clo inferInstance
     apply RenL.cons; exact Ren.clo inferInstance; apply RenL.cons; exact Ren.clo inferInstance; apply RenL.cons; apply Ren.mp; exact CaR.old rfl; exact RenL.nil
     apply ABs.cons; exact rfl; exact rfl; exact rfl; exact RenL.clo; apply ABs.cons; exact rfl; exact rfl; exact rfl; apply RenL.cons; apply Ren.pt; exact CaR.old rfl
     exact RenL.nil; apply ABs.cons; exact rfl; exact rfl; exact rfl; exact RenL.clo; exact ABs.nil; dsimp only [List.cons_append, List.nil_append, List.append_nil]
     apply RenL.cons; exact Ren.clo inferInstance; apply RenL.cons; apply Ren.pt; exact CaR.old rfl; apply RenL.cons; apply Ren.pt; exact CaR.old rfl; exact RenL.nil
     exact Ren.clo inferInstance; apply HRen.kept; exact CaR.old rfl; apply RenL.cons; exact Ren.clo inferInstance; apply RenL.cons; exact Ren.clo inferInstance
     apply RenL.cons; exact Ren.clo inferInstance; apply RenL.cons; exact Ren.clo inferInstance; apply RenL.cons; apply Ren.mp; exact CaR.old rfl; exact RenL.nil
     apply HRen.kept; exact CaR.old rfl; exact RenL.clo; apply HRen.kept; exact CaR.old rfl; apply RenL.cons; apply Ren.pt; exact CaR.old rfl; exact RenL.nil
     apply HRen.kept; exact CaR.old rfl; exact RenL.clo; exact HRen.nil; exact lb rfl; dsimp only [reduceAdd, reduceMul, reduceSub, na, ca, nbk, nones, mc, ml]
     apply t0; exact s_not rfl; apply t0; exact s_move rfl; apply sk; exact wnt_g rfl rfl rfl rfl; apply sk; exact wnt_g rfl rfl rfl rfl; apply sk; exact wnt_u rfl rfl rfl
     apply sk; exact wnt_u rfl rfl rfl; apply sk; exact wnt_u rfl rfl rfl; apply sk; exact wnt_u rfl rfl rfl; apply sk; exact wnt_u rfl rfl rfl; apply sk; exact wnt_u rfl rfl rfl
     apply sk; exact wnt_u rfl rfl rfl; apply sk; exact wnt_u rfl rfl rfl; apply sk; exact wnt_u rfl rfl rfl; apply sk; exact wnt_u rfl rfl rfl; apply sk; exact wnt_u rfl rfl rfl
     apply sk; exact wnt_u rfl rfl rfl; apply sk; exact wnt_u rfl rfl rfl; apply sk; exact wnt_u rfl rfl rfl; apply sk; exact wnt_u rfl rfl rfl; apply sk; exact wnt_u rfl rfl rfl
     apply sk; exact wnt_u rfl rfl rfl; apply sk; exact wnt_u rfl rfl rfl; apply sk; exact wnt_u rfl rfl rfl; apply sk; exact wnt_u rfl rfl rfl; apply sk; exact wnt_g rfl rfl rfl rfl
     apply t0; exact s_pick_t rfl rfl rfl; dsimp only [reduceAdd, reduceMul]; exact dn; exact rfl)
    refine Gol.cond_t rfl (by first | rfl | assumption) ?_
    (refine Gol.exit ?_; refine thn_x ?_; refine inBlk_hit ?_; refine thn_n ?_; apply Gol.region
     apply t0; exact s_addn rfl rfl (by simp <;> omega); apply t0; exact s_move rfl; dsimp only [reduceAdd, reduceMul]; exact dn; exact rfl)
    refine rnd_n (i + 1, K2) ⟨hlt, hK2⟩ (by dsimp only; omega) ?_
    dsimp only
    rw [hN]
    refine Le.fn2 rfl rfl rfl ?_
    (apply Le.mk3' []; apply RnT3.c; exact rfl; apply Rn3.r; exact Rn.pt rfl rfl; apply RnT3.c; exact rfl; apply Rn3.r; exact Rn.pt rfl rfl; apply RnT3.c; exact rfl
     apply Rn3.r; exact Rn.pt rfl rfl; apply RnT3.c; exact rfl; apply Rn3.r; exact Rn.v rfl; apply RnT3.c; exact rfl; apply Rn3.r; exact Rn.clo inferInstance rfl
     apply RnT3.c; exact rfl; apply Rn3.r; exact Rn.v rfl; apply RnT3.c; exact rfl; apply Rn3.r; exact Rn.v rfl; exact RnT3.n; apply RnH3.c; exact rfl; exact rfl
     apply RnC.l; apply Rn3L.cons; apply Rn3.r; exact Rn.clo inferInstance rfl; apply Rn3L.cons; apply Rn3.r; exact Rn.clo inferInstance rfl; apply Rn3L.cons
     apply Rn3.r; exact Rn.clo inferInstance rfl; apply Rn3L.cons; apply Rn3.r; exact Rn.clo inferInstance rfl; apply Rn3L.cons; apply Rn3.r; exact Rn.mp rfl
     exact Rn3L.nil; exact rfl; exact rfl; apply RnH3.c; exact rfl; exact rfl; apply RnC.cl; rfl; exact inferInstance; exact rfl; exact rfl; apply RnH3.c; exact rfl
     exact rfl; apply RnC.l; apply Rn3L.cons; apply Rn3.r; exact Rn.pt rfl rfl; exact Rn3L.nil; exact rfl; exact rfl; apply RnH3.c; exact rfl; exact rfl; apply RnC.cl
     rfl; exact inferInstance; exact rfl; exact rfl; apply RnH3.c; exact rfl; exact rfl; apply RnC.cl; rfl; exact inferInstance; exact rfl; exact rfl; apply RnH3.c
     exact rfl; exact rfl; apply RnC.cl; rfl; exact inferInstance; exact rfl; exact rfl; exact RnH3.n; exact rfl; exact rfl)
  | true =>
    rw [h1] at hc
    cases best with
    | none =>
      rw [hiOne_first hz h1] at hN
      dsimp only [Option.isSome, Option.getD]
      (refine Gol.seq ?_; apply Gol.sr; apply t0; exact s_move rfl; apply t0; exact s_fieldAddr rfl; apply t0; exact s_loadN rfl rfl (lb rfl) (agu_nm8 rfl)
       dsimp only [reduceAdd, reduceMul, reduceSub, na, ca, nbk, mc, ml]; apply tq; apply s_acts (f := 83) [0, 1, 2, 3] rfl inferInstance; exact hc; apply evs.cons rfl; exact evs.nil
       exact rfl; apply ABs.cons; exact rfl; exact rfl; exact rfl; apply RenL.cons; exact Ren.clo inferInstance; apply RenL.cons; exact Ren.clo inferInstance
       apply RenL.cons; exact Ren.clo inferInstance; apply RenL.cons; exact Ren.clo inferInstance; apply RenL.cons; apply Ren.mp; exact CaR.old rfl; exact RenL.nil
       apply ABs.cons; exact rfl; exact rfl; exact rfl; exact RenL.clo; apply ABs.cons; exact rfl; exact rfl; exact rfl; apply RenL.cons; apply Ren.pt; exact CaR.old rfl
       exact RenL.nil; apply ABs.cons; exact rfl; exact rfl; exact rfl; exact RenL.clo; exact ABs.nil; dsimp only [List.cons_append, List.nil_append, List.append_nil]
       apply RenL.cons; exact Ren.clo inferInstance; apply RenL.cons; apply Ren.pt; exact CaR.old rfl; apply RenL.cons; apply Ren.pt; exact CaR.old rfl; exact RenL.nil
       exact Ren.clo inferInstance; apply HRen.kept; exact CaR.old rfl; apply RenL.cons; exact Ren.clo inferInstance; apply RenL.cons; exact Ren.clo inferInstance
       apply RenL.cons; exact Ren.clo inferInstance; apply RenL.cons; exact Ren.clo inferInstance; apply RenL.cons; apply Ren.mp; exact CaR.old rfl; exact RenL.nil
       apply HRen.kept; exact CaR.old rfl; exact RenL.clo; apply HRen.kept; exact CaR.old rfl; apply RenL.cons; apply Ren.pt; exact CaR.old rfl; exact RenL.nil
       apply HRen.kept; exact CaR.old rfl; exact RenL.clo; exact HRen.nil; exact lb rfl; dsimp only [reduceAdd, reduceMul, reduceSub, na, ca, nbk, nones, mc, ml]
       apply t0; exact s_not rfl; apply t0; exact s_move rfl; apply g0; exact wnt_g rfl rfl rfl rfl; exact s_move rfl; apply g0; exact wnt_g rfl rfl rfl rfl
       exact s_move rfl; apply sk; exact wnt_g rfl rfl rfl rfl; apply sk; exact wnt_g rfl rfl rfl rfl; apply sk; exact wnt_g rfl rfl rfl rfl; apply sk; exact wnt_g rfl rfl rfl rfl
       apply sk; exact wnt_g rfl rfl rfl rfl; apply sk; exact wnt_g rfl rfl rfl rfl; apply sk; exact wnt_u rfl rfl rfl; apply sk; exact wnt_u rfl rfl rfl; apply sk
       exact wnt_u rfl rfl rfl; apply sk; exact wnt_u rfl rfl rfl; apply sk; exact wnt_u rfl rfl rfl; apply sk; exact wnt_u rfl rfl rfl; apply sk; exact wnt_u rfl rfl rfl
       apply sk; exact wnt_u rfl rfl rfl; apply sk; exact wnt_u rfl rfl rfl; apply sk; exact wnt_u rfl rfl rfl; apply sk; exact wnt_u rfl rfl rfl; apply sk; exact wnt_u rfl rfl rfl
       apply sk; exact wnt_u rfl rfl rfl; apply sk; exact wnt_g rfl rfl rfl rfl; apply g0; exact wnt_g rfl rfl rfl rfl; exact s_pick_f rfl rfl rfl; apply t0
       exact s_pick_f rfl rfl rfl; dsimp only [reduceAdd, reduceMul]; exact dn; exact rfl)
      refine Gol.cond_f rfl (by first | rfl | assumption) ?_
      (refine Gol.skip ?_; refine thn_n ?_; apply Gol.region; apply t0; exact s_loadW rfl rfl rfl (agu_cua _)
       apply n1; exact s_storeW rfl rfl rfl rfl rfl rfl; apply t0; exact s_assign rfl; dsimp only [reduceAdd, reduceMul]; exact dn; exact rfl; refine inBlk_n ?_
       refine thn_n ?_; apply Gol.region; apply t0; exact s_addn rfl rfl (by simp <;> omega); apply t0; exact s_move rfl; dsimp only [reduceAdd, reduceMul]
       exact dn; exact rfl)
      refine rnd_n (i + 1, K2) ⟨hlt, hK2⟩ (by dsimp only; omega) ?_
      dsimp only
      rw [hN]
      refine Le.fn2 rfl rfl rfl ?_
      (apply Le.mk3' []; apply RnT3.c; exact rfl; apply Rn3.r; exact Rn.pt rfl rfl; apply RnT3.c; exact rfl; apply Rn3.r; exact Rn.pt rfl rfl; apply RnT3.c; exact rfl
       apply Rn3.r; exact Rn.pt rfl rfl; apply RnT3.c; exact rfl; apply Rn3.r; exact Rn.v rfl; apply RnT3.c; exact rfl; apply Rn3.r; exact Rn.clo inferInstance rfl
       apply RnT3.c; exact rfl; apply Rn3.r; exact Rn.v rfl; apply RnT3.c; exact rfl; apply Rn3.r; exact Rn.v rfl; exact RnT3.n; apply RnH3.c; exact rfl; exact rfl
       apply RnC.l; apply Rn3L.cons; apply Rn3.r; exact Rn.clo inferInstance rfl; apply Rn3L.cons; apply Rn3.r; exact Rn.clo inferInstance rfl; apply Rn3L.cons
       apply Rn3.r; exact Rn.clo inferInstance rfl; apply Rn3L.cons; apply Rn3.r; exact Rn.clo inferInstance rfl; apply Rn3L.cons; apply Rn3.r; exact Rn.mp rfl
       exact Rn3L.nil; exact rfl; exact rfl; apply RnH3.c; exact rfl; exact rfl; apply RnC.cl; rfl; exact inferInstance; exact rfl; exact rfl; apply RnH3.c; exact rfl
       exact rfl; apply RnC.l; apply Rn3L.cons; apply Rn3.r; exact Rn.pt rfl rfl; exact Rn3L.nil; exact rfl; exact rfl; apply RnH3.c; exact rfl; exact rfl; apply RnC.cl
       rfl; exact inferInstance; exact rfl; exact rfl; apply RnH3.c; exact rfl; exact rfl; apply RnC.cl; rfl; exact inferInstance; exact rfl; exact rfl; apply RnH3.c
       exact rfl; exact rfl; apply RnC.cl; rfl; exact inferInstance; exact rfl; exact rfl; exact RnH3.n; exact rfl; exact rfl)
    | some b =>
      dsimp only [Option.isSome, Option.getD]
      by_cases h2 : z.h < b.h
      · have d2 : decide (z.h < b.h) = true := decide_eq_true h2
        rw [hiOne_keep hz (by unfold hiB; rw [d2]; rfl)] at hN
        (refine Gol.seq ?_; apply Gol.sr; apply t0; exact s_move rfl; apply t0; exact s_fieldAddr rfl; apply t0; exact s_loadN rfl rfl (lb rfl) (agu_nm8 rfl)
         dsimp only [reduceAdd, reduceMul, reduceSub, na, ca, nbk, mc, ml]; apply tq; apply s_acts (f := 83) [0, 1, 2, 3] rfl inferInstance; exact hc; apply evs.cons rfl; exact evs.nil
         exact rfl; apply ABs.cons; exact rfl; exact rfl; exact rfl; apply RenL.cons; exact Ren.clo inferInstance; apply RenL.cons; exact Ren.clo inferInstance
         apply RenL.cons; exact Ren.clo inferInstance; apply RenL.cons; exact Ren.clo inferInstance; apply RenL.cons; apply Ren.mp; exact CaR.old rfl; exact RenL.nil
         apply ABs.cons; exact rfl; exact rfl; exact rfl; exact RenL.clo; apply ABs.cons; exact rfl; exact rfl; exact rfl; apply RenL.cons; apply Ren.pt; exact CaR.old rfl
         exact RenL.nil; apply ABs.cons; exact rfl; exact rfl; exact rfl; exact RenL.clo; exact ABs.nil; dsimp only [List.cons_append, List.nil_append, List.append_nil]
         apply RenL.cons; exact Ren.clo inferInstance; apply RenL.cons; apply Ren.pt; exact CaR.old rfl; apply RenL.cons; apply Ren.pt; exact CaR.old rfl; exact RenL.nil
         exact Ren.clo inferInstance; apply HRen.kept; exact CaR.old rfl; apply RenL.cons; exact Ren.clo inferInstance; apply RenL.cons; exact Ren.clo inferInstance
         apply RenL.cons; exact Ren.clo inferInstance; apply RenL.cons; exact Ren.clo inferInstance; apply RenL.cons; apply Ren.mp; exact CaR.old rfl; exact RenL.nil
         apply HRen.kept; exact CaR.old rfl; exact RenL.clo; apply HRen.kept; exact CaR.old rfl; apply RenL.cons; apply Ren.pt; exact CaR.old rfl; exact RenL.nil
         apply HRen.kept; exact CaR.old rfl; exact RenL.clo; exact HRen.nil; exact lb rfl; dsimp only [reduceAdd, reduceMul, reduceSub, na, ca, nbk, nones, mc, ml]
         apply t0; exact s_not rfl; apply t0; exact s_move rfl; apply g0; exact wnt_g rfl rfl rfl rfl; exact s_move rfl; apply g0; exact wnt_g rfl rfl rfl rfl
         exact s_move rfl; apply g0; exact wnt_g rfl rfl rfl rfl; exact s_fieldAddr rfl; apply g0; exact wnt_g rfl rfl rfl rfl; exact s_load rfl rfl rfl; apply g0
         exact wnt_g rfl rfl rfl rfl; exact s_fieldAddr rfl; apply g0; exact wnt_g rfl rfl rfl rfl; exact s_load rfl rfl rfl; apply g0; exact wnt_g rfl rfl rfl rfl
         exact s_lt rfl rfl; apply g0; exact wnt_g rfl rfl rfl rfl; exact s_move rfl; apply sk; exact wnt_g rfl rfl rfl (by focus (simp only [*]; rfl)); apply sk
         exact wnt_g rfl rfl rfl (by focus (simp only [*]; rfl)); apply sk; exact wnt_g rfl rfl rfl (by focus (simp only [*]; rfl)); apply sk; exact wnt_g rfl rfl rfl (by focus (simp only [*]; rfl))
         apply sk; exact wnt_g rfl rfl rfl (by focus (simp only [*]; rfl)); apply sk; exact wnt_g rfl rfl rfl (by focus (simp only [*]; rfl)); apply sk; exact wnt_u rfl rfl rfl
         apply sk; exact wnt_u rfl rfl rfl; apply sk; exact wnt_u rfl rfl rfl; apply sk; exact wnt_u rfl rfl rfl; apply sk; exact wnt_u rfl rfl rfl; apply sk; exact wnt_u rfl rfl rfl
         apply sk; exact wnt_g rfl rfl rfl (by focus (simp only [*]; rfl)); apply g0; exact wnt_g rfl rfl rfl rfl; exact s_pick_t rfl (by assumption) rfl; apply g0
         exact wnt_g rfl rfl rfl rfl; exact s_pick_t rfl rfl rfl; apply t0; exact s_pick_f rfl rfl rfl; dsimp only [reduceAdd, reduceMul]; exact dn; exact rfl)
        refine Gol.cond_t rfl (by first | rfl | assumption) ?_
        (refine Gol.exit ?_; refine thn_x ?_; refine inBlk_hit ?_; refine thn_n ?_; apply Gol.region
         apply t0; exact s_addn rfl rfl (by simp <;> omega); apply t0; exact s_move rfl; dsimp only [reduceAdd, reduceMul]; exact dn; exact rfl)
        refine rnd_n (i + 1, K2) ⟨hlt, hK2⟩ (by dsimp only; omega) ?_
        dsimp only
        rw [hN]
        refine Le.fn2 rfl rfl rfl ?_
        (apply Le.mk3' []; apply RnT3.c; exact rfl; apply Rn3.r; exact Rn.pt rfl rfl; apply RnT3.c; exact rfl; apply Rn3.r; exact Rn.pt rfl rfl; apply RnT3.c; exact rfl
         apply Rn3.r; exact Rn.pt rfl rfl; apply RnT3.c; exact rfl; apply Rn3.r; exact Rn.v rfl; apply RnT3.c; exact rfl; apply Rn3.r; exact Rn.clo inferInstance rfl
         apply RnT3.c; exact rfl; apply Rn3.r; exact Rn.v rfl; apply RnT3.c; exact rfl; apply Rn3.r; exact Rn.v rfl; exact RnT3.n; apply RnH3.c; exact rfl; exact rfl
         apply RnC.l; apply Rn3L.cons; apply Rn3.r; exact Rn.clo inferInstance rfl; apply Rn3L.cons; apply Rn3.r; exact Rn.clo inferInstance rfl; apply Rn3L.cons
         apply Rn3.r; exact Rn.clo inferInstance rfl; apply Rn3L.cons; apply Rn3.r; exact Rn.clo inferInstance rfl; apply Rn3L.cons; apply Rn3.r; exact Rn.mp rfl
         exact Rn3L.nil; exact rfl; exact rfl; apply RnH3.c; exact rfl; exact rfl; apply RnC.cl; rfl; exact inferInstance; exact rfl; exact rfl; apply RnH3.c; exact rfl
         exact rfl; apply RnC.l; apply Rn3L.cons; apply Rn3.r; exact Rn.pt rfl rfl; exact Rn3L.nil; exact rfl; exact rfl; apply RnH3.c; exact rfl; exact rfl; apply RnC.cl
         rfl; exact inferInstance; exact rfl; exact rfl; apply RnH3.c; exact rfl; exact rfl; apply RnC.cl; rfl; exact inferInstance; exact rfl; exact rfl; apply RnH3.c
         exact rfl; exact rfl; apply RnC.cl; rfl; exact inferInstance; exact rfl; exact rfl; exact RnH3.n; exact rfl; exact rfl)
      have d2 : decide (z.h < b.h) = false := decide_eq_false h2
      by_cases h3 : z.h = b.h
      · have d3 : decide (z.h = b.h) = true := decide_eq_true h3
        by_cases h4 : 0 ≤ cmpN z.n b.n
        · have d4 : decide (0 ≤ cmpN z.n b.n) = true := decide_eq_true h4
          rw [hiOne_keep hz (by unfold hiB; rw [d3, d4]; simp)] at hN
          (refine Gol.seq ?_; apply Gol.sr; apply t0; exact s_move rfl; apply t0; exact s_fieldAddr rfl; apply t0; exact s_loadN rfl rfl (lb rfl) (agu_nm8 rfl)
           dsimp only [reduceAdd, reduceMul, reduceSub, na, ca, nbk, mc, ml]; apply tq; apply s_acts (f := 83) [0, 1, 2, 3] rfl inferInstance; exact hc; apply evs.cons rfl; exact evs.nil
           exact rfl; apply ABs.cons; exact rfl; exact rfl; exact rfl; apply RenL.cons; exact Ren.clo inferInstance; apply RenL.cons; exact Ren.clo inferInstance
           apply RenL.cons; exact Ren.clo inferInstance; apply RenL.cons; exact Ren.clo inferInstance; apply RenL.cons; apply Ren.mp; exact CaR.old rfl; exact RenL.nil
           apply ABs.cons; exact rfl; exact rfl; exact rfl; exact RenL.clo; apply ABs.cons; exact rfl; exact rfl; exact rfl; apply RenL.cons; apply Ren.pt; exact CaR.old rfl
           exact RenL.nil; apply ABs.cons; exact rfl; exact rfl; exact rfl; exact RenL.clo; exact ABs.nil; dsimp only [List.cons_append, List.nil_append, List.append_nil]
           apply RenL.cons; exact Ren.clo inferInstance; apply RenL.cons; apply Ren.pt; exact CaR.old rfl; apply RenL.cons; apply Ren.pt; exact CaR.old rfl; exact RenL.nil
           exact Ren.clo inferInstance; apply HRen.kept; exact CaR.old rfl; apply RenL.cons; exact Ren.clo inferInstance; apply RenL.cons; exact Ren.clo inferInstance
           apply RenL.cons; exact Ren.clo inferInstance; apply RenL.cons; exact Ren.clo inferInstance; apply RenL.cons; apply Ren.mp; exact CaR.old rfl; exact RenL.nil
           apply HRen.kept; exact CaR.old rfl; exact RenL.clo; apply HRen.kept; exact CaR.old rfl; apply RenL.cons; apply Ren.pt; exact CaR.old rfl; exact RenL.nil
           apply HRen.kept; exact CaR.old rfl; exact RenL.clo; exact HRen.nil; exact lb rfl; dsimp only [reduceAdd, reduceMul, reduceSub, na, ca, nbk, nones, mc, ml]
           apply t0; exact s_not rfl; apply t0; exact s_move rfl; apply g0; exact wnt_g rfl rfl rfl rfl; exact s_move rfl; apply g0; exact wnt_g rfl rfl rfl rfl
           exact s_move rfl; apply g0; exact wnt_g rfl rfl rfl rfl; exact s_fieldAddr rfl; apply g0; exact wnt_g rfl rfl rfl rfl; exact s_load rfl rfl rfl; apply g0
           exact wnt_g rfl rfl rfl rfl; exact s_fieldAddr rfl; apply g0; exact wnt_g rfl rfl rfl rfl; exact s_load rfl rfl rfl; apply g0; exact wnt_g rfl rfl rfl rfl
           exact s_lt rfl rfl; apply g0; exact wnt_g rfl rfl rfl rfl; exact s_move rfl; apply g0; exact wnt_g rfl rfl rfl (by focus (simp [*]; done)); exact s_fieldAddr rfl
           apply g0; exact wnt_g rfl rfl rfl (by focus (simp [*]; done)); exact s_load rfl rfl rfl; apply g0; exact wnt_g rfl rfl rfl (by focus (simp [*]; done))
           exact s_fieldAddr rfl; apply g0; exact wnt_g rfl rfl rfl (by focus (simp [*]; done)); exact s_load rfl rfl rfl; apply g0; exact wnt_g rfl rfl rfl (by focus (simp [*]; done))
           exact s_eq rfl rfl; apply g0; exact wnt_g rfl rfl rfl (by focus (simp [*]; done)); exact s_move rfl; apply g0; exact wnt_g rfl rfl rfl (by focus (simp only [*]; rfl))
           exact s_fieldAddr rfl; apply g0; exact wnt_g rfl rfl rfl (by focus (simp only [*]; rfl)); exact s_loadN rfl rfl (lb rfl) (agu_nm8 rfl)
           apply g0; exact wnt_g rfl rfl rfl (by focus (simp only [*]; rfl)); exact s_fieldAddr rfl; apply g0; exact wnt_g rfl rfl rfl (by focus (simp only [*]; rfl))
           exact s_loadN rfl rfl (lb rfl) (agu_nm8 rfl); apply gq; exact wnt_g rfl rfl rfl (by focus (simp only [*]; rfl)); exact s_call (f := 116) rfl (evs.cons rfl (evs.cons rfl evs.nil)) (ArgL.cons arg_clo (ArgL.cons arg_clo ArgL.nil)) (cmpNm_ok _ _) (lb rfl)
           dsimp only [reduceAdd, reduceMul, reduceSub, na, ca, nbk, mc, ml]; apply g0; exact wnt_g rfl rfl rfl (by focus (simp only [*]; rfl))
           exact s_ge rfl rfl; apply g0; exact wnt_g rfl rfl rfl (by focus (simp [*]; done)); exact s_pick_t rfl (by assumption) rfl; apply g0; exact wnt_g rfl rfl rfl rfl
           exact s_pick_f rfl (by assumption) rfl; apply g0; exact wnt_g rfl rfl rfl rfl; exact s_pick_t rfl rfl rfl; apply t0; exact s_pick_f rfl rfl rfl; dsimp only [reduceAdd, reduceMul]
           exact dn; exact rfl)
          refine Gol.cond_t rfl (by first | rfl | assumption) ?_
          (refine Gol.exit ?_; refine thn_x ?_; refine inBlk_hit ?_; refine thn_n ?_; apply Gol.region
           apply t0; exact s_addn rfl rfl (by simp <;> omega); apply t0; exact s_move rfl; dsimp only [reduceAdd, reduceMul]; exact dn; exact rfl)
          refine rnd_n (i + 1, K2) ⟨hlt, hK2⟩ (by dsimp only; omega) ?_
          dsimp only
          rw [hN]
          refine Le.fn2 rfl rfl rfl ?_
          (apply Le.mk3' []; apply RnT3.c; exact rfl; apply Rn3.r; exact Rn.pt rfl rfl; apply RnT3.c; exact rfl; apply Rn3.r; exact Rn.pt rfl rfl; apply RnT3.c; exact rfl
           apply Rn3.r; exact Rn.pt rfl rfl; apply RnT3.c; exact rfl; apply Rn3.r; exact Rn.v rfl; apply RnT3.c; exact rfl; apply Rn3.r; exact Rn.clo inferInstance rfl
           apply RnT3.c; exact rfl; apply Rn3.r; exact Rn.v rfl; apply RnT3.c; exact rfl; apply Rn3.r; exact Rn.v rfl; exact RnT3.n; apply RnH3.c; exact rfl; exact rfl
           apply RnC.l; apply Rn3L.cons; apply Rn3.r; exact Rn.clo inferInstance rfl; apply Rn3L.cons; apply Rn3.r; exact Rn.clo inferInstance rfl; apply Rn3L.cons
           apply Rn3.r; exact Rn.clo inferInstance rfl; apply Rn3L.cons; apply Rn3.r; exact Rn.clo inferInstance rfl; apply Rn3L.cons; apply Rn3.r; exact Rn.mp rfl
           exact Rn3L.nil; exact rfl; exact rfl; apply RnH3.c; exact rfl; exact rfl; apply RnC.cl; rfl; exact inferInstance; exact rfl; exact rfl; apply RnH3.c; exact rfl
           exact rfl; apply RnC.l; apply Rn3L.cons; apply Rn3.r; exact Rn.pt rfl rfl; exact Rn3L.nil; exact rfl; exact rfl; apply RnH3.c; exact rfl; exact rfl; apply RnC.cl
           rfl; exact inferInstance; exact rfl; exact rfl; apply RnH3.c; exact rfl; exact rfl; apply RnC.cl; rfl; exact inferInstance; exact rfl; exact rfl; apply RnH3.c
           exact rfl; exact rfl; apply RnC.cl; rfl; exact inferInstance; exact rfl; exact rfl; exact RnH3.n; exact rfl; exact rfl)
        · have d4 : decide (0 ≤ cmpN z.n b.n) = false := decide_eq_false h4
          rw [hiOne_new hz h1 (by unfold hiB; rw [d2, d3, d4]; rfl)] at hN
          (refine Gol.seq ?_; apply Gol.sr; apply t0; exact s_move rfl; apply t0; exact s_fieldAddr rfl; apply t0; exact s_loadN rfl rfl (lb rfl) (agu_nm8 rfl)
           dsimp only [reduceAdd, reduceMul, reduceSub, na, ca, nbk, mc, ml]; apply tq; apply s_acts (f := 83) [0, 1, 2, 3] rfl inferInstance; exact hc; apply evs.cons rfl; exact evs.nil
           exact rfl; apply ABs.cons; exact rfl; exact rfl; exact rfl; apply RenL.cons; exact Ren.clo inferInstance; apply RenL.cons; exact Ren.clo inferInstance
           apply RenL.cons; exact Ren.clo inferInstance; apply RenL.cons; exact Ren.clo inferInstance; apply RenL.cons; apply Ren.mp; exact CaR.old rfl; exact RenL.nil
           apply ABs.cons; exact rfl; exact rfl; exact rfl; exact RenL.clo; apply ABs.cons; exact rfl; exact rfl; exact rfl; apply RenL.cons; apply Ren.pt; exact CaR.old rfl
           exact RenL.nil; apply ABs.cons; exact rfl; exact rfl; exact rfl; exact RenL.clo; exact ABs.nil; dsimp only [List.cons_append, List.nil_append, List.append_nil]
           apply RenL.cons; exact Ren.clo inferInstance; apply RenL.cons; apply Ren.pt; exact CaR.old rfl; apply RenL.cons; apply Ren.pt; exact CaR.old rfl; exact RenL.nil
           exact Ren.clo inferInstance; apply HRen.kept; exact CaR.old rfl; apply RenL.cons; exact Ren.clo inferInstance; apply RenL.cons; exact Ren.clo inferInstance
           apply RenL.cons; exact Ren.clo inferInstance; apply RenL.cons; exact Ren.clo inferInstance; apply RenL.cons; apply Ren.mp; exact CaR.old rfl; exact RenL.nil
           apply HRen.kept; exact CaR.old rfl; exact RenL.clo; apply HRen.kept; exact CaR.old rfl; apply RenL.cons; apply Ren.pt; exact CaR.old rfl; exact RenL.nil
           apply HRen.kept; exact CaR.old rfl; exact RenL.clo; exact HRen.nil; exact lb rfl; dsimp only [reduceAdd, reduceMul, reduceSub, na, ca, nbk, nones, mc, ml]
           apply t0; exact s_not rfl; apply t0; exact s_move rfl; apply g0; exact wnt_g rfl rfl rfl rfl; exact s_move rfl; apply g0; exact wnt_g rfl rfl rfl rfl
           exact s_move rfl; apply g0; exact wnt_g rfl rfl rfl rfl; exact s_fieldAddr rfl; apply g0; exact wnt_g rfl rfl rfl rfl; exact s_load rfl rfl rfl; apply g0
           exact wnt_g rfl rfl rfl rfl; exact s_fieldAddr rfl; apply g0; exact wnt_g rfl rfl rfl rfl; exact s_load rfl rfl rfl; apply g0; exact wnt_g rfl rfl rfl rfl
           exact s_lt rfl rfl; apply g0; exact wnt_g rfl rfl rfl rfl; exact s_move rfl; apply g0; exact wnt_g rfl rfl rfl (by focus (simp [*]; done)); exact s_fieldAddr rfl
           apply g0; exact wnt_g rfl rfl rfl (by focus (simp [*]; done)); exact s_load rfl rfl rfl; apply g0; exact wnt_g rfl rfl rfl (by focus (simp [*]; done))
           exact s_fieldAddr rfl; apply g0; exact wnt_g rfl rfl rfl (by focus (simp [*]; done)); exact s_load rfl rfl rfl; apply g0; exact wnt_g rfl rfl rfl (by focus (simp [*]; done))
           exact s_eq rfl rfl; apply g0; exact wnt_g rfl rfl rfl (by focus (simp [*]; done)); exact s_move rfl; apply g0; exact wnt_g rfl rfl rfl (by focus (simp only [*]; rfl))
           exact s_fieldAddr rfl; apply g0; exact wnt_g rfl rfl rfl (by focus (simp only [*]; rfl)); exact s_loadN rfl rfl (lb rfl) (agu_nm8 rfl)
           apply g0; exact wnt_g rfl rfl rfl (by focus (simp only [*]; rfl)); exact s_fieldAddr rfl; apply g0; exact wnt_g rfl rfl rfl (by focus (simp only [*]; rfl))
           exact s_loadN rfl rfl (lb rfl) (agu_nm8 rfl); apply gq; exact wnt_g rfl rfl rfl (by focus (simp only [*]; rfl)); exact s_call (f := 116) rfl (evs.cons rfl (evs.cons rfl evs.nil)) (ArgL.cons arg_clo (ArgL.cons arg_clo ArgL.nil)) (cmpNm_ok _ _) (lb rfl)
           dsimp only [reduceAdd, reduceMul, reduceSub, na, ca, nbk, mc, ml]; apply g0; exact wnt_g rfl rfl rfl (by focus (simp only [*]; rfl))
           exact s_ge rfl rfl; apply g0; exact wnt_g rfl rfl rfl (by focus (simp [*]; done)); exact s_pick_t rfl (by assumption) rfl; apply g0; exact wnt_g rfl rfl rfl rfl
           exact s_pick_f rfl (by assumption) rfl; apply g0; exact wnt_g rfl rfl rfl rfl; exact s_pick_t rfl rfl rfl; apply t0; exact s_pick_f rfl rfl rfl; dsimp only [reduceAdd, reduceMul]
           exact dn; exact rfl)
          refine Gol.cond_f rfl (by first | rfl | assumption) ?_
          (refine Gol.skip ?_; refine thn_n ?_; apply Gol.region; apply t0; exact s_loadW rfl rfl rfl (agu_cua _)
           apply n1; exact s_storeW rfl rfl rfl rfl rfl rfl; apply t0; exact s_assign rfl; dsimp only [reduceAdd, reduceMul]; exact dn; exact rfl; refine inBlk_n ?_
           refine thn_n ?_; apply Gol.region; apply t0; exact s_addn rfl rfl (by simp <;> omega); apply t0; exact s_move rfl; dsimp only [reduceAdd, reduceMul]
           exact dn; exact rfl)
          refine rnd_n (i + 1, K2) ⟨hlt, hK2⟩ (by dsimp only; omega) ?_
          dsimp only
          rw [hN]
          refine Le.fn2 rfl rfl rfl ?_
          (apply Le.mk3' []; apply RnT3.c; exact rfl; apply Rn3.r; exact Rn.pt rfl rfl; apply RnT3.c; exact rfl; apply Rn3.r; exact Rn.pt rfl rfl; apply RnT3.c; exact rfl
           apply Rn3.r; exact Rn.pt rfl rfl; apply RnT3.c; exact rfl; apply Rn3.r; exact Rn.v rfl; apply RnT3.c; exact rfl; apply Rn3.r; exact Rn.clo inferInstance rfl
           apply RnT3.c; exact rfl; apply Rn3.r; exact Rn.v rfl; apply RnT3.c; exact rfl; apply Rn3.r; exact Rn.v rfl; exact RnT3.n; apply RnH3.c; exact rfl; exact rfl
           apply RnC.l; apply Rn3L.cons; apply Rn3.r; exact Rn.clo inferInstance rfl; apply Rn3L.cons; apply Rn3.r; exact Rn.clo inferInstance rfl; apply Rn3L.cons
           apply Rn3.r; exact Rn.clo inferInstance rfl; apply Rn3L.cons; apply Rn3.r; exact Rn.clo inferInstance rfl; apply Rn3L.cons; apply Rn3.r; exact Rn.mp rfl
           exact Rn3L.nil; exact rfl; exact rfl; apply RnH3.c; exact rfl; exact rfl; apply RnC.cl; rfl; exact inferInstance; exact rfl; exact rfl; apply RnH3.c; exact rfl
           exact rfl; apply RnC.l; apply Rn3L.cons; apply Rn3.r; exact Rn.pt rfl rfl; exact Rn3L.nil; exact rfl; exact rfl; apply RnH3.c; exact rfl; exact rfl; apply RnC.cl
           rfl; exact inferInstance; exact rfl; exact rfl; apply RnH3.c; exact rfl; exact rfl; apply RnC.cl; rfl; exact inferInstance; exact rfl; exact rfl; apply RnH3.c
           exact rfl; exact rfl; apply RnC.cl; rfl; exact inferInstance; exact rfl; exact rfl; exact RnH3.n; exact rfl; exact rfl)
      · have d3 : decide (z.h = b.h) = false := decide_eq_false h3
        rw [hiOne_new hz h1 (by unfold hiB; rw [d2, d3]; rfl)] at hN
        (refine Gol.seq ?_; apply Gol.sr; apply t0; exact s_move rfl; apply t0; exact s_fieldAddr rfl; apply t0; exact s_loadN rfl rfl (lb rfl) (agu_nm8 rfl)
         dsimp only [reduceAdd, reduceMul, reduceSub, na, ca, nbk, mc, ml]; apply tq; apply s_acts (f := 83) [0, 1, 2, 3] rfl inferInstance; exact hc; apply evs.cons rfl; exact evs.nil
         exact rfl; apply ABs.cons; exact rfl; exact rfl; exact rfl; apply RenL.cons; exact Ren.clo inferInstance; apply RenL.cons; exact Ren.clo inferInstance
         apply RenL.cons; exact Ren.clo inferInstance; apply RenL.cons; exact Ren.clo inferInstance; apply RenL.cons; apply Ren.mp; exact CaR.old rfl; exact RenL.nil
         apply ABs.cons; exact rfl; exact rfl; exact rfl; exact RenL.clo; apply ABs.cons; exact rfl; exact rfl; exact rfl; apply RenL.cons; apply Ren.pt; exact CaR.old rfl
         exact RenL.nil; apply ABs.cons; exact rfl; exact rfl; exact rfl; exact RenL.clo; exact ABs.nil; dsimp only [List.cons_append, List.nil_append, List.append_nil]
         apply RenL.cons; exact Ren.clo inferInstance; apply RenL.cons; apply Ren.pt; exact CaR.old rfl; apply RenL.cons; apply Ren.pt; exact CaR.old rfl; exact RenL.nil
         exact Ren.clo inferInstance; apply HRen.kept; exact CaR.old rfl; apply RenL.cons; exact Ren.clo inferInstance; apply RenL.cons; exact Ren.clo inferInstance
         apply RenL.cons; exact Ren.clo inferInstance; apply RenL.cons; exact Ren.clo inferInstance; apply RenL.cons; apply Ren.mp; exact CaR.old rfl; exact RenL.nil
         apply HRen.kept; exact CaR.old rfl; exact RenL.clo; apply HRen.kept; exact CaR.old rfl; apply RenL.cons; apply Ren.pt; exact CaR.old rfl; exact RenL.nil
         apply HRen.kept; exact CaR.old rfl; exact RenL.clo; exact HRen.nil; exact lb rfl; dsimp only [reduceAdd, reduceMul, reduceSub, na, ca, nbk, nones, mc, ml]
         apply t0; exact s_not rfl; apply t0; exact s_move rfl; apply g0; exact wnt_g rfl rfl rfl rfl; exact s_move rfl; apply g0; exact wnt_g rfl rfl rfl rfl
         exact s_move rfl; apply g0; exact wnt_g rfl rfl rfl rfl; exact s_fieldAddr rfl; apply g0; exact wnt_g rfl rfl rfl rfl; exact s_load rfl rfl rfl; apply g0
         exact wnt_g rfl rfl rfl rfl; exact s_fieldAddr rfl; apply g0; exact wnt_g rfl rfl rfl rfl; exact s_load rfl rfl rfl; apply g0; exact wnt_g rfl rfl rfl rfl
         exact s_lt rfl rfl; apply g0; exact wnt_g rfl rfl rfl rfl; exact s_move rfl; apply g0; exact wnt_g rfl rfl rfl (by focus (simp only [*]; rfl)); exact s_fieldAddr rfl
         apply g0; exact wnt_g rfl rfl rfl (by focus (simp only [*]; rfl)); exact s_load rfl rfl rfl; apply g0; exact wnt_g rfl rfl rfl (by focus (simp only [*]; rfl))
         exact s_fieldAddr rfl; apply g0; exact wnt_g rfl rfl rfl (by focus (simp only [*]; rfl)); exact s_load rfl rfl rfl; apply g0; exact wnt_g rfl rfl rfl (by focus (simp only [*]; rfl))
         exact s_eq rfl rfl; apply g0; exact wnt_g rfl rfl rfl (by focus (simp only [*]; rfl)); exact s_move rfl; apply sk; exact wnt_g rfl rfl rfl (by focus (simp only [*]; rfl))
         apply sk; exact wnt_g rfl rfl rfl (by focus (simp only [*]; rfl)); apply sk; exact wnt_g rfl rfl rfl (by focus (simp only [*]; rfl)); apply sk; exact wnt_g rfl rfl rfl (by focus (simp only [*]; rfl))
         apply sk; exact wnt_g rfl rfl rfl (by focus (simp only [*]; rfl)); apply sk; exact wnt_g rfl rfl rfl (by focus (simp only [*]; rfl)); apply g0; exact wnt_g rfl rfl rfl (by focus (simp only [*]; rfl))
         exact s_pick_f rfl (by assumption) rfl; apply g0; exact wnt_g rfl rfl rfl rfl; exact s_pick_f rfl (by assumption) rfl; apply g0; exact wnt_g rfl rfl rfl rfl
         exact s_pick_t rfl rfl rfl; apply t0; exact s_pick_f rfl rfl rfl; dsimp only [reduceAdd, reduceMul]; exact dn; exact rfl)
        refine Gol.cond_f rfl (by first | rfl | assumption) ?_
        (refine Gol.skip ?_; refine thn_n ?_; apply Gol.region; apply t0; exact s_loadW rfl rfl rfl (agu_cua _)
         apply n1; exact s_storeW rfl rfl rfl rfl rfl rfl; apply t0; exact s_assign rfl; dsimp only [reduceAdd, reduceMul]; exact dn; exact rfl; refine inBlk_n ?_
         refine thn_n ?_; apply Gol.region; apply t0; exact s_addn rfl rfl (by simp <;> omega); apply t0; exact s_move rfl; dsimp only [reduceAdd, reduceMul]
         exact dn; exact rfl)
        refine rnd_n (i + 1, K2) ⟨hlt, hK2⟩ (by dsimp only; omega) ?_
        dsimp only
        rw [hN]
        refine Le.fn2 rfl rfl rfl ?_
        (apply Le.mk3' []; apply RnT3.c; exact rfl; apply Rn3.r; exact Rn.pt rfl rfl; apply RnT3.c; exact rfl; apply Rn3.r; exact Rn.pt rfl rfl; apply RnT3.c; exact rfl
         apply Rn3.r; exact Rn.pt rfl rfl; apply RnT3.c; exact rfl; apply Rn3.r; exact Rn.v rfl; apply RnT3.c; exact rfl; apply Rn3.r; exact Rn.clo inferInstance rfl
         apply RnT3.c; exact rfl; apply Rn3.r; exact Rn.v rfl; apply RnT3.c; exact rfl; apply Rn3.r; exact Rn.v rfl; exact RnT3.n; apply RnH3.c; exact rfl; exact rfl
         apply RnC.l; apply Rn3L.cons; apply Rn3.r; exact Rn.clo inferInstance rfl; apply Rn3L.cons; apply Rn3.r; exact Rn.clo inferInstance rfl; apply Rn3L.cons
         apply Rn3.r; exact Rn.clo inferInstance rfl; apply Rn3L.cons; apply Rn3.r; exact Rn.clo inferInstance rfl; apply Rn3L.cons; apply Rn3.r; exact Rn.mp rfl
         exact Rn3L.nil; exact rfl; exact rfl; apply RnH3.c; exact rfl; exact rfl; apply RnC.cl; rfl; exact inferInstance; exact rfl; exact rfl; apply RnH3.c; exact rfl
         exact rfl; apply RnC.l; apply Rn3L.cons; apply Rn3.r; exact Rn.pt rfl rfl; exact Rn3L.nil; exact rfl; exact rfl; apply RnH3.c; exact rfl; exact rfl; apply RnC.cl
         rfl; exact inferInstance; exact rfl; exact rfl; apply RnH3.c; exact rfl; exact rfl; apply RnC.cl; rfl; exact inferInstance; exact rfl; exact rfl; apply RnH3.c
         exact rfl; exact rfl; apply RnC.cl; rfl; exact inferInstance; exact rfl; exact rfl; exact RnH3.n; exact rfl; exact rfl)
theorem lastB_ok (l : List It) (vs : List Vt) (f : Bool) (K : List (UInt64 × Stu)) (hl : l.length ≤ 1000000) (hsm : ∀ x ∈ l, Sm x.st) (hK : KnOk S l vs K) (g : Int) :
    Acts Tryz.prog 49 [bookB l vs f, knB K] [.pt 0 0, .v (.int .i64 g)] (.v (.agg (nameC (hiF (fun n => finalB (stqN S l vs n) g) l)))) [none, none] := by
  have h := lastHi_ok S hS l vs f K hl hsm hK g
  generalize hiF (fun n => finalB (stqN S l vs n) g) l = r at h ⊢
  refine Acts.of (fn := Tryz.f49) Tryz.func49 rfl (lb rfl) (lb rfl) fun w bl hid loc => ?_
  (apply Gol.sr; apply t1; exact s_box rfl rfl; apply t1; exact s_box rfl rfl; apply t1; exact s_alloc; dsimp only [reduceAdd, reduceMul]; exact dn
   exact rfl; apply Gol.sr; apply t0; exact s_load rfl rfl rfl; apply t0; exact s_mkf (evs.cons rfl (evs.cons rfl evs.nil)); dsimp only [reduceAdd, reduceMul, reduceSub, na, ca, nbk, mc, ml]
   apply tq; apply s_acts (f := 80) [0, 1, 8, 16] rfl inferInstance; exact h; apply evs.cons rfl
   apply evs.cons rfl; exact evs.nil; exact rfl; apply ABs.cons; exact rfl; exact rfl; exact rfl; apply RenL.cons; exact Ren.clo inferInstance; apply RenL.cons
   exact Ren.clo inferInstance; apply RenL.cons; exact Ren.clo inferInstance; apply RenL.cons; exact Ren.clo inferInstance; apply RenL.cons; apply Ren.mp
   exact CaR.old rfl; exact RenL.nil; apply ABs.cons; exact rfl; exact rfl; exact rfl; exact RenL.clo; apply ABs.cons; exact rfl; exact rfl; exact rfl; apply RenL.cons
   apply Ren.pt; exact CaR.old rfl; exact RenL.nil; apply ABs.cons; exact rfl; exact rfl; exact rfl; exact RenL.clo; exact ABs.nil; dsimp only [List.cons_append, List.nil_append, List.append_nil]
   apply RenL.cons; apply Ren.pt; exact CaR.old rfl; apply RenL.cons; apply Ren.fnL; apply RenL.cons; apply Ren.pt; exact CaR.old rfl; apply RenL.cons; apply Ren.pt
   exact CaR.old rfl; exact RenL.nil; exact RenL.nil; exact Ren.clo inferInstance; apply HRen.gone; exact CaR.old rfl; apply HRen.gone; exact CaR.old rfl
   apply HRen.gone; exact CaR.old rfl; apply HRen.gone; exact CaR.old rfl; exact HRen.nil; exact lb rfl; dsimp only [reduceAdd, reduceMul, reduceSub, na, ca, nbk, nones, mc, ml]
   apply n1; exact s_storeW rfl rfl rfl rfl rfl rfl; dsimp only [reduceAdd, reduceMul]; exact dn; exact rfl; refine Gol.ret ?_)
  (apply RetA.mk [0, 1] (by first | exact .inr rfl | exact .inl rfl); apply res_1 rfl; exact res_cell rfl rfl rfl (agu_cuv _); exact rfl; exact rfl; exact rfl
   apply OAs.gone; apply OAs.gone; exact OAs.nil; exact Ren.clo inferInstance)
theorem last_ok (l : List It) (vs : List Vt) (f f2 : Bool) (hl : l.length ≤ 1000000) (hv : vs.length ≤ 1000000) (hsm : ∀ x ∈ l, Sm x.st) (g : Int) :
    Fresh Tryz.prog 15 [.ex l.length f (itsA l), .ex vs.length f2 (vtsA vs), .v (.int .i64 g)] (fun _ => .v (.agg (nameC (hiF (fun n => finalB (stqN S l vs n) g) l)))) [] := by
  have ho := open_ok l vs f f2 hl hv
  have h := lastB_ok S hS l vs f [] hl hsm (knOk_nil S l vs) g
  generalize hiF (fun n => finalB (stqN S l vs n) g) l = r at h ⊢
  refine Fresh.of (fn := Tryz.f15) Tryz.func15 rfl (lb rfl) fun w => ?_
  (apply Gol.sr; apply t1; exact s_alloc; dsimp only [reduceAdd, reduceMul]; exact dn; exact rfl; apply Gol.sr; apply t0; exact s_move rfl; apply t0
   exact s_move rfl; dsimp only [reduceAdd, reduceMul, reduceSub, na, ca, nbk, mc, ml]; apply tq; apply s_acts (f := 45) [] rfl inferInstance; exact ho; apply evs.cons rfl; apply evs.cons rfl; exact evs.nil; exact rfl
   exact ABs.nil; dsimp only [List.cons_append, List.nil_append, List.append_nil]; exact RenL.clo; apply Ren.pt; exact CaR.new 0 rfl rfl; apply HRen.kept
   exact CaR.new 0 rfl rfl; apply RenL.cons; exact Ren.clo inferInstance; apply RenL.cons; exact Ren.clo inferInstance; apply RenL.cons; exact Ren.clo inferInstance
   apply RenL.cons; exact Ren.clo inferInstance; apply RenL.cons; apply Ren.mp; exact CaR.new 1 rfl rfl; exact RenL.nil; apply HRen.kept; exact CaR.new 1 rfl rfl
   exact RenL.clo; exact HRen.nil; exact lb rfl; dsimp only [reduceAdd, reduceMul, reduceSub, na, ca, nbk, nones, mc, ml]
   apply t0; exact s_move rfl; dsimp only [reduceAdd, reduceMul, reduceSub, na, ca, nbk, mc, ml]
   apply tq; apply s_acts (f := 49) [24, 25] rfl inferInstance; exact h; apply evs.cons rfl
   apply evs.cons rfl; exact evs.nil; exact rfl; apply ABs.cons; exact rfl; exact rfl; exact rfl; apply RenL.cons; exact Ren.clo inferInstance; apply RenL.cons
   exact Ren.clo inferInstance; apply RenL.cons; exact Ren.clo inferInstance; apply RenL.cons; exact Ren.clo inferInstance; apply RenL.cons; apply Ren.mp
   exact CaR.old rfl; exact RenL.nil; apply ABs.cons; exact rfl; exact rfl; exact rfl; exact RenL.clo; exact ABs.nil; dsimp only [List.cons_append, List.nil_append, List.append_nil]
   apply RenL.cons; apply Ren.pt; exact CaR.old rfl; apply RenL.cons; exact Ren.clo inferInstance; exact RenL.nil; exact Ren.clo inferInstance; apply HRen.gone
   exact CaR.old rfl; apply HRen.gone; exact CaR.old rfl; exact HRen.nil; exact lb rfl; dsimp only [reduceAdd, reduceMul, reduceSub, na, ca, nbk, nones, mc, ml]
   apply n1; exact s_storeW rfl rfl rfl rfl rfl rfl; dsimp only [reduceAdd, reduceMul]; exact dn; exact rfl; refine Gol.ret ?_)
  (apply RetQ.mk (by first | exact .inr rfl | exact .inl rfl); apply res_1 rfl; exact res_cell rfl rfl rfl (agu_cuv _); exact out_val)
end
end Go.Proofs.YtneeclacmhhblaaGreat


/-
  Layer 26, the reference: Find, Committee, voters, Signers, Counted, Full, Acks, Locked, Final. Conditions: states of at most 100000 entries each.
-/
namespace Go.Proofs.YtneeclacmhhblaaGreat
open Go.RowKit
open Nat (reduceAdd reduceMul reduceSub)

def InM (m : Int) : Prop := ∃ x : BitVec 64, m = x.toInt ∧ x &&& ~~~(1023#64) = 0#64
theorem InM.eq {m : Int} (h : InM m) : andI m 1023 = m := by
  obtain ⟨x, rfl, hx⟩ := h
  exact in1023 (by rw [bv_int]; exact hx) ⟨x, rfl⟩
theorem InM.andNot {m : Int} (h : InM m) (g : Int) : InM (andNotI m g) := by
  obtain ⟨x, rfl, hx⟩ := h
  refine ⟨x &&& ~~~bv g, by rw [andNotI_bv, bv_int], ?_⟩
  rw [BitVec.and_assoc, BitVec.and_comm (~~~bv g), ← BitVec.and_assoc, hx, BitVec.zero_and]
theorem InM.or {a b : Int} (h : InM a) (k : InM b) : InM (orI a b) := by
  obtain ⟨x, rfl, hx⟩ := h
  obtain ⟨y, rfl, hy⟩ := k
  refine ⟨x ||| y, by rw [orI_bv, bv_int, bv_int], ?_⟩
  rw [BitVec.and_comm, BitVec.and_or_distrib_left, BitVec.and_comm _ x, BitVec.and_comm _ y, hx, hy]; rfl
theorem InM.zero : InM 0 := ⟨0#64, rfl, by decide⟩
theorem InM.pos {m : Int} (h : InM m) : decide (0 < sizN m) = !decide (m = 0) ∧ decide (sizN m = 0) = decide (m = 0) := by
  obtain ⟨h1, h2⟩ := size_pos m h.eq
  exact ⟨by rw [h1]; by_cases hm : m = 0 <;> simp [hm], h2⟩
section
variable (S : List UInt8 → UInt64)
end
def comN (l : List It) (n : UInt64) : Int := match itOf l n with | none => 0 | some x => cmOf l x
end Go.Proofs.YtneeclacmhhblaaGreat


/-
  Layer 26, seal: Committee. Conditions: lengths below 2^20.
-/
namespace Go.Proofs.YtneeclacmhhblaaGreat
open Go.RowKit
open Nat (reduceAdd reduceMul reduceSub)

theorem Acts.sub {P : Program} {f : FuncId} {H0 : List ABlk} {cs ds : List AV} {v : AV} {H1 : List (Option ABlk)} (h : Acts P f H0 cs v H1) (hs : ∀ E xs, RVs E ds xs → RVs E cs xs) : Acts P f H0 ds v H1 := fun hid E0 xs h1 h2 h3 h4 h5 h6 => h hid E0 xs h1 h2 h3 h4 h5 (hs E0 xs h6)
theorem committee_ok (l : List It) (f : Bool) (n : UInt64) (hl : l.length ≤ 1000000) : Fresh Tryz.prog 27 [.ex l.length f (itsA l), .v (.agg (nameC n))] (fun _ => .v (.int .i64 (comN l n))) [] := by
  have ho := (open_ok l [] f false hl (by simp)).sub sub_nil2
  unfold comN
  cases hx : itOf l n with
  | none =>
    have hit := item_no l f n hl hx
    dsimp only
    refine Fresh.of (fn := Tryz.f27) Tryz.func27 rfl (lb rfl) fun w => ?_
    (apply Gol.sr; apply t1; exact s_box rfl rfl; apply t0; exact s_assign rfl; dsimp only [reduceAdd, reduceMul]; exact dn; exact rfl; apply Gol.sr
     apply t0; exact s_move rfl; dsimp only [reduceAdd, reduceMul, reduceSub, na, ca, nbk, mc, ml]
     apply tq; apply s_acts (f := 45) [] rfl inferInstance; exact ho; apply evs.cons rfl; apply evs.cons rfl
     exact evs.nil; exact rfl; exact ABs.nil; dsimp only [List.cons_append, List.nil_append, List.append_nil]; exact RenL.clo; apply Ren.pt; exact CaR.new 0 rfl rfl
     apply HRen.kept; exact CaR.new 0 rfl rfl; apply RenL.cons; exact Ren.clo inferInstance; apply RenL.cons; exact Ren.clo inferInstance; apply RenL.cons
     exact Ren.clo inferInstance; apply RenL.cons; exact Ren.clo inferInstance; apply RenL.cons; apply Ren.mp; exact CaR.new 1 rfl rfl; exact RenL.nil; apply HRen.kept
     exact CaR.new 1 rfl rfl; exact RenL.clo; exact HRen.nil; exact lb rfl; dsimp only [reduceAdd, reduceMul, reduceSub, na, ca, nbk, nones, mc, ml]
     apply t0; exact s_assign rfl; dsimp only [reduceAdd, reduceMul]; exact dn; exact rfl; refine Gol.seq ?_; apply Gol.any
     kernel_rfl; apply t0; exact s_move rfl; apply t0; exact s_nilCheck rfl rfl; apply t0; exact s_fieldAddr rfl; apply t0; exact s_loadN rfl rfl (lb rfl) (agu_ag _)
     apply t0; exact s_loadW rfl rfl rfl (agu_cuv _); dsimp only [reduceAdd, reduceMul, reduceSub, na, ca, nbk, mc, ml]
     apply tq; apply s_acts (f := 61) [] rfl inferInstance; exact hit; apply evs.cons rfl; apply evs.cons rfl
     exact evs.nil; exact rfl; exact ABs.nil; dsimp only [List.cons_append, List.nil_append, List.append_nil]; exact RenL.clo; exact Ren.clo inferInstance
     exact HRen.nil; exact lb rfl; dsimp only [reduceAdd, reduceMul, reduceSub, na, ca, nbk, nones, mc, ml]
     apply t0; exact s_move rfl; apply t0; exact s_extract rfl rfl; apply t0; exact s_extract rfl rfl; apply t1; exact s_alloc; apply n1; exact s_storeW rfl rfl rfl rfl rfl rfl
     apply t0; exact s_assign rfl; dsimp only [reduceAdd, reduceMul]; exact dn; kernel_rfl; exact rfl; refine thn_n ?_; refine Gol.seq ?_
     apply Gol.sr; apply t0; exact s_move rfl; apply t0; exact s_not rfl; dsimp only [reduceAdd, reduceMul]; exact dn; exact rfl)
    refine Gol.cond_t rfl rfl ?_
    (apply Gol.sr; apply t0; exact s_assign rfl; dsimp only [reduceAdd, reduceMul]; exact dn; exact rfl; refine Gol.ret ?_; refine thn_r ?_)
    (apply RetQ.mk (by first | exact .inr rfl | exact .inl rfl); apply res_1 rfl; exact res_tmp rfl; exact out_val)
  | some x =>
    have hit := item_yes l f n x hl hx
    have hm := members_ok l [] f [] x hl
    dsimp only
    refine Fresh.of (fn := Tryz.f27) Tryz.func27 rfl (lb rfl) fun w => ?_
    (apply Gol.sr; apply t1; exact s_box rfl rfl; apply t0; exact s_assign rfl; dsimp only [reduceAdd, reduceMul]; exact dn; exact rfl; apply Gol.sr
     apply t0; exact s_move rfl; dsimp only [reduceAdd, reduceMul, reduceSub, na, ca, nbk, mc, ml]
     apply tq; apply s_acts (f := 45) [] rfl inferInstance; exact ho; apply evs.cons rfl; apply evs.cons rfl
     exact evs.nil; exact rfl; exact ABs.nil; dsimp only [List.cons_append, List.nil_append, List.append_nil]; exact RenL.clo; apply Ren.pt; exact CaR.new 0 rfl rfl
     apply HRen.kept; exact CaR.new 0 rfl rfl; apply RenL.cons; exact Ren.clo inferInstance; apply RenL.cons; exact Ren.clo inferInstance; apply RenL.cons
     exact Ren.clo inferInstance; apply RenL.cons; exact Ren.clo inferInstance; apply RenL.cons; apply Ren.mp; exact CaR.new 1 rfl rfl; exact RenL.nil; apply HRen.kept
     exact CaR.new 1 rfl rfl; exact RenL.clo; exact HRen.nil; exact lb rfl; dsimp only [reduceAdd, reduceMul, reduceSub, na, ca, nbk, nones, mc, ml]
     apply t0; exact s_assign rfl; dsimp only [reduceAdd, reduceMul]; exact dn; exact rfl; refine Gol.seq ?_; apply Gol.any
     kernel_rfl; apply t0; exact s_move rfl; apply t0; exact s_nilCheck rfl rfl; apply t0; exact s_fieldAddr rfl; apply t0; exact s_loadN rfl rfl (lb rfl) (agu_ag _)
     apply t0; exact s_loadW rfl rfl rfl (agu_cuv _); dsimp only [reduceAdd, reduceMul, reduceSub, na, ca, nbk, mc, ml]
     apply tq; apply s_acts (f := 61) [] rfl inferInstance; exact hit; apply evs.cons rfl; apply evs.cons rfl
     exact evs.nil; exact rfl; exact ABs.nil; dsimp only [List.cons_append, List.nil_append, List.append_nil]; exact RenL.clo; exact Ren.clo inferInstance
     exact HRen.nil; exact lb rfl; dsimp only [reduceAdd, reduceMul, reduceSub, na, ca, nbk, nones, mc, ml]
     apply t0; exact s_move rfl; apply t0; exact s_extract rfl rfl; apply t0; exact s_extract rfl rfl; apply t1; exact s_alloc; apply n1; exact s_storeW rfl rfl rfl rfl rfl rfl
     apply t0; exact s_assign rfl; dsimp only [reduceAdd, reduceMul]; exact dn; kernel_rfl; exact rfl; refine thn_n ?_; refine Gol.seq ?_
     apply Gol.sr; apply t0; exact s_move rfl; apply t0; exact s_not rfl; dsimp only [reduceAdd, reduceMul]; exact dn; exact rfl)
    refine Gol.cond_f rfl rfl ?_
    (refine Gol.skip ?_; refine thn_n ?_; apply Gol.sr; apply t0; exact s_move rfl; apply t0; exact s_loadW rfl rfl rfl (agu_cua _)
     dsimp only [reduceAdd, reduceMul, reduceSub, na, ca, nbk, mc, ml]; apply tq; apply s_acts (f := 62) [24, 25] rfl inferInstance; exact hm; apply evs.cons rfl; apply evs.cons rfl
     exact evs.nil; exact rfl; apply ABs.cons; exact rfl; exact rfl; exact rfl; apply RenL.cons; exact Ren.clo inferInstance; apply RenL.cons; exact Ren.clo inferInstance
     apply RenL.cons; exact Ren.clo inferInstance; apply RenL.cons; exact Ren.clo inferInstance; apply RenL.cons; apply Ren.mp; exact CaR.old rfl; exact RenL.nil
     apply ABs.cons; exact rfl; exact rfl; exact rfl; exact RenL.clo; exact ABs.nil; dsimp only [List.cons_append, List.nil_append, List.append_nil]; apply RenL.cons
     apply Ren.pt; exact CaR.old rfl; apply RenL.cons; exact Ren.clo inferInstance; exact RenL.nil; exact Ren.clo inferInstance; apply HRen.kept; exact CaR.old rfl
     apply RenL.cons; exact Ren.clo inferInstance; apply RenL.cons; exact Ren.clo inferInstance; apply RenL.cons; exact Ren.clo inferInstance; apply RenL.cons
     exact Ren.clo inferInstance; apply RenL.cons; apply Ren.mp; exact CaR.old rfl; exact RenL.nil; apply HRen.kept; exact CaR.old rfl; exact RenL.clo; exact HRen.nil
     exact lb rfl; dsimp only [reduceAdd, reduceMul, reduceSub, na, ca, nbk, nones, mc, ml]
     apply t0; exact s_assign rfl; dsimp only [reduceAdd, reduceMul]; exact dn; exact rfl; refine Gol.ret ?_)
    (apply RetQ.mk (by first | exact .inr rfl | exact .inl rfl); apply res_1 rfl; exact res_tmp rfl; exact out_val)
end Go.Proofs.YtneeclacmhhblaaGreat


/-
  Layer 26: the sanity check of the laws. Conditions: the genesis item is not named 7; the block's value is not zero.
-/
namespace Go.Proofs.YtneeclacmhhblaaGreat
open Go.RowKit
open Nat (reduceAdd reduceMul reduceSub)

def vt26 (G : It) (val : UInt64) : List Vt := [sgV 5 (X7 G.n []) val 0, sgV 5 (X7 G.n []) val 1, sgV 5 (X7 G.n []) val 2, sgV 7 (X7 G.n []) val 0]
theorem vot26 {G : It} {val : UInt64} (hn : G.n ≠ n7) (hv : val ≠ 0) : votN (vt26 G val) ⟨5, G.n, val⟩ = 7 ∧ votN (vt26 G val) ⟨7, n7, val⟩ = 1 := by
  have e : ∀ k : Ky, alk ([] : List (Ky × Int)) k = none := fun _ => rfl
  have n57 : ¬ (⟨5, G.n, val⟩ : Ky) = ⟨7, n7, val⟩ := fun h => by injection h with h; cases h
  have n75 : ¬ (⟨7, n7, val⟩ : Ky) = ⟨5, G.n, val⟩ := fun h => by injection h with h; cases h
  have hstep : ∀ m k s, (k = 5 ∨ k = 7) → (0 ≤ s ∧ s ≤ 9) → vstep m (sgV k (X7 G.n []) val s) = aput m ⟨k, if k = 5 then G.n else n7, val⟩ (orI ((alk m ⟨k, if k = 5 then G.n else n7, val⟩).getD 0) (shlI 1 s.toNat)) := fun m k s hk hs => vstep_sg (X := X7 G.n []) m hk hs hv
  have h50 : ∀ m, vstep m (sgV 5 (X7 G.n []) val 0) = aput m ⟨5, G.n, val⟩ (orI ((alk m ⟨5, G.n, val⟩).getD 0) 1) := fun m => by rw [hstep m 5 0 (.inl rfl) (by decide)]; rfl
  have h51 : ∀ m, vstep m (sgV 5 (X7 G.n []) val 1) = aput m ⟨5, G.n, val⟩ (orI ((alk m ⟨5, G.n, val⟩).getD 0) 2) := fun m => by rw [hstep m 5 1 (.inl rfl) (by decide)]; rfl
  have h52 : ∀ m, vstep m (sgV 5 (X7 G.n []) val 2) = aput m ⟨5, G.n, val⟩ (orI ((alk m ⟨5, G.n, val⟩).getD 0) 4) := fun m => by rw [hstep m 5 2 (.inl rfl) (by decide)]; rfl
  have h70 : ∀ m, vstep m (sgV 7 (X7 G.n []) val 0) = aput m ⟨7, n7, val⟩ (orI ((alk m ⟨7, n7, val⟩).getD 0) 1) := fun m => by rw [hstep m 7 0 (.inr rfl) (by decide)]; rfl
  unfold votN votM vt26
  simp only [List.foldl_cons, List.foldl_nil]
  rw [h50, h51, h52, h70]
  constructor
  · rw [alk_aput, if_neg n57, alk_aput, if_pos rfl, Option.getD_some, alk_aput, if_pos rfl, Option.getD_some, alk_aput, if_pos rfl, Option.getD_some, e]
    decide
  · rw [alk_aput, if_pos rfl, Option.getD_some, alk_aput, if_neg n75, alk_aput, if_neg n75, alk_aput, if_neg n75, e]
    decide
section
variable (S : List UInt8 → UInt64) {G : It} (hk : G.k = 1) (hh : G.h = 0) (hc : G.cm = 15) (hn : G.n ≠ n7)
include hc hn in
theorem stq26 (hv : valN S (X7 G.n []) ≠ 0) : stqN S [G, X7 G.n []] (vt26 G (valN S (X7 G.n []))) n7 = ⟨15, 7, 1, false⟩ := by
  rw [stq_x S [] _ hn hc, (vot26 hn hv).1, (vot26 hn hv).2]
  have a1 : andI 15 7 = 7 := by decide
  have a2 : andI 15 1 = 1 := by decide
  rw [a1, a2]
include hk hh hn in
theorem hi26 (p : UInt64 → Bool) (hg : p G.n = true) : hiF p [G, X7 G.n []] = if p n7 = true then n7 else G.n := by
  have g : itOf [G, X7 G.n []] G.n = some G := it_two_g _ _
  have x : itOf [G, X7 G.n []] (X7 G.n []).n = some (X7 G.n []) := it_two_x (X := X7 G.n []) hn
  unfold hiF hiN
  rw [show ([G, X7 G.n []] : List It).take ([G, X7 G.n []] : List It).length = [G, X7 G.n []] from rfl, List.foldl_cons, List.foldl_cons, List.foldl_nil, hiOne_first g hg]
  by_cases h : p n7 = true
  · rw [hiOne_new x h (by unfold hiB; rw [hh]; show (decide ((1 : Int) < 0) || (decide ((1 : Int) = 0) && _)) = false; rfl), if_pos h]; rfl
  · rw [hiOne_no x ((Bool.not_eq_true _).mp h), if_neg h]; rfl
include hk hc in
theorem gen26 (g : Int) (l : List It) (vs : List Vt) (hx : itOf l G.n = some G) : lockedB (stqN S l vs G.n) g = true ∧ finalB (stqN S l vs G.n) g = true := by
  have : (stqN S l vs G.n).g = true := by
    unfold stqN stuN
    rw [hx]
    dsimp only
    rw [if_pos hk]
  unfold lockedB finalB
  rw [this]
  exact ⟨rfl, rfl⟩
include hn in
theorem com26 (hc : G.cm = 15) : comN [G, X7 G.n []] n7 = 15 := by
  have x : itOf [G, X7 G.n []] n7 = some (X7 G.n []) := it_two_x (X := X7 G.n []) hn
  unfold comN
  rw [x]
  dsimp only
  unfold cmOf
  rw [if_pos (show (X7 G.n []).k = 3 from rfl), show (X7 G.n []).p = G.n from rfl, it_two_g]
  exact hc
end
theorem wk_x0 (p : UInt64) : WkL [.v (.int .u8 7), .v (.int .u8 0), .v (.int .u8 0), .v (.int .u8 0), .v (.int .u8 0), .v (.int .u8 0), .v (.int .u8 0), .v (.int .u8 0), .v (.int .i64 3), .v (.int .i64 1), .v (.int .u8 ((nb p 7).toNat : Int)), .v (.int .u8 ((nb p 6).toNat : Int)), .v (.int .u8 ((nb p 5).toNat : Int)), .v (.int .u8 ((nb p 4).toNat : Int)), .v (.int .u8 ((nb p 3).toNat : Int)), .v (.int .u8 ((nb p 2).toNat : Int)), .v (.int .u8 ((nb p 1).toNat : Int)), .v (.int .u8 ((nb p 0).toNat : Int)), .v (.slice none 0 0), .v (.slice none 0 0), .v (.int .i64 15), .v (.slice none 0 0), .v (.slice none 0 0), .v (.slice none 0 0), .v (.slice none 0 0), .v (.int .i64 0), .v (.slice none 0 0), .v (.slice none 0 0)] (itA (X7 p [])) := by
  obtain ⟨h7, h6, h5, h4, h3, h2, h1, h0⟩ := nb_n7
  unfold itA X7
  dsimp only
  rw [h7, h6, h5, h4, h3, h2, h1, h0]
  repeat' (first | exact WkL.nil | refine WkL.cons (by first | exact Wk.refl | exact Wk.nil) ?_)
theorem b26 : fullB ⟨15, 7, 1, false⟩ 0 = false ∧ fullB ⟨15, 7, 1, false⟩ 8 = true ∧ lockedB ⟨15, 7, 1, false⟩ 8 = true ∧ finalB ⟨15, 7, 1, false⟩ 8 = false ∧ finalB ⟨15, 7, 1, false⟩ 14 = true ∧ countedB ⟨15, 7, 1, false⟩ 1 = true ∧ acksN ⟨15, 7, 1, false⟩ 8 = 1 := by decide +kernel
section
variable (S : List UInt8 → UInt64) (hS : HashF S)
include hS
set_option maxRecDepth 4000 in
set_option maxHeartbeats 3200000 in
theorem awake26_ok (hne : S (genB (gen0 S 0)) ≠ n7) (hv : ∀ p, valN S (X7 p []) ≠ 0) : Fresh Tryz.prog 9 [] (fun _ => .v (.bool true)) [] := by
  have hg := genesis_ok S hS 0 (by decide)
  have hnew := new_ok S hS (gen0 S 0) (gen0_ok S 0)
  have hk : (genIt S (gen0 S 0)).k = 1 := rfl
  have hh : (genIt S (gen0 S 0)).h = 0 := rfl
  have hc : (genIt S (gen0 S 0)).cm = 15 := gen0_cm S
  have hn : (genIt S (gen0 S 0)).n ≠ n7 := hne
  have hsm : Sm (genIt S (gen0 S 0)).st := genSt_sm _ (gen0_ok S 0)
  generalize genIt S (gen0 S 0) = G at hk hh hc hn hsm hnew
  generalize gen0 S 0 = g at hg hnew
  have hv := hv G.n
  have es := stq26 S hc hn hv
  have eg := gen26 S hk hc 8 [G, X7 G.n []] (vt26 G (valN S (X7 G.n []))) (it_two_g _ _)
  have ec := com26 hn hc
  obtain ⟨f1, f2, f3, f4, f5, f6, f7⟩ := b26
  have hsx : Sm (X7 G.n []).st := ⟨Nat.zero_le _, Nat.zero_le _, Nat.zero_le _, Nat.zero_le _⟩
  have hsmL : ∀ y ∈ [G, X7 G.n []], Sm y.st := fun y hy => by
    simp only [List.mem_cons, List.not_mem_nil, or_false] at hy
    rcases hy with rfl | rfl
    · exact hsm
    · exact hsx
  have eb : hiF (fun n => lockedB (stqN S [G, X7 G.n []] (vt26 G (valN S (X7 G.n []))) n) 8) [G, X7 G.n []] = n7 := by
    rw [hi26 hk hh hn _ eg.1, if_pos (by rw [es]; exact f3)]
  have el : hiF (fun n => finalB (stqN S [G, X7 G.n []] (vt26 G (valN S (X7 G.n []))) n) 8) [G, X7 G.n []] = G.n := by
    rw [hi26 hk hh hn _ eg.2, if_neg (by rw [es, f4]; simp)]
  have c0 : Fresh Tryz.prog 27 [.ex 2 false (itsA [G, X7 G.n []]), .v (.agg (nameC n7))] (fun _ => .v (.int .i64 15)) [] := by
    have h := committee_ok [G, X7 G.n []] false n7 (by simp); rw [ec] at h; exact h
  have c1 : Fresh Tryz.prog 28 [.ex 2 false (itsA [G, X7 G.n []]), .ex 4 false (vtsA (vt26 G (valN S (X7 G.n [])))), .v (.agg (nameC n7))] (fun _ => .v (.int .i64 7)) [] := by
    have h := signers_ok S hS [G, X7 G.n []] (vt26 G (valN S (X7 G.n []))) false false n7 (by simp) (by simp [vt26]) hsmL; rw [es] at h; exact h
  have c2 : Fresh Tryz.prog 29 [.ex 2 false (itsA [G, X7 G.n []]), .ex 4 false (vtsA (vt26 G (valN S (X7 G.n [])))), .v (.int .i64 0), .v (.agg (nameC n7))] (fun _ => .v (.bool false)) [] := by
    have h := full_ok S hS [G, X7 G.n []] (vt26 G (valN S (X7 G.n []))) false false n7 (by simp) (by simp [vt26]) hsmL 0; rw [es, f1] at h; exact h
  have c3 : Fresh Tryz.prog 29 [.ex 2 false (itsA [G, X7 G.n []]), .ex 4 false (vtsA (vt26 G (valN S (X7 G.n [])))), .v (.int .i64 8), .v (.agg (nameC n7))] (fun _ => .v (.bool true)) [] := by
    have h := full_ok S hS [G, X7 G.n []] (vt26 G (valN S (X7 G.n []))) false false n7 (by simp) (by simp [vt26]) hsmL 8; rw [es, f2] at h; exact h
  have c4 : Fresh Tryz.prog 30 [.ex 2 false (itsA [G, X7 G.n []]), .ex 4 false (vtsA (vt26 G (valN S (X7 G.n [])))), .v (.int .i64 8), .v (.agg (nameC n7))] (fun _ => .v (.bool true)) [] := by
    have h := locked_ok S hS [G, X7 G.n []] (vt26 G (valN S (X7 G.n []))) false false n7 (by simp) (by simp [vt26]) hsmL 8; rw [es, f3] at h; exact h
  have c5 : Fresh Tryz.prog 31 [.ex 2 false (itsA [G, X7 G.n []]), .ex 4 false (vtsA (vt26 G (valN S (X7 G.n [])))), .v (.int .i64 8), .v (.agg (nameC n7))] (fun _ => .v (.bool false)) [] := by
    have h := final_ok S hS [G, X7 G.n []] (vt26 G (valN S (X7 G.n []))) false false n7 (by simp) (by simp [vt26]) hsmL 8; rw [es, f4] at h; exact h
  have c6 : Fresh Tryz.prog 31 [.ex 2 false (itsA [G, X7 G.n []]), .ex 4 false (vtsA (vt26 G (valN S (X7 G.n [])))), .v (.int .i64 14), .v (.agg (nameC n7))] (fun _ => .v (.bool true)) [] := by
    have h := final_ok S hS [G, X7 G.n []] (vt26 G (valN S (X7 G.n []))) false false n7 (by simp) (by simp [vt26]) hsmL 14; rw [es, f5] at h; exact h
  have c7 : Fresh Tryz.prog 32 [.ex 2 false (itsA [G, X7 G.n []]), .ex 4 false (vtsA (vt26 G (valN S (X7 G.n [])))), .v (.int .i64 1), .v (.agg (nameC n7))] (fun _ => .v (.bool true)) [] := by
    have h := counted_ok S hS [G, X7 G.n []] (vt26 G (valN S (X7 G.n []))) false false n7 (by simp) (by simp [vt26]) hsmL 1; rw [es, f6] at h; exact h
  have c8 : Fresh Tryz.prog 33 [.ex 2 false (itsA [G, X7 G.n []]), .ex 4 false (vtsA (vt26 G (valN S (X7 G.n [])))), .v (.int .i64 8), .v (.agg (nameC n7))] (fun _ => .v (.int .i64 1)) [] := by
    have h := acks_ok S hS [G, X7 G.n []] (vt26 G (valN S (X7 G.n []))) false false n7 (by simp) (by simp [vt26]) hsmL 8; rw [es, f7] at h; exact h
  have c9 : Fresh Tryz.prog 13 [.ex 2 false (itsA [G, X7 G.n []]), .ex 4 false (vtsA (vt26 G (valN S (X7 G.n [])))), .v (.int .i64 8)] (fun _ => .v (.agg (nameC n7))) [] := by
    have h := base_ok S hS [G, X7 G.n []] (vt26 G (valN S (X7 G.n []))) false false (by simp) (by simp [vt26]) hsmL 8; rw [eb] at h; exact h
  have c10 : Fresh Tryz.prog 15 [.ex 2 false (itsA [G, X7 G.n []]), .ex 4 false (vtsA (vt26 G (valN S (X7 G.n [])))), .v (.int .i64 8)] (fun _ => .v (.agg (nameC G.n))) [] := by
    have h := last_ok S hS [G, X7 G.n []] (vt26 G (valN S (X7 G.n []))) false false (by simp) (by simp [vt26]) hsmL 8; rw [el] at h; exact h
  have c11 : Fresh Tryz.prog 13 [.v (.slice none 0 0), .ex 4 false (vtsA (vt26 G (valN S (X7 G.n [])))), .v (.int .i64 0)] (fun _ => .v (.agg (nameC 0))) [] := by
    have h := base_ok S hS [] (vt26 G (valN S (X7 G.n []))) false false (by simp) (by simp [vt26]) (fun y hy => by cases hy) 0
    exact Fresh.sub h sub_nil
  have v1 := value_ok S hS (X7 G.n []) hsx
  have v2 := refValue_ok S hS (X7 G.n []) hsx
  have hsg := signO_ok S hS g.n g.s 0 (.ex g.vs.length false (byA (flat g.vs))) (.ex g.ac.length false (byA (flat g.ac))) (.ex g.bl.length false (inA g.bl)) (.ex 0 false []) (.ex 1 false (itsA [G])) [] 0 (X7 G.n []) 5 [0, 1, 2] rfl (by decide) hsx
  have hsg2 := signO_ok S hS g.n g.s 0 (.ex g.vs.length false (byA (flat g.vs))) (.ex g.ac.length false (byA (flat g.ac))) (.ex g.bl.length false (inA g.bl)) (.ex 0 false []) (.ex 1 false (itsA [G])) ([] ++ [0, 1, 2].map (sgV 5 (X7 G.n []) (valN S (X7 G.n [])))) (0 + [0, 1, 2].length) (X7 G.n []) 7 [0] rfl (by decide) hsx
  generalize hval : valN S (X7 G.n []) = val at *
  have hne1 : itsA [G] ≠ [] := its_ne (i := 0) (by simp)
  have h0 : ([G] : List It)[0]? = some G := rfl
  refine Fresh.of (fn := Tryz.f9) Tryz.func9 rfl (lb rfl) fun w => ?_
  (apply Gol.sr; apply t0; exact s_assign rfl; dsimp only [reduceAdd, reduceMul]; exact dn; exact rfl; apply Gol.sr; apply tq
   apply s_acts (f := 25) [] rfl inferInstance; exact hg; apply evs.cons rfl; apply evs.cons rfl; exact evs.nil; exact rfl
   exact ABs.nil; dsimp only [List.cons_append, List.nil_append, List.append_nil]; exact RenL.clo; exact Ren.clo inferInstance; exact HRen.nil; exact lb rfl
   dsimp only [reduceAdd, reduceMul, reduceSub, na, ca, nbk, nones, mc, ml]; apply tq; apply s_acts (f := 24) [] rfl inferInstance; exact hnew; apply evs.cons rfl; exact evs.nil; exact rfl
   exact ABs.nil; dsimp only [List.cons_append, List.nil_append, List.append_nil]; exact RenL.clo; apply Ren.pt; exact CaR.new 0 rfl rfl; apply HRen.kept
   exact CaR.new 0 rfl rfl; apply RenL.cons; exact Ren.clo inferInstance; apply RenL.cons; exact Ren.clo inferInstance; apply RenL.cons; exact Ren.clo inferInstance
   apply RenL.cons; exact Ren.clo inferInstance; apply RenL.cons; exact Ren.clo inferInstance; apply RenL.cons; apply Ren.sl; exact CaR.new 1 rfl rfl; apply RenL.cons
   exact Ren.clo inferInstance; apply RenL.cons; exact Ren.clo inferInstance; apply RenL.cons; exact Ren.clo inferInstance; exact RenL.nil; apply HRen.kept
   exact CaR.new 1 rfl rfl; exact RenL.clo; exact HRen.nil; exact lb rfl; dsimp only [reduceAdd, reduceMul, reduceSub, na, ca, nbk, nones, mc, ml]
   apply t0; exact s_assign rfl; dsimp only [reduceAdd, reduceMul]; exact dn; exact rfl; refine Gol.seq ?_; apply Gol.sr; apply t0
   exact s_move rfl; apply t0; exact s_nilCheck rfl rfl; apply t0; exact s_fieldAddr rfl; apply t0; exact s_load rfl rfl rfl; apply t0; exact s_len rfl ln_ex
   apply t0; exact s_nen rfl rfl; dsimp only [reduceAdd, reduceMul]; exact dn; exact rfl)
  refine Gol.cond_f rfl rfl ?_
  (refine Gol.skip ?_; refine thn_n ?_; apply Gol.sr; apply tq; apply s_bld
   exact rfl; (focus (dsimp only [splB, cuB, spl, cu, Value.cells, nameC, List.map, List.take, List.drop, List.append, List.length, List.cons_append, List.nil_append, Nat.reduceAdd, List.take_succ_cons, List.take_zero, List.drop_succ_cons, List.drop_zero, List.take_nil, List.drop_nil, List.append_nil, List.length_cons, List.length_nil]; done))
   dsimp only [reduceAdd, reduceMul, reduceSub, na, ca, nbk, mc, ml]; apply t0; exact s_move rfl
   apply t0; exact s_nilCheck rfl rfl; apply t0; exact s_fieldAddr rfl; apply t0; exact s_load rfl rfl rfl; apply t0; exact s_ixeD rfl rfl (by decide) (by assumption) (its_at (by assumption))
   apply t0; exact s_fieldAddrE rfl; apply t0; exact s_loadEN rfl (lb rfl) (agu_nm8 rfl); dsimp only [reduceAdd, reduceMul, reduceSub, na, ca, nbk, mc, ml]
   apply tq; apply s_bld; exact rfl; (focus (dsimp only [splB, cuB, spl, cu, Value.cells, nameC, List.map, List.take, List.drop, List.append, List.length, List.cons_append, List.nil_append, Nat.reduceAdd, List.take_succ_cons, List.take_zero, List.drop_succ_cons, List.drop_zero, List.take_nil, List.drop_nil, List.append_nil, List.length_cons, List.length_nil]; done))
   dsimp only [reduceAdd, reduceMul, reduceSub, na, ca, nbk, mc, ml]; apply t1; exact s_alloc
   apply n1; exact s_storeW rfl rfl rfl rfl rfl rfl; dsimp only [reduceAdd, reduceMul]; exact dn; exact rfl)
  refine Gol.le (Le.tell (B := 16) [.v (.int .i64 g.n), .v (.int .i64 g.s), .ex g.vs.length false (byA (flat g.vs)), .ex g.ac.length false (byA (flat g.ac)), .ex g.bl.length false (inA g.bl), .sl 17 0, .v (.int .i64 0), .ex 0 false [], .ex 1 false (itsA [G])] 57 9 rfl rfl WkL.same) ?_
  refine Gol.le (Le.tell (B := 152) (itA (X7 G.n [])) 35 28 rfl rfl (wk_x0 G.n)) ?_
  (refine Gol.seq ?_; apply Gol.any; kernel_rfl; apply t0; exact s_move rfl; apply t0; exact s_nilCheck rfl rfl; apply t0
   exact s_fieldAddr rfl; apply t0; exact s_load rfl rfl rfl; apply t0; exact s_ixeD rfl rfl (by decide) (by assumption) (its_at (by assumption)); apply t0
   exact s_loadEN rfl (lb rfl) agu_it; apply t0; exact s_loadW rfl rfl rfl (agu_cua _); apply t1; exact s_lit (PA.cons rfl rfl rfl (PA.cons rfl rfl rfl PA.nil)) rfl (by first | omega | exact lb rfl | decide | (simp <;> omega) | (dsimp <;> omega))
   apply t0; exact s_assign rfl; dsimp only [reduceAdd, reduceMul]; exact dn; kernel_rfl; exact rfl; refine thn_n ?_)
  refine Gol.le (Le.tell (B := 224) (itsA [G, X7 G.n []]) 35 28 rfl rfl (its_two G (X7 G.n []) ▸ WkL.same)) ?_
  (apply Gol.sr; apply t0; exact s_move rfl; apply t0; exact s_loadW rfl rfl rfl (agu_cua _); apply tq; exact s_bytesP (PV.cons rfl rfl rfl (PV.cons rfl rfl rfl (PV.cons rfl rfl rfl PV.nil))) rfl (by omega)
   dsimp only [reduceAdd, reduceMul, reduceSub, na, ca, nbk, mc, ml]; apply tq; apply s_acts (f := 26) [16, 17, 256] rfl inferInstance; exact hsg; apply evs.cons rfl; apply evs.cons rfl
   apply evs.cons rfl; apply evs.cons rfl; exact evs.nil; exact rfl; apply ABs.cons; exact rfl; exact rfl; exact rfl; apply RenL.cons; exact Ren.clo inferInstance
   apply RenL.cons; exact Ren.clo inferInstance; apply RenL.cons; exact Ren.clo inferInstance; apply RenL.cons; exact Ren.clo inferInstance; apply RenL.cons
   exact Ren.clo inferInstance; apply RenL.cons; apply Ren.sl; exact CaR.old rfl; apply RenL.cons; exact Ren.clo inferInstance; apply RenL.cons; exact Ren.clo inferInstance
   apply RenL.cons; exact Ren.clo inferInstance; exact RenL.nil; apply ABs.cons; exact rfl; exact rfl; exact rfl; exact RenL.clo; apply ABs.cons; exact rfl
   exact rfl; exact rfl; exact RenL.clo; exact ABs.nil; dsimp only [List.cons_append, List.nil_append, List.append_nil]; apply RenL.cons; apply Ren.pt; exact CaR.old rfl
   apply RenL.cons; exact Ren.clo inferInstance; apply RenL.cons; exact Ren.clo inferInstance; apply RenL.cons; apply Ren.sl; exact CaR.old rfl; exact RenL.nil
   exact Ren.clo inferInstance; apply HRen.kept; exact CaR.old rfl; apply RenL.cons; exact Ren.clo inferInstance; apply RenL.cons; exact Ren.clo inferInstance
   apply RenL.cons; exact Ren.clo inferInstance; apply RenL.cons; exact Ren.clo inferInstance; apply RenL.cons; exact Ren.clo inferInstance; apply RenL.cons
   apply Ren.sl; exact CaR.new 0 rfl rfl; apply RenL.cons; exact Ren.clo inferInstance; apply RenL.cons; exact Ren.clo inferInstance; apply RenL.cons; exact Ren.clo inferInstance
   exact RenL.nil; apply HRen.gone; exact CaR.old rfl; apply HRen.gone; exact CaR.old rfl; apply HRen.kept; exact CaR.new 0 rfl rfl; exact RenL.clo; exact HRen.nil
   exact lb rfl; dsimp only [reduceAdd, reduceMul, reduceSub, na, ca, nbk, nones, mc, ml]
   exact dn; exact rfl)
  (apply Gol.sr; apply t0; exact s_move rfl; apply t0; exact s_loadW rfl rfl rfl (agu_cua _); apply tq; exact s_bytesP (PV.cons rfl rfl rfl PV.nil) rfl (by omega)
   dsimp only [reduceAdd, reduceMul, reduceSub, na, ca, nbk, mc, ml]; apply tq; apply s_acts (f := 26) [16, 264, 288] rfl inferInstance; exact hsg2; apply evs.cons rfl; apply evs.cons rfl
   apply evs.cons rfl; apply evs.cons rfl; exact evs.nil; exact rfl; apply ABs.cons; exact rfl; exact rfl; exact rfl; apply RenL.cons; exact Ren.clo inferInstance
   apply RenL.cons; exact Ren.clo inferInstance; apply RenL.cons; exact Ren.clo inferInstance; apply RenL.cons; exact Ren.clo inferInstance; apply RenL.cons
   exact Ren.clo inferInstance; apply RenL.cons; apply Ren.sl; exact CaR.old rfl; apply RenL.cons; exact Ren.clo inferInstance; apply RenL.cons; exact Ren.clo inferInstance
   apply RenL.cons; exact Ren.clo inferInstance; exact RenL.nil; apply ABs.cons; exact rfl; exact rfl; exact rfl; exact RenL.clo; apply ABs.cons; exact rfl
   exact rfl; exact rfl; exact RenL.clo; exact ABs.nil; dsimp only [List.cons_append, List.nil_append, List.append_nil]; apply RenL.cons; apply Ren.pt; exact CaR.old rfl
   apply RenL.cons; exact Ren.clo inferInstance; apply RenL.cons; exact Ren.clo inferInstance; apply RenL.cons; apply Ren.sl; exact CaR.old rfl; exact RenL.nil
   exact Ren.clo inferInstance; apply HRen.kept; exact CaR.old rfl; apply RenL.cons; exact Ren.clo inferInstance; apply RenL.cons; exact Ren.clo inferInstance
   apply RenL.cons; exact Ren.clo inferInstance; apply RenL.cons; exact Ren.clo inferInstance; apply RenL.cons; exact Ren.clo inferInstance; apply RenL.cons
   apply Ren.sl; exact CaR.new 0 rfl rfl; apply RenL.cons; exact Ren.clo inferInstance; apply RenL.cons; exact Ren.clo inferInstance; apply RenL.cons; exact Ren.clo inferInstance
   exact RenL.nil; apply HRen.gone; exact CaR.old rfl; apply HRen.gone; exact CaR.old rfl; apply HRen.kept; exact CaR.new 0 rfl rfl; exact RenL.clo; exact HRen.nil
   exact lb rfl; dsimp only [reduceAdd, reduceMul, reduceSub, na, ca, nbk, nones, mc, ml]
   exact dn; exact rfl)
  refine Gol.le (Le.giveT (B := 16) (b := 296) (us := [.v (.int .i64 g.n), .v (.int .i64 g.s), .ex g.vs.length false (byA (flat g.vs)), .ex g.ac.length false (byA (flat g.ac)), .ex g.bl.length false (inA g.bl), .ex 4 false (vtsA (vt26 G val)), .v (.int .i64 0), .ex 0 false [], .ex 1 false (itsA [G])]) 5 (vtsA (vt26 G val)) 57 9 rfl rfl rfl rfl rfl rfl WkL.same) ?_
  refine Gol.le (Le.give (i := 3) (b := 224) (n' := 2) (cs := itsA [G, X7 G.n []]) rfl rfl rfl rfl) ?_
  clear hsg hsg2 hg hnew
  (apply Gol.sr; apply t0; exact s_move rfl; apply t0; exact s_nilCheck rfl rfl; apply t0; exact s_fieldAddr rfl; apply t0; exact s_fieldAddr rfl; apply t0
   exact s_load rfl rfl rfl; apply t0; exact s_assign rfl; dsimp only [reduceAdd, reduceMul]; exact dn; exact rfl)
  (apply Gol.sr; apply t0; exact s_fieldAddr rfl; apply t0; exact s_loadN rfl rfl (lb rfl) (agu_nm8 rfl); apply t1; exact s_alloc; apply n1
   exact s_storeW rfl rfl rfl rfl rfl rfl; dsimp only [reduceAdd, reduceMul]; exact dn; exact rfl)
  refine Gol.le (?_ : Le _ 384 _ _ 384 [(16, some ⟨[.v (.int .i64 g.n), .v (.int .i64 g.s), .ex g.vs.length false (byA (flat g.vs)), .ex g.ac.length false (byA (flat g.ac)), .ex g.bl.length false (inA g.bl), .ex 4 false (vtsA (vt26 G val)), .v (.int .i64 0), .ex 0 false [], .ex 1 false (itsA [G])], 57, 9⟩), (152, some ⟨itA (X7 G.n []), 35, 28⟩), (368, some ⟨cu (.v (.agg (nameC n7))), 23, 8⟩)] [(1, .pt 16 0), (2, .pt 152 0), (3, .ex 2 false (itsA [G, X7 G.n []])), (4, .ex 4 false (vtsA (vt26 G val))), (5, .pt 368 0)]) ?_
  · (apply Le.mk3' []; apply RnT3.c; exact rfl; apply Rn3.r; exact Rn.pt rfl rfl; apply RnT3.c; exact rfl; apply Rn3.r; exact Rn.pt rfl rfl; apply RnT3.c; exact rfl
     apply Rn3.r; exact Rn.clo inferInstance rfl; apply RnT3.c; exact rfl; apply Rn3.r; exact Rn.clo inferInstance rfl; apply RnT3.c; exact rfl; apply Rn3.r
     exact Rn.pt rfl rfl; exact RnT3.n; apply RnH3.c; exact rfl; exact rfl; apply RnC.cl; rfl; exact inferInstance; exact rfl; exact rfl; apply RnH3.c; exact rfl
     exact rfl; apply RnC.cl; rfl; exact inferInstance; exact rfl; exact rfl; apply RnH3.c; exact rfl; exact rfl; apply RnC.cl; rfl; exact inferInstance; exact rfl
     exact rfl; exact RnH3.n; exact rfl; exact rfl)
  (refine Gol.seq ?_; apply Gol.any; kernel_rfl; apply t0; exact s_move rfl; apply t0; exact s_loadW rfl rfl rfl (agu_cuv _)
   apply tq; exact s_call (f := 27) rfl (evs.cons rfl (evs.cons rfl evs.nil)) (ArgL.cons arg_clo (ArgL.cons arg_clo ArgL.nil)) c0 (lb rfl)
   dsimp only [reduceAdd, reduceMul, reduceSub, na, ca, nbk, mc, ml]; apply t0; exact s_eqn rfl rfl
   apply t0; exact s_move rfl; apply g0; exact wnt_g rfl rfl rfl rfl; exact s_move rfl; apply g0; exact wnt_g rfl rfl rfl rfl; exact s_move rfl; apply g0
   exact wnt_g rfl rfl rfl rfl; exact s_loadW rfl rfl rfl (agu_cuv _); apply gq; exact wnt_g rfl rfl rfl rfl; exact s_call (f := 28) rfl (evs.cons rfl (evs.cons rfl (evs.cons rfl evs.nil))) (ArgL.cons arg_clo (ArgL.cons arg_clo (ArgL.cons arg_clo ArgL.nil))) c1 (lb rfl)
   dsimp only [reduceAdd, reduceMul, reduceSub, na, ca, nbk, mc, ml]; apply g0; exact wnt_g rfl rfl rfl rfl
   exact s_eqn rfl rfl; apply t0; exact s_pick_t rfl rfl rfl; apply t0; exact s_move rfl; apply g0; exact wnt_g rfl rfl rfl rfl; exact s_move rfl; apply g0
   exact wnt_g rfl rfl rfl rfl; exact s_move rfl; apply g0; exact wnt_g rfl rfl rfl rfl; exact s_loadW rfl rfl rfl (agu_cuv _); apply gq; exact wnt_g rfl rfl rfl rfl
   exact s_call (f := 29) rfl (evs.cons rfl (evs.cons rfl (evs.cons rfl (evs.cons rfl evs.nil)))) (ArgL.cons arg_clo (ArgL.cons arg_clo (ArgL.cons arg_clo (ArgL.cons arg_clo ArgL.nil)))) c2 (lb rfl)
   dsimp only [reduceAdd, reduceMul, reduceSub, na, ca, nbk, mc, ml]; apply g0; exact wnt_g rfl rfl rfl rfl
   exact s_not rfl; apply t0; exact s_pick_t rfl rfl rfl; apply t0; exact s_move rfl; apply g0; exact wnt_g rfl rfl rfl rfl; exact s_move rfl; apply g0; exact wnt_g rfl rfl rfl rfl
   exact s_move rfl; apply g0; exact wnt_g rfl rfl rfl rfl; exact s_loadW rfl rfl rfl (agu_cuv _); apply gq; exact wnt_g rfl rfl rfl rfl; exact s_call (f := 29) rfl (evs.cons rfl (evs.cons rfl (evs.cons rfl (evs.cons rfl evs.nil)))) (ArgL.cons arg_clo (ArgL.cons arg_clo (ArgL.cons arg_clo (ArgL.cons arg_clo ArgL.nil)))) c3 (lb rfl)
   dsimp only [reduceAdd, reduceMul, reduceSub, na, ca, nbk, mc, ml]; apply t0; exact s_pick_t rfl rfl rfl
   apply t0; exact s_move rfl; apply g0; exact wnt_g rfl rfl rfl rfl; exact s_move rfl; apply g0; exact wnt_g rfl rfl rfl rfl; exact s_move rfl; apply g0
   exact wnt_g rfl rfl rfl rfl; exact s_loadW rfl rfl rfl (agu_cuv _); apply gq; exact wnt_g rfl rfl rfl rfl; exact s_call (f := 30) rfl (evs.cons rfl (evs.cons rfl (evs.cons rfl (evs.cons rfl evs.nil)))) (ArgL.cons arg_clo (ArgL.cons arg_clo (ArgL.cons arg_clo (ArgL.cons arg_clo ArgL.nil)))) c4 (lb rfl)
   dsimp only [reduceAdd, reduceMul, reduceSub, na, ca, nbk, mc, ml]; apply t0; exact s_pick_t rfl rfl rfl
   apply t0; exact s_move rfl; apply g0; exact wnt_g rfl rfl rfl rfl; exact s_move rfl; apply g0; exact wnt_g rfl rfl rfl rfl; exact s_move rfl; apply g0
   exact wnt_g rfl rfl rfl rfl; exact s_loadW rfl rfl rfl (agu_cuv _); apply gq; exact wnt_g rfl rfl rfl rfl; exact s_call (f := 31) rfl (evs.cons rfl (evs.cons rfl (evs.cons rfl (evs.cons rfl evs.nil)))) (ArgL.cons arg_clo (ArgL.cons arg_clo (ArgL.cons arg_clo (ArgL.cons arg_clo ArgL.nil)))) c5 (lb rfl)
   dsimp only [reduceAdd, reduceMul, reduceSub, na, ca, nbk, mc, ml]; apply g0; exact wnt_g rfl rfl rfl rfl
   exact s_not rfl; apply t0; exact s_pick_t rfl rfl rfl; apply t0; exact s_move rfl; apply g0; exact wnt_g rfl rfl rfl rfl; exact s_move rfl; apply g0; exact wnt_g rfl rfl rfl rfl
   exact s_move rfl; apply g0; exact wnt_g rfl rfl rfl rfl; exact s_loadW rfl rfl rfl (agu_cuv _); apply gq; exact wnt_g rfl rfl rfl rfl; exact s_call (f := 31) rfl (evs.cons rfl (evs.cons rfl (evs.cons rfl (evs.cons rfl evs.nil)))) (ArgL.cons arg_clo (ArgL.cons arg_clo (ArgL.cons arg_clo (ArgL.cons arg_clo ArgL.nil)))) c6 (lb rfl)
   dsimp only [reduceAdd, reduceMul, reduceSub, na, ca, nbk, mc, ml]; apply t0; exact s_pick_t rfl rfl rfl
   apply t0; exact s_move rfl; apply g0; exact wnt_g rfl rfl rfl rfl; exact s_move rfl; apply g0; exact wnt_g rfl rfl rfl rfl; exact s_move rfl; apply g0
   exact wnt_g rfl rfl rfl rfl; exact s_loadW rfl rfl rfl (agu_cuv _); apply gq; exact wnt_g rfl rfl rfl rfl; exact s_call (f := 32) rfl (evs.cons rfl (evs.cons rfl (evs.cons rfl (evs.cons rfl evs.nil)))) (ArgL.cons arg_clo (ArgL.cons arg_clo (ArgL.cons arg_clo (ArgL.cons arg_clo ArgL.nil)))) c7 (lb rfl)
   dsimp only [reduceAdd, reduceMul, reduceSub, na, ca, nbk, mc, ml]; apply t0; exact s_pick_t rfl rfl rfl
   apply t0; exact s_move rfl; apply g0; exact wnt_g rfl rfl rfl rfl; exact s_move rfl; apply g0; exact wnt_g rfl rfl rfl rfl; exact s_move rfl; apply g0
   exact wnt_g rfl rfl rfl rfl; exact s_loadW rfl rfl rfl (agu_cuv _); apply gq; exact wnt_g rfl rfl rfl rfl; exact s_call (f := 33) rfl (evs.cons rfl (evs.cons rfl (evs.cons rfl (evs.cons rfl evs.nil)))) (ArgL.cons arg_clo (ArgL.cons arg_clo (ArgL.cons arg_clo (ArgL.cons arg_clo ArgL.nil)))) c8 (lb rfl)
   dsimp only [reduceAdd, reduceMul, reduceSub, na, ca, nbk, mc, ml]; apply g0; exact wnt_g rfl rfl rfl rfl
   exact s_eqn rfl rfl; apply t0; exact s_pick_t rfl rfl rfl; apply t0; exact s_move rfl; apply g0; exact wnt_g rfl rfl rfl rfl; exact s_move rfl; apply g0
   exact wnt_g rfl rfl rfl rfl; exact s_move rfl; apply gq; exact wnt_g rfl rfl rfl rfl; exact s_call (f := 13) rfl (evs.cons rfl (evs.cons rfl (evs.cons rfl evs.nil))) (ArgL.cons arg_clo (ArgL.cons arg_clo (ArgL.cons arg_clo ArgL.nil))) c9 (lb rfl)
   dsimp only [reduceAdd, reduceMul, reduceSub, na, ca, nbk, mc, ml]; apply g0; exact wnt_g rfl rfl rfl rfl
   exact s_loadW rfl rfl rfl (agu_cuv _); apply g0; exact wnt_g rfl rfl rfl rfl; exact s_eqN rfl rfl; apply t0; exact s_pick_t rfl rfl rfl; apply t0; exact s_move rfl
   apply g0; exact wnt_g rfl rfl rfl rfl; exact s_move rfl; apply g0; exact wnt_g rfl rfl rfl rfl; exact s_move rfl; apply gq; exact wnt_g rfl rfl rfl rfl
   exact s_call (f := 15) rfl (evs.cons rfl (evs.cons rfl (evs.cons rfl evs.nil))) (ArgL.cons arg_clo (ArgL.cons arg_clo (ArgL.cons arg_clo ArgL.nil))) c10 (lb rfl)
   dsimp only [reduceAdd, reduceMul, reduceSub, na, ca, nbk, mc, ml]; apply g0; exact wnt_g rfl rfl rfl rfl
   exact s_move rfl; apply g0; exact wnt_g rfl rfl rfl rfl; exact s_nilCheck rfl rfl; apply g0; exact wnt_g rfl rfl rfl rfl; exact s_fieldAddr rfl; apply g0
   exact wnt_g rfl rfl rfl rfl; exact s_load rfl rfl rfl; apply g0; exact wnt_g rfl rfl rfl rfl; exact s_ixeD rfl rfl (by decide) (by assumption) (its_at (by assumption))
   apply g0; exact wnt_g rfl rfl rfl rfl; exact s_fieldAddrE rfl; apply g0; exact wnt_g rfl rfl rfl rfl; exact s_loadEN rfl (lb rfl) (agu_nm8 rfl)
   apply g0; exact wnt_g rfl rfl rfl rfl; exact s_eqN rfl rfl; apply t0; exact s_pick_t rfl rfl rfl; apply t0; exact s_move rfl; apply g0; exact wnt_g rfl rfl rfl (by focus (simp [*]; done))
   exact s_move rfl; apply gq; exact wnt_g rfl rfl rfl (by focus (simp [*]; done)); exact s_call (f := 13) rfl (evs.cons rfl (evs.cons rfl (evs.cons rfl evs.nil))) (ArgL.cons arg_clo (ArgL.cons arg_clo (ArgL.cons arg_clo ArgL.nil))) c11 (lb rfl)
   dsimp only [reduceAdd, reduceMul, reduceSub, na, ca, nbk, mc, ml]; apply g0; exact wnt_g rfl rfl rfl (by focus (simp [*]; done))
   exact s_zero; apply g0; exact wnt_g rfl rfl rfl (by focus (simp [*]; done)); exact s_eqN rfl rfl; apply t0; exact s_pick_t rfl (by focus (simp [*]; done)) rfl
   apply t0; exact s_move rfl; apply g0; exact wnt_g rfl rfl rfl rfl; exact s_loadW rfl rfl rfl (agu_cua _); apply gq; exact wnt_g rfl rfl rfl rfl; exact s_call (f := 10) rfl (evs.cons rfl evs.nil) (ArgL.cons arg_clo ArgL.nil) v1 (lb rfl)
   dsimp only [reduceAdd, reduceMul, reduceSub, na, ca, nbk, mc, ml]; apply g0; exact wnt_g rfl rfl rfl rfl
   exact s_loadW rfl rfl rfl (agu_cua _); apply gq; exact wnt_g rfl rfl rfl rfl; exact s_call (f := 11) rfl (evs.cons rfl evs.nil) (ArgL.cons arg_clo ArgL.nil) v2 (lb rfl)
   dsimp only [reduceAdd, reduceMul, reduceSub, na, ca, nbk, mc, ml]; apply g0; exact wnt_g rfl rfl rfl rfl
   exact s_eqN rfl rfl; apply t0; exact s_pick_t rfl rfl rfl; apply t0; exact s_assign rfl; dsimp only [reduceAdd, reduceMul]; exact dn; kernel_rfl
   exact rfl; refine thn_n ?_; refine Gol.ret ?_)
  apply RetQ.bool
  · (apply RetQ.mk (by first | exact .inr rfl | exact .inl rfl); apply res_1 rfl; exact res_tmp rfl; exact out_val)
  · simp
end
end Go.Proofs.YtneeclacmhhblaaGreat


/-
  The hash reckoned with numbers, for the kernel. No condition.
-/
namespace Go.Proofs.YtneeclacmhhblaaGreat
open Go.RowKit
def fc {α : Type} (n : Nat) (f : Nat → α) : α := match n with
  | 0 => f 0
  | m + 1 => f (m + 1)
theorem fc_eq {α : Type} (n : Nat) (f : Nat → α) : fc n f = f n := by cases n <;> rfl
def rotK (x a b : Nat) : Nat := Nat.lor (Nat.mod (Nat.mul x a) 18446744073709551616) (Nat.div x b)
def mixK {α : Type} (x y : Nat) (f : Nat → Nat → α) : α :=
  fc (Nat.mod (Nat.add x y) 18446744073709551616) fun a =>
  fc (Nat.xor (rotK y 8192 2251799813685248) a) fun y' =>
  fc (Nat.mod (Nat.mul (rotK a 4294967296 4294967296) 11400714819323198485) 18446744073709551616) fun x' => f x' y'
def absK {α : Type} : List Nat → Nat → Nat → (Nat → Nat → α) → α
  | [], x, y, f => f x y
  | w :: ws, x, y, f => mixK (Nat.xor x w) y fun x y => mixK x y fun x y => absK ws x y f
def finK (x y n : Nat) : Nat := mixK x (Nat.xor y n) fun x y => mixK x y fun x y => mixK x y fun x y => mixK x y fun x y => Nat.xor x y
def sumK (ws : List Nat) (n : Nat) : Nat := absK ws 2611923443488327891 1376283091369227076 fun x y => finK x y n
theorem rotK_13 (x : UInt64) : rotK x.toNat 8192 2251799813685248 = (rotl x 13).toNat := by
  have hx := x.toNat_lt
  have h1 : (shlU x 13).toNat = x.toNat * 8192 % 18446744073709551616 := by unfold shlU; rw [UInt64.toNat_ofNat']
  have h2 : (shrU x 51).toNat = x.toNat / 2251799813685248 := by
    unfold shrU; rw [UInt64.toNat_ofNat']; simp only [Nat.reducePow]; omega
  unfold rotl orU
  rw [UInt64.toNat_or, h1, h2]; rfl
theorem rotK_32 (x : UInt64) : rotK x.toNat 4294967296 4294967296 = (rotl x 32).toNat := by
  have hx := x.toNat_lt
  have h1 : (shlU x 32).toNat = x.toNat * 4294967296 % 18446744073709551616 := by unfold shlU; rw [UInt64.toNat_ofNat']
  have h2 : (shrU x 32).toNat = x.toNat / 4294967296 := by
    unfold shrU; rw [UInt64.toNat_ofNat']; simp only [Nat.reducePow]; omega
  unfold rotl orU
  rw [UInt64.toNat_or, h1, h2]; rfl
theorem mixK_eq {α : Type} (x y : UInt64) (f : Nat → Nat → α) : mixK x.toNat y.toNat f = f (mixU (x, y)).1.toNat (mixU (x, y)).2.toNat := by
  unfold mixK
  simp only [fc_eq]
  have ha : Nat.mod (Nat.add x.toNat y.toNat) 18446744073709551616 = (addU x y).toNat := by
    unfold addU; rw [UInt64.toNat_add]; rfl
  rw [ha, rotK_13, rotK_32]
  have h1 : Nat.mod (Nat.mul (rotl (addU x y) 32).toNat 11400714819323198485) 18446744073709551616 = (mixU (x, y)).1.toNat := by
    unfold mixU mulU factor; rw [UInt64.toNat_mul]; rfl
  have h2 : Nat.xor (rotl y 13).toNat (addU x y).toNat = (mixU (x, y)).2.toNat := by
    unfold mixU xorU; rw [UInt64.toNat_xor]; rfl
  rw [h1, h2]
def wstep (s : UInt64 × UInt64) (w : UInt64) : UInt64 × UInt64 := mixN 2 (xorU s.1 w, s.2)
theorem absK_eq {α : Type} : ∀ (ws : List UInt64) (s : UInt64 × UInt64) (f : Nat → Nat → α), absK (ws.map (·.toNat)) s.1.toNat s.2.toNat f = f (ws.foldl wstep s).1.toNat (ws.foldl wstep s).2.toNat
  | [], s, f => rfl
  | w :: ws, s, f => by
    simp only [List.map_cons, absK, List.foldl_cons]
    have hx : Nat.xor s.1.toNat w.toNat = (xorU s.1 w).toNat := by unfold xorU; rw [UInt64.toNat_xor]; rfl
    rw [hx, mixK_eq, mixK_eq]
    exact absK_eq ws (wstep s w) f
theorem sumTo_fold (bs : List UInt8) : ∀ k, sumTo bs k = ((List.range k).map fun j => wordOf (bs.drop (8 * j))).foldl wstep startS
  | 0 => rfl
  | k + 1 => by rw [List.range_succ, List.map_append, List.foldl_append, ← sumTo_fold bs k]; rfl
theorem finK_eq (x y : UInt64) (n : Nat) (hn : n < 18446744073709551616) : finK x.toNat y.toNat n = (xorU (mixN 4 (x, xorU y (lenU n))).1 (mixN 4 (x, xorU y (lenU n))).2).toNat := by
  unfold finK
  have hx : Nat.xor y.toNat n = (xorU y (lenU n)).toNat := by
    unfold xorU lenU; rw [UInt64.toNat_xor, UInt64.toNat_ofNat_of_lt' hn]; rfl
  rw [hx, mixK_eq, mixK_eq, mixK_eq, mixK_eq]
  unfold xorU
  rw [UInt64.toNat_xor]; rfl
theorem sumN_K (bs : List UInt8) (ws : List UInt64) (n : Nat) (hn : bs.length = n) (hlt : n < 18446744073709551616) (hw : ((List.range ((n + 7) / 8)).map fun j => wordOf (bs.drop (8 * j))) = ws) : (sumN bs).toNat = sumK (ws.map (·.toNat)) n := by
  subst hn
  unfold sumK
  have h := absK_eq ws startS fun x y => finK x y bs.length
  have e : startS.1.toNat = 2611923443488327891 ∧ startS.2.toNat = 1376283091369227076 := by decide
  rw [e.1, e.2] at h
  rw [h, finK_eq _ _ _ hlt]
  unfold sumN sumFin sumEnd
  rw [sumTo_fold, hw]
end Go.Proofs.YtneeclacmhhblaaGreat


/-
  The hash of one-time keys and trees reckoned with numbers, for the kernel: the public names of three accounts. No condition.
-/
namespace Go.Proofs.YtneeclacmhhblaaGreat
def hornK : Nat → List Nat → Nat → Nat
  | 0, _, a => a
  | k + 1, [], a => hornK k [] (Nat.mul a 256)
  | k + 1, c :: l, a => hornK k l (Nat.add (Nat.mul a 256) c)
def wordsK : Nat → List Nat → List Nat
  | 0, _ => []
  | k + 1, l => hornK 8 l 0 :: wordsK k (l.drop 8)
def hK (l : List Nat) (n : Nat) : Nat := sumK (wordsK (Nat.div (Nat.add n 7) 8) l) n
def beK (n : Nat) : List Nat := [Nat.mod (Nat.div n 72057594037927936) 256, Nat.mod (Nat.div n 281474976710656) 256, Nat.mod (Nat.div n 1099511627776) 256, Nat.mod (Nat.div n 4294967296) 256, Nat.mod (Nat.div n 16777216) 256, Nat.mod (Nat.div n 65536) 256, Nat.mod (Nat.div n 256) 256, Nat.mod n 256]
def flK : List Nat → List Nat
  | [] => []
  | n :: l => beK n ++ flK l
def stepK (v c p : Nat) : Nat := sumK [Nat.add 2377900603251621888 (Nat.div v 256), Nat.add (Nat.mul (Nat.mod v 256) 72057594037927936) (Nat.add (Nat.mul c 281474976710656) (Nat.mul p 1099511627776))] 11
def chK (v c : Nat) : Nat → Nat
  | 0 => v
  | k + 1 => fc (chK v c k) fun u => stepK u c k
def endK (s c : Nat) : Nat := fc (hK (32 :: (beK s ++ [c])) 10) fun v => chK v c 15
def lsK {α : Type} (f : Nat → Nat) : Nat → List Nat → (List Nat → α) → α
  | 0, acc, k => k acc
  | n + 1, acc, k => fc (f n) fun v => lsK f n (v :: acc) k
theorem lsK_eq {α : Type} (f : Nat → Nat) : ∀ (n : Nat) (acc : List Nat) (k : List Nat → α), lsK f n acc k = k ((List.range n).map f ++ acc)
  | 0, acc, k => rfl
  | n + 1, acc, k => by
    rw [lsK, fc_eq, lsK_eq f n, List.range_succ, List.map_append, List.append_assoc]; rfl
def oneK (s : Nat) : Nat := lsK (endK s) 18 [] fun l => hK (34 :: flK l) 145
def leK (s j : Nat) : Nat := fc (hK (48 :: (beK s ++ [1, 0, 0, j])) 13) oneK
def rtK : Nat → List Nat → Nat
  | 0, l => hK (17 :: beK (l.headD 0)) 9
  | d + 1, l => fc (rtK d (l.take (Nat.pow 2 d))) fun a => fc (rtK d (l.drop (Nat.pow 2 d))) fun b => hK (18 :: (beK a ++ beK b)) 17
def pubK (s : Nat) : Nat := lsK (leK s) 32 [] fun l => rtK 5 l
theorem pubK_0 : Nat.beq (pubK 144396663052566528) 7777661556218401820 = true := by decide +kernel
theorem pubK_1 : Nat.beq (pubK 144678138029277184) 3328988323590226759 = true := by decide +kernel
theorem pubK_2 : Nat.beq (pubK 144959613005987840) 7795977363967174611 = true := by decide +kernel
def gtxK : List Nat := [1, 4, 0, 0, 0, 0, 0, 60, 6, 3, 1, 0, 0, 0, 0, 0, 0, 3, 2, 0, 0, 0, 0, 0, 0, 3, 3, 0, 0, 0, 0, 0, 0, 3, 4, 0, 0, 0, 0, 0, 0, 3, 5, 0, 0, 0, 0, 0, 0, 3, 6, 0, 0, 0, 0, 0, 0, 3, 107, 239, 205, 250, 65, 156, 20, 28, 0, 0, 0, 0, 0, 100, 46, 50, 241, 62, 25, 4, 195, 71, 0, 0, 0, 0, 0, 50, 108, 48, 224, 27, 144, 63, 231, 211, 0, 0, 0, 0, 0, 0]
theorem gtxK_h : Nat.beq (hK gtxK 100) 7484118400017695999 = true := by decide +kernel
end Go.Proofs.YtneeclacmhhblaaGreat


/-
  The hash of one-time keys and trees: the numbers of the kernel are the program's. No condition.
-/
namespace Go.Proofs.YtneeclacmhhblaaGreat
open Go.RowKit
def tn (l : List UInt8) : List Nat := l.map (·.toNat)
theorem topB_first (b : Nat → UInt8) : ∀ k, topB b (k + 1) = (b 0).toNat * 256 ^ k + topB (fun i => b (i + 1)) k
  | 0 => by simp [topB]
  | k + 1 => by
    rw [topB, topB_first b k, topB, Nat.pow_succ, Nat.add_mul, Nat.mul_assoc, Nat.add_assoc]
theorem hornK_eq : ∀ (k : Nat) (l : List UInt8) (a : Nat), hornK k (tn l) a = a * 256 ^ k + topB (fun i => l.getD i 0) k
  | 0, l, a => by simp [hornK, topB]
  | k + 1, [], a => by
    have h := hornK_eq k [] (Nat.mul a 256)
    have e : hornK (k + 1) (tn []) a = hornK k (tn []) (Nat.mul a 256) := rfl
    rw [e, h, topB_first, Nat.pow_succ]
    show a * 256 * 256 ^ k + _ = _
    simp only [List.getD_nil]
    rw [Nat.mul_assoc, Nat.mul_comm 256]
    simp
  | k + 1, c :: l, a => by
    have h := hornK_eq k l (Nat.add (Nat.mul a 256) c.toNat)
    have e : hornK (k + 1) (tn (c :: l)) a = hornK k (tn l) (Nat.add (Nat.mul a 256) c.toNat) := rfl
    rw [e, h, topB_first, Nat.pow_succ]
    show (a * 256 + c.toNat) * 256 ^ k + _ = _
    simp only [List.getD_cons_zero, List.getD_cons_succ]
    rw [Nat.add_mul, Nat.mul_assoc, Nat.mul_comm 256, Nat.add_assoc]
theorem wordOf_K (l : List UInt8) : (wordOf l).toNat = hornK 8 (tn l) 0 := by rw [hornK_eq, wordOf, nameOf_topB, Nat.zero_mul, Nat.zero_add]
theorem wordsK_eq : ∀ (k : Nat) (l : List UInt8), ((List.range k).map fun j => wordOf (l.drop (8 * j))).map (·.toNat) = wordsK k (tn l)
  | 0, l => rfl
  | k + 1, l => by
    have ih := wordsK_eq k (l.drop 8)
    rw [List.range_succ_eq_map, List.map_cons, List.map_cons, Nat.mul_zero, List.drop_zero, wordOf_K, wordsK]
    refine List.cons_eq_cons.2 ⟨rfl, ?_⟩
    rw [show (tn l).drop 8 = tn (l.drop 8) by simp [tn], ← ih, List.map_map, List.map_map, List.map_map]
    refine List.map_congr_left fun j _ => ?_
    simp only [Function.comp, List.drop_drop, Nat.mul_succ, Nat.succ_eq_add_one, Nat.mul_add, Nat.add_comm]
theorem hK_eq (l : List UInt8) (n : Nat) (hn : l.length = n) (hlt : n < 18446744073709551616) : (sumN l).toNat = hK (tn l) n := by
  rw [sumN_K l _ n hn hlt rfl, wordsK_eq]; rfl
theorem nameB_K (x : UInt64) : tn (nameB x) = beK x.toNat := by
  simp only [tn, nameB, List.map_cons, List.map_nil, nb_lt, beK, Nat.reducePow, Nat.div_one]
  rfl
theorem tn_app (a b : List UInt8) : tn (a ++ b) = tn a ++ tn b := List.map_append
theorem flK_eq : ∀ l : List UInt64, tn (flat l) = flK (l.map (·.toNat))
  | [] => rfl
  | x :: l => by
    have : flat (x :: l) = nameB x ++ flat l := rfl
    rw [this, tn_app, nameB_K, flK_eq l]; rfl
theorem toU8_n (c : Nat) (h : c < 256) : (toU8 (c : Int)).toNat = c := by
  unfold toU8
  rw [UInt8.toNat_ofNat']
  omega
theorem stepK_eq (v : UInt64) (c p : Nat) (hc : c < 256) (hp : p < 256) : (sumN (0x21 :: (nameB v ++ [toU8 (c : Int), toU8 (p : Int)]))).toNat = stepK v.toNat c p := by
  rw [hK_eq _ 11 rfl (by decide)]
  have e : tn (0x21 :: (nameB v ++ [toU8 (c : Int), toU8 (p : Int)])) = 33 :: (beK v.toNat ++ [c, p]) := by
    show (33 : Nat) :: tn (nameB v ++ [toU8 (c : Int), toU8 (p : Int)]) = _
    rw [tn_app, nameB_K]
    simp only [tn, List.map_cons, List.map_nil, toU8_n c hc, toU8_n p hp]
  rw [e]
  have hv := v.toNat_lt
  generalize v.toNat = x at hv
  unfold hK stepK
  have h1 : wordsK (Nat.div (Nat.add 11 7) 8) (33 :: (beK x ++ [c, p])) = [Nat.add 2377900603251621888 (Nat.div x 256), Nat.add (Nat.mul (Nat.mod x 256) 72057594037927936) (Nat.add (Nat.mul c 281474976710656) (Nat.mul p 1099511627776))] := by
    show [((((((((0 * 256 + 33) * 256 + x / 72057594037927936 % 256) * 256 + x / 281474976710656 % 256) * 256 + x / 1099511627776 % 256) * 256 + x / 4294967296 % 256) * 256 + x / 16777216 % 256) * 256 + x / 65536 % 256) * 256 + x / 256 % 256), ((((((((0 * 256 + x % 256) * 256 + c) * 256 + p) * 256) * 256) * 256) * 256) * 256)] = [2377900603251621888 + x / 256, x % 256 * 72057594037927936 + (c * 281474976710656 + p * 1099511627776)]
    exact List.cons_eq_cons.2 ⟨by omega, List.cons_eq_cons.2 ⟨by omega, rfl⟩⟩
  rw [h1]
theorem chK_eq (v : UInt64) (c : Nat) (hc : c < 256) : ∀ k, k < 256 → (chainN sumN v c 0 k).toNat = chK v.toNat c k
  | 0, _ => rfl
  | k + 1, h => by
    rw [chainN, chK, fc_eq, ← chK_eq v c hc k (by omega), ← stepK_eq _ c k hc (by omega), Int.zero_add]
theorem endK_eq (s : UInt64) (c : Nat) (hc : c < 256) : (endN sumN s c).toNat = endK s.toNat c := by
  unfold endN endK
  rw [fc_eq, chK_eq _ c hc 15 (by decide), startN, hK_eq _ 10 rfl (by decide)]
  refine congrArg (fun u => chK u c 15) ?_
  show hK (32 :: tn (nameB s ++ [toU8 (c : Int)])) 10 = _
  rw [tn_app, nameB_K]
  simp only [tn, List.map_cons, List.map_nil, toU8_n c hc]
theorem listF_K (f : Nat → UInt64) (g : Nat → Nat) (n : Nat) (h : ∀ j, j < n → (f j).toNat = g j) : (listF f n).map (·.toNat) = (List.range n).map g := by
  unfold listF
  rw [List.map_map]
  exact List.map_congr_left fun j hj => h j (List.mem_range.1 hj)
theorem oneK_eq (s : UInt64) : (onePub sumN s).toNat = oneK s.toNat := by
  have hl : (flat (listF (endN sumN s) 18)).length = 144 := by rw [flat_length, listF_length]
  unfold onePub oneK
  rw [lsK_eq, hK_eq _ 145 (by rw [List.length_cons, hl]) (by decide), List.append_nil]
  refine congrArg (fun l => hK l 145) ?_
  show 34 :: tn (flat (listF (endN sumN s) 18)) = _
  rw [flK_eq, listF_K _ (endK s.toNat) 18 fun j hj => endK_eq s j (by omega)]
theorem leK_eq (s : UInt64) (j : Nat) (hj : j < 256) : (leafK sumN s j).toNat = leK s.toNat j := by
  unfold leafK leK
  rw [fc_eq, oneK_eq, keyN, hK_eq _ 13 rfl (by decide)]
  refine congrArg oneK ?_
  show hK (48 :: tn (nameB s ++ [1, 0, 0, toU8 (j : Int)])) 13 = _
  rw [tn_app, nameB_K]
  simp only [tn, List.map_cons, List.map_nil, toU8_n j hj]
  rfl
theorem split_2 : splitN 2 = 1 := by rw [splitN, spl2_end (by decide)]
theorem split_4 : splitN 4 = 2 := by rw [splitN, spl2_step (by decide) (by decide), spl2_end (by decide)]
theorem split_8 : splitN 8 = 4 := by rw [splitN, spl2_step (by decide) (by decide), spl2_step (by decide) (by decide), spl2_end (by decide)]
theorem split_16 : splitN 16 = 8 := by rw [splitN, spl2_step (by decide) (by decide), spl2_step (by decide) (by decide), spl2_step (by decide) (by decide), spl2_end (by decide)]
theorem split_32 : splitN 32 = 16 := by rw [splitN, spl2_step (by decide) (by decide), spl2_step (by decide) (by decide), spl2_step (by decide) (by decide), spl2_step (by decide) (by decide), spl2_end (by decide)]
theorem rtK_0 (l : List UInt64) (h : l.length = 1) : (rootN sumN l).toNat = rtK 0 (l.map (·.toNat)) := by
  match l, h with
  | [x], _ =>
    rw [rootN, dif_neg (by simp), if_pos (show [x].length = 1 from rfl), rtK, hK_eq _ 9 rfl (by decide)]
    refine congrArg (fun l => hK l 9) ?_
    show 17 :: tn (nameB x) = _
    rw [nameB_K]; rfl
theorem rtK_s (d : Nat) (hs : splitN (2 ^ (d + 1)) = 2 ^ d) (ih : ∀ l : List UInt64, l.length = 2 ^ d → (rootN sumN l).toNat = rtK d (l.map (·.toNat))) (l : List UInt64) (h : l.length = 2 ^ (d + 1)) : (rootN sumN l).toNat = rtK (d + 1) (l.map (·.toNat)) := by
  have hp : 0 < 2 ^ d := Nat.pow_pos (by decide)
  have h2 : 2 ^ (d + 1) = 2 ^ d + 2 ^ d := by rw [Nat.pow_succ]; omega
  rw [rootN, dif_pos (by omega), h, hs, rtK, fc_eq, fc_eq, hK_eq _ 17 rfl (by decide)]
  refine congrArg (fun l => hK l 17) ?_
  show 18 :: tn (nameB _ ++ nameB _) = _
  rw [tn_app, nameB_K, nameB_K, ih _ (by rw [List.length_take]; omega), ih _ (by rw [List.length_drop]; omega), List.map_take, List.map_drop]
  rfl
theorem pubK_eq (s : UInt64) : (pubN sumN s).toNat = pubK s.toNat := by
  have h5 := rtK_s 4 split_32 (rtK_s 3 split_16 (rtK_s 2 split_8 (rtK_s 1 split_4 (rtK_s 0 split_2 rtK_0))))
  unfold pubN pubK
  rw [lsK_eq, List.append_nil, h5 (treeN sumN s 32) (listF_length _ _)]
  refine congrArg (rtK 5) ?_
  exact listF_K _ (leK s.toNat) 32 fun j hj => leK_eq s j (by omega)
theorem pub_at (s p : UInt64) (h : Nat.beq (pubK s.toNat) p.toNat = true) : pubN sumN s = p := UInt64.toNat_inj.1 (by rw [pubK_eq]; exact Nat.eq_of_beq_eq_true h)
end Go.Proofs.YtneeclacmhhblaaGreat


/-
  The hash: the value of the block above the genesis is not zero, the genesis is not named as that block. No condition.
-/
namespace Go.Proofs.YtneeclacmhhblaaGreat
open Go.RowKit
def vxK : Nat := hK (87 :: (beK 504403158265495552 ++ beK (rtK 0 [hK [86, 0, 0] 3]))) 17
theorem vxK_h : Nat.beq vxK 0 = false := by decide +kernel
theorem leavesX (p : UInt64) (rc : List Rc) : leavesN sumN (X7 p rc).st = [leafG sumN 0] := rfl
theorem val_ne (p : UInt64) (rc : List Rc) : valN sumN (X7 p rc) ≠ 0 := by
  intro h
  have e : (valN sumN (X7 p rc)).toNat = vxK := by
    unfold valN
    rw [leavesX p rc]
    have h1 := rtK_0 [leafG sumN 0] rfl
    have h2 : (leafG sumN 0).toNat = hK [86, 0, 0] 3 := by
      rw [show leafG sumN 0 = sumN [86, 0, 0] from rfl, hK_eq _ 3 rfl (by decide)]; rfl
    rw [hK_eq _ 17 rfl (by decide)]
    unfold vxK
    refine congrArg (fun l => hK l 17) ?_
    show 87 :: tn (nameB (X7 p rc).n ++ nameB (rootN sumN [leafG sumN 0])) = _
    rw [tn_app, nameB_K, nameB_K, h1]
    rw [show List.map (fun x : UInt64 => x.toNat) [leafG sumN 0] = [hK [86, 0, 0] 3] by rw [← h2]; rfl]
    rfl
  rw [h] at e
  have := vxK_h
  rw [← e] at this
  exact absurd this (by decide)
theorem pub_0 : pubN sumN (accS 0) = 7777661556218401820 := pub_at _ _ pubK_0
theorem pub_1 : pubN sumN (accS 1) = 3328988323590226759 := pub_at _ _ pubK_1
theorem pub_2 : pubN sumN (accS 2) = 7795977363967174611 := pub_at _ _ pubK_2
theorem accs_eq : listF (fun i => pubN sumN (accS i)) 3 = [7777661556218401820, 3328988323590226759, 7795977363967174611] := by
  rw [show listF (fun i => pubN sumN (accS i)) 3 = [pubN sumN (accS 0), pubN sumN (accS 1), pubN sumN (accS 2)] from rfl, pub_0, pub_1, pub_2]
theorem genT_eq : tn (genB (gen0 sumN 0)) = gtxK := by
  unfold gen0
  rw [accs_eq]
  decide +kernel
theorem genT_len : (genB (gen0 sumN 0)).length = 100 := by
  have h := congrArg List.length genT_eq
  rw [show (tn (genB (gen0 sumN 0))).length = (genB (gen0 sumN 0)).length from List.length_map _] at h
  exact h
theorem gen_ne : sumN (genB (gen0 sumN 0)) ≠ n7 := by
  intro h
  have e : (sumN (genB (gen0 sumN 0))).toNat = 7484118400017695999 := by
    rw [hK_eq _ 100 genT_len (by decide), genT_eq]
    exact Nat.eq_of_beq_eq_true gtxK_h
  rw [h] at e
  exact absurd e (by decide)
end Go.Proofs.YtneeclacmhhblaaGreat


/-
  Layers 26 and 27: what heavy tells of items and votes. No condition.
-/
namespace Go.Proofs.YtneeclacmhhblaaGreat
open Go.RowKit
open Nat (reduceAdd reduceMul reduceSub)

def hv26 (x : It) : Nat := min x.hd 301 + min x.tp 301 + min x.st.cells.length 301 + min x.st.seqs.length 301 + min x.st.locks.length 301 + min x.st.applied.length 301
def hvL (q : It → Nat) (t : Nat) : List It → Nat → Nat
  | [], n => n
  | x :: l, n => if n ≤ t then hvL q t l (n + q x) else n
theorem hvL_le {q : It → Nat} {t : Nat} : ∀ (l : List It) (n : Nat), hvL q t l n ≤ t → n ≤ t ∧ ∀ x ∈ l, q x ≤ t
  | [], n, h => ⟨h, fun x hx => by cases hx⟩
  | x :: l, n, h => by
    rw [hvL] at h
    split at h
    · rename_i hn
      obtain ⟨h1, h2⟩ := hvL_le l _ h
      refine ⟨hn, fun y hy => ?_⟩
      rcases List.mem_cons.1 hy with rfl | hy
      · omega
      · exact h2 y hy
    · omega
theorem hvL_step {q : It → Nat} {t : Nat} {l : List It} {i : Nat} {x : It} {n : Nat} (h : l[i]? = some x) (hn : n ≤ t) : hvL q t (l.drop i) n = hvL q t (l.drop (i + 1)) (n + q x) := by
  rw [drop_of h, hvL, if_pos hn]
theorem hvL_stop {q : It → Nat} {t : Nat} {l : List It} {n : Nat} (hn : ¬ n ≤ t) : hvL q t l n = n := by
  cases l with
  | nil => rfl
  | cons x l => rw [hvL, if_neg hn]
def heavy26 (l : List It) (vs : Nat) : Bool := decide (300 < hvL hv26 300 l l.length) || decide (600 < vs)
theorem heavy26_no {l : List It} {vs : Nat} (h : heavy26 l vs = false) : l.length ≤ 300 ∧ vs ≤ 600 ∧ ∀ x ∈ l, Sm x.st := by
  unfold heavy26 at h
  rw [Bool.or_eq_false_iff] at h
  have h1 := of_decide_eq_false h.1
  have h2 := of_decide_eq_false h.2
  obtain ⟨h3, h4⟩ := hvL_le l l.length (Nat.not_lt.1 h1)
  refine ⟨h3, by omega, fun x hx => ?_⟩
  have := h4 x hx
  unfold hv26 at this
  exact ⟨by omega, by omega, by omega, by omega⟩
set_option maxHeartbeats 1600000 in
theorem heavy26_ok (l : List It) (f : Bool) (n : Nat) (cs : List AV) [CloL cs] (f2 : Bool) (hl : l.length ≤ 140737488351232) : Fresh Tryz.prog 8 [.ex l.length f (itsA l), .ex n f2 cs] (fun _ => .v (.bool (heavy26 l n))) [] := by
  unfold heavy26
  refine Fresh.of (fn := Tryz.f8) Tryz.func8 rfl (lb rfl) fun w => ?_
  (apply Gol.sr; apply t0; exact s_assign rfl; dsimp only [reduceAdd, reduceMul]; exact dn; exact rfl; apply Gol.sr; apply t0; exact s_move rfl; apply t0
   exact s_len rfl ln_ex; apply t0; exact s_assign rfl; dsimp only [reduceAdd, reduceMul]; exact dn; exact rfl; refine Gol.seq ?_
   apply Gol.sr; apply t0; exact s_assign rfl; dsimp only [reduceAdd, reduceMul]; exact dn; exact rfl; refine Gol.block ?_)
  refine Gol.loop (ι := Nat × Nat) (fun i => i.1 ≤ l.length ∧ i.2 ≤ l.length + 2507 ∧ hvL hv26 300 (l.drop i.1) i.2 = hvL hv26 300 l l.length) (fun i => l.length - i.1) 200 (fun _ => []) (fun i => [(0, .ex l.length f (itsA l)), (1, .ex n f2 cs), (5, .v (.int .i64 (i.2 : Int))), (6, .v (.int .i64 (i.1 : Int)))]) (0, l.length) ⟨Nat.zero_le _, by dsimp only; omega, rfl⟩ ?_ ?_
  · (apply Le.mk3' []; apply RnT3.c; exact rfl; apply Rn3.r; exact Rn.clo inferInstance rfl; apply RnT3.c; exact rfl; apply Rn3.r; exact Rn.clo inferInstance rfl
     apply RnT3.c; exact rfl; apply Rn3.r; exact Rn.v rfl; apply RnT3.c; exact rfl; apply Rn3.r; exact Rn.v rfl; exact RnT3.n; exact RnH3.n; exact rfl; exact rfl)
  rintro ⟨i, m⟩ ⟨hi, hm, he⟩
  dsimp only at hi hm he ⊢
  by_cases hlt : i < l.length
  · have d2 : decide (i < l.length) = true := decide_eq_true hlt
    have hx : l[i]? = some l[i] := List.getElem?_eq_getElem hlt
    generalize l[i] = x at hx
    (refine Gol.seq ?_; apply Gol.sr; apply t0; exact s_move rfl; apply t0; exact s_move rfl; apply t0; exact s_len rfl ln_ex; apply t0; exact s_ltn rfl rfl
     apply t0; exact s_move rfl; apply g0; exact wnt_g rfl rfl rfl (by focus (simp only [*]; rfl)); exact s_move rfl; apply g0; exact wnt_g rfl rfl rfl (by focus (simp only [*]; rfl))
     exact s_len' rfl rfl; apply t0; exact s_pick_t rfl (by assumption) rfl; dsimp only [reduceAdd, reduceMul]; exact dn; exact rfl)
    refine Gol.cond rfl (fun h => ?_) (fun h => ?_)
    · have hmt : m ≤ 300 := of_decide_eq_true h
      rw [hvL_step hx hmt] at he
      (refine Gol.skip ?_; refine thn_n ?_; refine Gol.seq ?_; refine Gol.block ?_; apply Gol.any
       kernel_rfl; apply t0; exact s_move rfl; apply t0; exact s_move rfl; apply t0; exact s_move rfl; apply t0; exact s_ixeD rfl rfl (by omega) (its_ne (by omega)) (its_at (by assumption))
       apply t0; exact s_fieldAddrE rfl; apply t0; exact s_loadE rfl rfl; apply t0; exact s_len rfl ln_ex; apply t0; exact s_minn rfl rfl; apply t0; exact s_addn rfl rfl (by first | omega | exact lb rfl | decide | (simp <;> omega) | (dsimp <;> omega))
       apply t0; exact s_move rfl; apply t0; exact s_move rfl; apply t0; exact s_ixeD rfl rfl (by omega) (its_ne (by omega)) (its_at (by assumption)); apply t0
       exact s_fieldAddrE rfl; apply t0; exact s_loadE rfl rfl; apply t0; exact s_len rfl ln_ex; apply t0; exact s_minn rfl rfl; apply t0; exact s_addn rfl rfl (by first | omega | exact lb rfl | decide | (simp <;> omega) | (dsimp <;> omega))
       apply t0; exact s_move rfl; apply t0; exact s_move rfl; apply t0; exact s_ixeD rfl rfl (by omega) (its_ne (by omega)) (its_at (by assumption)); apply t0
       exact s_fieldAddrE rfl; apply t0; exact s_fieldAddrE rfl; apply t0; exact s_loadE rfl rfl; apply t0; exact s_len rfl ln_ex; apply t0; exact s_minn rfl rfl
       apply t0; exact s_addn rfl rfl (by first | omega | exact lb rfl | decide | (simp <;> omega) | (dsimp <;> omega)); apply t0; exact s_move rfl; apply t0; exact s_move rfl; apply t0; exact s_ixeD rfl rfl (by omega) (its_ne (by omega)) (its_at (by assumption))
       apply t0; exact s_fieldAddrE rfl; apply t0; exact s_fieldAddrE rfl; apply t0; exact s_loadE rfl rfl; apply t0; exact s_len rfl ln_ex; apply t0; exact s_minn rfl rfl
       apply t0; exact s_addn rfl rfl (by first | omega | exact lb rfl | decide | (simp <;> omega) | (dsimp <;> omega)); apply t0; exact s_move rfl; apply t0; exact s_move rfl; apply t0; exact s_ixeD rfl rfl (by omega) (its_ne (by omega)) (its_at (by assumption))
       apply t0; exact s_fieldAddrE rfl; apply t0; exact s_fieldAddrE rfl; apply t0; exact s_loadE rfl rfl; apply t0; exact s_len rfl ln_ex; apply t0; exact s_minn rfl rfl
       apply t0; exact s_addn rfl rfl (by first | omega | exact lb rfl | decide | (simp <;> omega) | (dsimp <;> omega)); apply t0; exact s_move rfl; apply t0; exact s_move rfl; apply t0; exact s_ixeD rfl rfl (by omega) (its_ne (by omega)) (its_at (by assumption))
       apply t0; exact s_fieldAddrE rfl; apply t0; exact s_fieldAddrE rfl; apply t0; exact s_loadE rfl rfl; apply t0; exact s_len rfl ln_ex; apply t0; exact s_minn rfl rfl
       apply t0; exact s_addn rfl rfl (by first | omega | exact lb rfl | decide | (simp <;> omega) | (dsimp <;> omega)); apply t0; exact s_assign rfl; dsimp only [reduceAdd, reduceMul]; exact dn; kernel_rfl; exact rfl; refine inBlk_n ?_
       refine thn_n ?_; apply Gol.region; apply t0; exact s_move rfl; apply t0; exact s_addn rfl rfl (by simp <;> omega); apply t0
       exact s_assign rfl; dsimp only [reduceAdd, reduceMul]; exact dn; exact rfl)
      refine rnd_n (i + 1, m + hv26 x) ⟨by dsimp only; omega, by dsimp only [hv26]; omega, he⟩ (by dsimp only; omega) ?_
      dsimp only [hv26]
      (apply Le.mk3' []; apply RnT3.c; exact rfl; apply Rn3.r; exact Rn.clo inferInstance rfl; apply RnT3.c; exact rfl; apply Rn3.r; exact Rn.clo inferInstance rfl
       apply RnT3.c; exact rfl; apply Rn3.r; apply Rn.v; congr 1; omega; apply RnT3.c; exact rfl; apply Rn3.r; exact Rn.v rfl; exact RnT3.n; exact RnH3.n; exact rfl
       exact rfl)
    · have hmt : ¬ m ≤ 300 := of_decide_eq_false h
      rw [hvL_stop hmt] at he
      rw [← he]
      have hgt : 300 < m := by omega
      clear h he
      rw [decide_eq_true hgt]
      (refine Gol.exit ?_; refine thn_x ?_; refine rnd_x ?_; refine inBlk_hit ?_; refine thn_n ?_
       apply Gol.sr; apply t0; exact s_move rfl; apply t0; exact s_gtn rfl rfl; apply t0; exact s_move rfl; apply sk; exact wnt_g rfl rfl rfl (by focus (simp only [*]; rfl))
       apply sk; exact wnt_g rfl rfl rfl (by focus (simp only [*]; rfl)); apply sk; exact wnt_g rfl rfl rfl (by focus (simp only [*]; rfl)); apply t0; exact s_pick_t rfl (by focus (simp only [*]; rfl)) rfl
       apply t0; exact s_assign rfl; dsimp only [reduceAdd, reduceMul]; exact dn; exact rfl; refine Gol.ret ?_)
      (apply RetQ.mk (by first | exact .inr rfl | exact .inl rfl); apply res_1 rfl; exact res_tmp rfl; exact out_val)
  · have d2 : decide (i < l.length) = false := decide_eq_false hlt
    have : l.drop i = [] := List.drop_eq_nil_of_le (by omega)
    rw [this] at he
    simp only [hvL] at he
    subst he
    (refine Gol.seq ?_; apply Gol.sr; apply t0; exact s_move rfl; apply t0; exact s_move rfl; apply t0; exact s_len rfl ln_ex; apply t0; exact s_ltn rfl rfl
     apply t0; exact s_move rfl; apply sk; exact wnt_g rfl rfl rfl (by focus (simp only [*]; rfl)); apply sk; exact wnt_g rfl rfl rfl (by focus (simp only [*]; rfl))
     apply t0; exact s_pick_f rfl (by assumption) rfl; dsimp only [reduceAdd, reduceMul]; exact dn; exact rfl)
    refine Gol.cond_f rfl rfl ?_
    by_cases h : 300 < hvL hv26 300 l l.length
    · rw [decide_eq_true h]
      (refine Gol.exit ?_; refine thn_x ?_; refine rnd_x ?_; refine inBlk_hit ?_; refine thn_n ?_
       apply Gol.sr; apply t0; exact s_move rfl; apply t0; exact s_gtn rfl rfl; apply t0; exact s_move rfl; apply sk; exact wnt_g rfl rfl rfl (by focus (simp only [*]; rfl))
       apply sk; exact wnt_g rfl rfl rfl (by focus (simp only [*]; rfl)); apply sk; exact wnt_g rfl rfl rfl (by focus (simp only [*]; rfl)); apply t0; exact s_pick_t rfl (by focus (simp only [*]; rfl)) rfl
       apply t0; exact s_assign rfl; dsimp only [reduceAdd, reduceMul]; exact dn; exact rfl; refine Gol.ret ?_)
      (apply RetQ.mk (by first | exact .inr rfl | exact .inl rfl); apply res_1 rfl; exact res_tmp rfl; exact out_val)
    · rw [decide_eq_false h]
      (refine Gol.exit ?_; refine thn_x ?_; refine rnd_x ?_; refine inBlk_hit ?_; refine thn_n ?_
       apply Gol.sr; apply t0; exact s_move rfl; apply t0; exact s_gtn rfl rfl; apply t0; exact s_move rfl; apply g0; exact wnt_g rfl rfl rfl (by focus (simp only [*]; rfl))
       exact s_move rfl; apply g0; exact wnt_g rfl rfl rfl (by focus (simp only [*]; rfl)); exact s_len rfl ln_ex; apply g0; exact wnt_g rfl rfl rfl (by focus (simp only [*]; rfl))
       exact s_gtn rfl rfl; apply t0; exact s_pick_f rfl (by focus (simp only [*]; rfl)) rfl; apply t0; exact s_assign rfl; dsimp only [reduceAdd, reduceMul]
       exact dn; exact rfl; refine Gol.ret ?_)
      (apply RetQ.mk (by first | exact .inr rfl | exact .inl rfl); apply res_1 rfl; exact res_tmp rfl; exact out_val)
end Go.Proofs.YtneeclacmhhblaaGreat


/-
  The law SealValue, given the sanity check. No condition.
-/
namespace Go.Proofs.YtneeclacmhhblaaGreat
open Go.RowKit
open Nat (reduceAdd reduceMul reduceSub)

section
variable (S : List UInt8 → UInt64) (hS : HashF S) (haw : Fresh Tryz.prog 9 [] (fun _ => .v (.bool true)) [])
include hS haw
theorem sealValue_ok (x : It) : Fresh Tryz.prog 3 [.ag (itA x)] (fun _ => .v (.bool true)) [] := by
  have hh := (heavy26_ok [x] false 0 [] false (by simp)).sub sub_nil2
  have hn := heavy26_no (l := [x]) (vs := 0)
  have e : itsA [x] = itA x := by unfold itsA; rw [fA_one]
  rw [e] at hh
  generalize heavy26 [x] 0 = F at hh hn
  cases F with
  | true =>
    refine Fresh.of (fn := Tryz.f3) Tryz.func3 rfl (lb rfl) fun w => ?_
    (apply Gol.sr; apply t1; exact s_box rfl rfl; apply t0; exact s_assign rfl; dsimp only [reduceAdd, reduceMul]; exact dn; exact rfl; refine Gol.seq ?_
     apply Gol.sr; apply t0; exact s_loadW rfl rfl rfl (agu_cua _); apply t1; exact s_lit (PA.cons rfl rfl rfl PA.nil) rfl (by first | omega | exact lb rfl | decide | (simp <;> omega) | (dsimp <;> omega)); apply tq; exact s_call (f := 8) rfl (evs.cons rfl (evs.cons rfl evs.nil)) (ArgL.cons (arg_sl rfl) (ArgL.cons arg_clo ArgL.nil)) hh (lb rfl)
     dsimp only [reduceAdd, reduceMul, reduceSub, na, ca, nbk, mc, ml]; exact dn; exact rfl)
    refine Gol.cond_t rfl rfl ?_
    (apply Gol.sr; apply tq; exact s_call (f := 9) rfl evs.nil ArgL.nil haw (lb rfl); dsimp only [reduceAdd, reduceMul, reduceSub, na, ca, nbk, mc, ml]
     apply t0; exact s_assign rfl; dsimp only [reduceAdd, reduceMul]; exact dn; exact rfl; refine Gol.ret ?_; refine thn_r ?_)
    (apply RetQ.mk (by first | exact .inr rfl | exact .inl rfl); apply res_1 rfl; exact res_tmp rfl; exact out_val)
  | false =>
    have hx := (hn rfl).2.2 x (by simp)
    have h1 := value_ok S hS x hx
    have h2 := refValue_ok S hS x hx
    generalize valN S x = c at h1 h2
    have d : (c == c) = true := by simp
    refine Fresh.of (fn := Tryz.f3) Tryz.func3 rfl (lb rfl) fun w => ?_
    (apply Gol.sr; apply t1; exact s_box rfl rfl; apply t0; exact s_assign rfl; dsimp only [reduceAdd, reduceMul]; exact dn; exact rfl; refine Gol.seq ?_
     apply Gol.sr; apply t0; exact s_loadW rfl rfl rfl (agu_cua _); apply t1; exact s_lit (PA.cons rfl rfl rfl PA.nil) rfl (by first | omega | exact lb rfl | decide | (simp <;> omega) | (dsimp <;> omega)); apply tq; exact s_call (f := 8) rfl (evs.cons rfl (evs.cons rfl evs.nil)) (ArgL.cons (arg_sl rfl) (ArgL.cons arg_clo ArgL.nil)) hh (lb rfl)
     dsimp only [reduceAdd, reduceMul, reduceSub, na, ca, nbk, mc, ml]; exact dn; exact rfl)
    refine Gol.cond_f rfl rfl ?_
    (refine Gol.skip ?_; refine thn_n ?_; refine Gol.seq ?_; apply Gol.any; kernel_rfl
     apply t0; exact s_loadW rfl rfl rfl (agu_cua _); apply tq; exact s_call (f := 10) rfl (evs.cons rfl evs.nil) (ArgL.cons arg_clo ArgL.nil) h1 (lb rfl)
     dsimp only [reduceAdd, reduceMul, reduceSub, na, ca, nbk, mc, ml]; apply t0; exact s_loadW rfl rfl rfl (agu_cua _)
     apply tq; exact s_call (f := 11) rfl (evs.cons rfl evs.nil) (ArgL.cons arg_clo ArgL.nil) h2 (lb rfl)
     dsimp only [reduceAdd, reduceMul, reduceSub, na, ca, nbk, mc, ml]; apply t0; exact s_eqN rfl rfl
     apply t0; exact s_move rfl; apply gq; exact wnt_g rfl rfl rfl (by focus (simp only [*]; rfl)); exact s_call (f := 9) rfl evs.nil ArgL.nil haw (lb rfl)
     dsimp only [reduceAdd, reduceMul, reduceSub, na, ca, nbk, mc, ml]; apply t0; exact s_pick_t rfl (by assumption) rfl
     apply t0; exact s_assign rfl; dsimp only [reduceAdd, reduceMul]; exact dn; kernel_rfl; exact rfl; refine thn_n ?_; refine Gol.ret ?_)
    apply RetQ.bool
    · (apply RetQ.mk (by first | exact .inr rfl | exact .inl rfl); apply res_1 rfl; exact res_tmp rfl; exact out_val)
    · first | rfl | simp
end
end Go.Proofs.YtneeclacmhhblaaGreat


/-
  Arguments of any shape, opened into the program logic. No condition.
-/
namespace Go.Proofs.YtneeclacmhhblaaGreat
open Go.ChangeShapes Go.WideShapes Go.ChangeAt Go.RowKit

section
variable {P : Program}
def Opn (P : Program) (t : TypeId) (k : Nat) {α : Type} (q : α → Prop) (f : α → List AV) : Prop :=
  ∀ (H : Type) (enc : TypeId × Value → H) (w : World) (base : Nat) (held : Bool) (fuel : Nat) (cs : List Value) (x : DataW H × List MemPlace),
    DataW.trod enc P w base (fun _ => true) held fuel t cs = some x → (∀ n ∈ x.1.weights P t, n ≤ reachBytes) → ∃ a, q a ∧ (f a).length = k ∧ RVs (E0 w) (f a) cs
theorem RVs.one {E : Env} {a : AV} {x : Value} (h : RV E a x) : RVs E [a] [x] :=
  ⟨rfl, fun j c y hc hy => by cases j with | zero => simp at hc hy; subst hc hy; exact h | succ j => simp at hc⟩
theorem opn_i64 {t : TypeId} (ht : P.underlying t = some (.int .i64)) : Opn P t 1 (fun a : Int => -9223372036854775808 ≤ a ∧ a ≤ 9223372036854775807) (fun a => [.v (.int .i64 a)]) := by
  intro H enc w base held fuel cs x h _
  obtain ⟨z, rfl, _, hwf⟩ := DataW.trod_int ht h
  have hbd := bounds_i64 hwf
  exact ⟨z, by omega, rfl, RVs.one (.v _)⟩
theorem opn_name {t e : TypeId} (ht : P.underlying t = some (.array 8 e)) (he : P.underlying e = some (.int .u8)) (hce : P.cellsOf e = 1) (hct : P.cellsOf t = 8) : Opn P t 8 (fun _ : UInt64 => True) (fun a => byA (nameB a)) := by
  intro H enc w base held fuel cs x h _
  obtain ⟨n, rfl⟩ := trod_name ht he hce hct h
  refine ⟨n, trivial, rfl, ?_⟩
  exact RVs.vals (nameC n).toList
def OpnL (P : Program) (fs : List Field) (o k : Nat) {α : Type} (q : α → Prop) (f : α → List AV) : Prop :=
  ∀ (H : Type) (enc : TypeId × Value → H) (w : World) (base : Nat) (held : Bool) (n : Nat) (cs : List Value) (xs : List (DataW H × List MemPlace)), xs.length = fs.length →
    (∀ (i : Nat) (fd : Field), fs[i]? = some fd → DataW.trod enc P w base (fun _ => true) held n fd.type ((cs.drop fd.offset).take (P.cellsOf fd.type)) = xs[i]?) →
    (∀ m ∈ DataW.weightsEach P (fs.map (·.type)) (xs.map (·.1)), m ≤ reachBytes) → ∃ a, q a ∧ (f a).length = k ∧ RVs (E0 w) (f a) ((cs.drop o).take k)
theorem OpnL.nil {o : Nat} : OpnL P [] o 0 (fun _ : Unit => True) (fun _ => []) := by
  intro H enc w base held n cs xs _ _ _
  exact ⟨(), trivial, rfl, by rw [List.take_zero]; exact RVs.vals []⟩
theorem OpnL.cons {fd : Field} {fs : List Field} {o k0 k1 : Nat} {α β : Type} {q : α → Prop} {f : α → List AV} {r : β → Prop} {g : β → List AV} (ho : fd.offset = o) (hk : P.cellsOf fd.type = k0) (h0 : Opn P fd.type k0 q f) (h1 : OpnL P fs (o + k0) k1 r g) :
    OpnL P (fd :: fs) o (k0 + k1) (fun p : α × β => q p.1 ∧ r p.2) (fun p => f p.1 ++ g p.2) := by
  intro H enc w base held n cs xs hl h hw
  cases xs with
  | nil => simp at hl
  | cons x xs =>
    have hx := h 0 fd rfl
    simp only [List.getElem?_cons_zero] at hx
    simp only [List.map_cons, DataW.weightsEach, List.mem_append] at hw
    obtain ⟨a, qa, la, ra⟩ := h0 _ enc w base held n _ x hx (fun m hm => hw m (.inl hm))
    obtain ⟨b, qb, lb, rb⟩ := h1 _ enc w base held n cs xs (by simpa using hl) (fun i fd' hi => by simpa using h (i + 1) fd' (by simpa using hi)) (fun m hm => hw m (.inr hm))
    refine ⟨(a, b), ⟨qa, qb⟩, by simp [la, lb], ?_⟩
    rw [ho, hk] at ra
    rw [List.take_add, List.drop_drop]
    exact ra.append rb
theorem Opn.struct {t : TypeId} {fs : Array Field} {k : Nat} {α : Type} {q : α → Prop} {f : α → List AV} (ht : P.underlying t = some (.struct fs)) (hk : P.cellsOf t = k) (h : OpnL P fs.toList 0 k q f) : Opn P t k q f := by
  intro H enc w base held fuel cs x hx hw
  obtain ⟨xs, n, _, rfl, hl, hlen, hf⟩ := DataW.trod_struct ht hx
  simp only [DataW.weights, ht] at hw
  obtain ⟨a, qa, la, ra⟩ := h _ enc w base held n cs xs (by simpa using hlen) (fun i fd hi => hf i fd (by simpa using hi)) hw
  refine ⟨a, qa, la, ?_⟩
  rw [List.drop_zero, List.take_of_length_le (by omega)] at ra
  exact ra
theorem Opn.map {t : TypeId} {k : Nat} {α β : Type} {q : α → Prop} {f : α → List AV} {r : β → Prop} {g : β → List AV} (h : Opn P t k q f) (m : α → β) (hq : ∀ a, q a → r (m a)) (hf : ∀ a, g (m a) = f a) : Opn P t k r g := by
  intro H enc w base held fuel cs x hx hw
  obtain ⟨a, qa, la, ra⟩ := h _ enc w base held fuel cs x hx hw
  exact ⟨m a, hq a qa, by rw [hf]; exact la, by rw [hf]; exact ra⟩
theorem cells_get {w : World} {base : Nat} {a : Addr} {n : Nat} {xs : List Value} (h : w.cells? base a n = some xs) : xs.length = n ∧ ∀ (j : Nat) x, xs[j]? = some x → w.cell? (a.add j) = some x := by
  unfold World.cells? at h
  split at h
  · have hl := mapM_some_length h
    rw [List.length_range] at hl
    refine ⟨hl, fun j x hx => ?_⟩
    have hj : j < n := by
      by_cases hj : j < n
      · exact hj
      · rw [List.getElem?_eq_none (by omega)] at hx; cases hx
    have := mapM_some_get h j j (by simp [hj])
    rw [this, hx]
  · cases h
theorem weights_all {H : Type} {e : TypeId} {ds : List (DataW H)} {d : DataW H} (h : d ∈ ds) {n : Nat} (hn : n ∈ d.weights P e) : n ∈ DataW.weightsAll P e ds := by
  induction ds with
  | nil => cases h
  | cons x xs ih =>
    simp only [DataW.weightsAll, List.mem_append]
    rcases List.mem_cons.1 h with rfl | h
    · exact .inl hn
    · exact .inr (ih h)
theorem rows_of {α : Type} {k : Nat} {q : α → Prop} {f : α → List AV} {w : World} {blk : Nat} (n : Nat) : ∀ (off : Nat), (∀ i, i < n → ∃ a cs, q a ∧ (f a).length = k ∧ RVs (E0 w) (f a) cs ∧ ∀ (j : Nat) x, cs[j]? = some x → w.cell? ⟨blk, off + i * k + j, none⟩ = some x) →
    ∃ (l : List α) (xs : List Value), l.length = n ∧ (∀ a ∈ l, q a) ∧ RVs (E0 w) (l.flatMap f) xs ∧ (∀ (j : Nat) x, xs[j]? = some x → w.cell? ⟨blk, off + j, none⟩ = some x) := by
  induction n with
  | zero => intro off _; exact ⟨[], [], rfl, by simp, RVs.vals [], by simp⟩
  | succ n ih =>
    intro off h
    obtain ⟨a, cs, qa, la, ra, ca⟩ := h 0 (by omega)
    obtain ⟨l, xs, ll, ql, rl, cl⟩ := ih (off + k) (fun i hi => by
      obtain ⟨a, cs, qa, la, ra, ca⟩ := h (i + 1) (by omega)
      refine ⟨a, cs, qa, la, ra, fun j x hx => ?_⟩
      have := ca j x hx
      rw [Nat.add_mul, Nat.one_mul] at this
      rw [← this]
      congr 2
      omega)
    have lcs : cs.length = k := by rw [← la, ra.1]
    refine ⟨a :: l, cs ++ xs, by simp [ll], fun b hb => by rcases List.mem_cons.1 hb with rfl | hb; exact qa; exact ql b hb, by rw [List.flatMap_cons]; exact ra.append rl, fun j x hx => ?_⟩
    by_cases hj : j < k
    · rw [List.getElem?_append_left (by omega)] at hx
      simpa using ca j x hx
    · rw [List.getElem?_append_right (by omega), lcs] at hx
      have := cl _ x hx
      rw [← this]
      congr 2
      omega
theorem Opn.slice {t e : TypeId} {k : Nat} {α : Type} {q : α → Prop} {f : α → List AV} (ht : P.underlying t = some (.slice e)) (hk : P.cellsOf e = k) (h : Opn P e k q f) :
    Opn P t 1 (fun l : List α => l.length * P.bytesOf e ≤ reachBytes ∧ ∀ a ∈ l, q a) (fun l => [.ex l.length false (l.flatMap f)]) := by
  intro H enc w base held fuel cs x hx hw
  rcases DataW.trod_slice ht hx with ⟨rfl, rfl⟩ | ⟨a, len, cap, elems, rest, n, _, rfl, rfl, hb, hlc, hm, hel, hg, hs, _⟩
  · exact ⟨[], ⟨by simp, by simp⟩, rfl, RVs.one (.ex0 _ _ _ _ (Nat.le_refl _) (fun h => by cases h))⟩
  · simp only [DataW.weights, ht, List.mem_cons, List.mem_append] at hw
    have hsz := hw _ (.inl rfl)
    have hlen : (elems.map (·.1)).length * P.bytesOf e ≤ reachBytes := Nat.le_trans (Nat.mul_le_mul_right _ (Nat.le_add_right _ _)) hsz
    obtain ⟨blk, off, spot⟩ := a
    by_cases hc : len = 0 ∨ k = 0
    · have hz : ∃ l : List α, l.length = len ∧ (∀ a ∈ l, q a) ∧ l.flatMap f = [] := by
        rcases hc with rfl | rfl
        · exact ⟨[], rfl, by simp, rfl⟩
        · have : ∀ i, i < len → ∃ a, q a ∧ f a = [] := fun i hi => by
            have h1 := hg i hi
            rw [List.getElem?_eq_getElem (by omega)] at h1
            obtain ⟨ys, _, hy⟩ := Option.bind_eq_some_iff.1 h1
            obtain ⟨a, qa, la, _⟩ := h _ enc w base held n ys _ hy (fun m hm => hw m (.inr (.inl (weights_all (List.mem_map_of_mem (List.getElem_mem (by omega))) hm))))
            exact ⟨a, qa, List.eq_nil_of_length_eq_zero la⟩
          cases len with
          | zero => exact ⟨[], rfl, by simp, rfl⟩
          | succ m =>
            obtain ⟨a, qa, fa⟩ := this 0 (by omega)
            exact ⟨List.replicate (m + 1) a, by simp, fun b hb => by rw [(List.mem_replicate.1 hb).2]; exact qa, by simp [fa]⟩
      obtain ⟨l, ll, ql, fl⟩ := hz
      refine ⟨l, ⟨by rw [ll, ← hel]; simpa using hlen, ql⟩, rfl, RVs.one ?_⟩
      rw [fl, ll]
      exact .ex0 _ _ _ _ hlc (fun h => by cases h)
    · have hrow : ∀ i, i < len → ∃ a ys, q a ∧ (f a).length = k ∧ RVs (E0 w) (f a) ys ∧ ∀ (j : Nat) x, ys[j]? = some x → w.cell? ((⟨blk, off, spot⟩ : Addr).add (i * k) |>.add j) = some x := fun i hi => by
        have h1 := hg i hi
        rw [List.getElem?_eq_getElem (by omega)] at h1
        obtain ⟨ys, hc, hy⟩ := Option.bind_eq_some_iff.1 h1
        obtain ⟨a, qa, la, ra⟩ := h _ enc w base held n ys _ hy (fun m hm => hw m (.inr (.inl (weights_all (List.mem_map_of_mem (List.getElem_mem (by omega))) hm))))
        rw [hk] at hc
        exact ⟨a, ys, qa, la, ra, (cells_get hc).2⟩
      have hspot : spot = none := by
        obtain ⟨a, ys, qa, la, ra, ca⟩ := hrow 0 (by omega)
        have hys : 0 < ys.length := by have := ra.1; omega
        have := World.cell?_spot (ca 0 _ (List.getElem?_eq_getElem hys))
        unfold Addr.add at this
        split at this <;> simp_all
      subst hspot
      have hadd : ∀ i j, ((⟨blk, off, none⟩ : Addr).add i |>.add j) = ⟨blk, off + i + j, none⟩ := fun i j => by
        have : ∀ o m, (⟨blk, o, none⟩ : Addr).add m = ⟨blk, o + m, none⟩ := fun o m => by unfold Addr.add; split <;> simp_all
        rw [this, this]
      obtain ⟨l, xs, ll, ql, rl, cl⟩ := rows_of (w := w) (blk := blk) (k := k) len off (fun i hi => by
        obtain ⟨a, ys, qa, la, ra, ca⟩ := hrow i hi
        exact ⟨a, ys, qa, la, ra, fun j x hx => by rw [← hadd]; exact ca j x hx⟩)
      refine ⟨l, ⟨by rw [ll, ← hel]; simpa using hlen, ql⟩, rfl, RVs.one ?_⟩
      rw [ll]
      by_cases hx0 : xs = []
      · have : l.flatMap f = [] := List.eq_nil_of_length_eq_zero (by have := rl.1; rw [hx0] at this; simpa using this.symm)
        rw [this]
        exact .ex0 _ _ _ _ hlc (fun h => by cases h)
      · refine .ex _ _ _ blk off cap xs hlc (fun h => by cases h) ?_ (fun h => h) rl.1 cl rl.2
        have h0 : 0 < xs.length := List.length_pos_iff.2 hx0
        exact block_lt_of_cell (cl 0 _ (List.getElem?_eq_getElem h0))
theorem flat_cells (l : List UInt64) : l.flatMap (fun a => byA (nameB a)) = byA (flat l) := by
  induction l with
  | nil => rfl
  | cons a l ih => rw [List.flatMap_cons, ih]; simp only [flat, byA, List.flatMap_cons, List.map_append]
theorem opn_names {t e u : TypeId} (ht : P.underlying t = some (.slice e)) (he : P.underlying e = some (.array 8 u)) (hu : P.underlying u = some (.int .u8)) (hcu : P.cellsOf u = 1) (hce : P.cellsOf e = 8) (hb : P.bytesOf e = 8) :
    Opn P t 1 (fun l : List UInt64 => l.length * 8 ≤ 140737488351232) (fun l => [.ex l.length false (byA (flat l))]) :=
  (Opn.slice ht hce (opn_name he hu hcu hce)).map (fun l => l) (fun l h => by have := h.1; rw [hb] at this; exact this) (fun l => by rw [flat_cells])
end
theorem Opn.arg {P : Program} {t : TypeId} {k : Nat} {α : Type} {q : α → Prop} {f : α → List AV} (h : Opn P t k q f) {H : Type} {enc : TypeId × Value → H} {w : World} {base : Nat} {held : Bool} {v : Value} {d : DataW H} {p : List MemPlace}
    (hv : DataW.Trod enc P w base (fun _ => true) held t v d p) (hs : ∀ n ∈ d.weights P t, n ≤ reachBytes) : ∃ a, q a ∧ RVs (E0 w) (f a) v.cells.toList := by
  obtain ⟨fuel, hf⟩ := hv
  obtain ⟨a, qa, _, ra⟩ := h _ enc w base held fuel _ _ hf hs
  exact ⟨a, qa, ra⟩
theorem weights_arg {P : Program} {H : Type} {ts : List TypeId} {ds : List (DataW H)} (h : (DataW.weightsEach P ts ds).all (· ≤ reachBytes) = true) {j : Nat} {t : TypeId} {d : DataW H} (ht : ts[j]? = some t) (hd : ds[j]? = some d) : ∀ n ∈ d.weights P t, n ≤ reachBytes := fun n hn => by
  simpa using List.all_eq_true.1 h _ (DataW.weights_mem_each ht hd n hn)
end Go.Proofs.YtneeclacmhhblaaGreat


/-
  Layer 21: arguments that are cells, entries, locks, states and inclusions, opened. No condition.
-/
namespace Go.Proofs.YtneeclacmhhblaaGreat
open Go.ChangeShapes Go.WideShapes Go.ChangeAt Go.RowKit
theorem rv_struct {P : Program} {w : World} {r : Reach} {b0 : Nat} {t : TypeId} {v : Value} {fs : Array Field} {E : Env} {cs : List AV} (ht : P.underlying t = some (.struct fs)) (hv : Value.okWide P w r b0 t v) (h : RVs E cs v.cells.toList) : RV E (.ag cs) v := by
  simp only [Value.okWide, ht] at hv
  obtain ⟨xs, rfl, _⟩ := hv
  exact .ag _ _ (by simpa [Value.cells] using h.1) (fun j c x hc hx => h.2 j c x hc (by simpa [Value.cells] using hx))
def okC (c : Cl) : Prop := okZ c.k ∧ okZ c.i
def okD (d : Dl) : Prop := okZ d.k ∧ okZ d.i ∧ okZ d.a
def okK (d : Lk) : Prop := okZ d.o ∧ okZ d.t ∧ okZ d.u
theorem opn_cell : Opn Tryz.prog 136 10 okC (fun c => (cellC c.k c.i c.n).toList.map AV.v) := by
  have hI := opn_i64 Tryz.underlying3
  have hN := opn_name Tryz.underlying23 Tryz.underlying5 (by kernel_rfl) (by kernel_rfl)
  have h := Opn.struct (P := Tryz.prog) (t := 136) (k := 10) Tryz.underlying136 (by kernel_rfl)
    (OpnL.cons (k0 := 1) (k1 := 9) rfl (by kernel_rfl) hI (OpnL.cons (k0 := 1) (k1 := 8) rfl (by kernel_rfl) hI (OpnL.cons (k0 := 8) (k1 := 0) rfl (by kernel_rfl) hN OpnL.nil)))
  exact h.map (fun p => ⟨p.1, p.2.1, p.2.2.1⟩) (fun p q => ⟨q.1, q.2.1⟩) (fun p => rfl)
theorem opn_delta : Opn Tryz.prog 138 11 okD dA := by
  have hI := opn_i64 Tryz.underlying3
  have h := Opn.struct (P := Tryz.prog) (t := 138) (k := 11) Tryz.underlying138 (by kernel_rfl)
    (OpnL.cons (k0 := 10) (k1 := 1) rfl (by kernel_rfl) opn_cell (OpnL.cons (k0 := 1) (k1 := 0) rfl (by kernel_rfl) hI OpnL.nil))
  exact h.map (fun p => ⟨p.1.k, p.1.i, p.1.n, p.2.1⟩) (fun p q => ⟨q.1.1, q.1.2, q.2.1⟩) (fun p => rfl)
theorem opn_lock : Opn Tryz.prog 141 19 okK lA := by
  have hI := opn_i64 Tryz.underlying3
  have hN := opn_name Tryz.underlying23 Tryz.underlying5 (by kernel_rfl) (by kernel_rfl)
  have h := Opn.struct (P := Tryz.prog) (t := 141) (k := 19) Tryz.underlying141 (by kernel_rfl)
    (OpnL.cons (k0 := 8) (k1 := 11) rfl (by kernel_rfl) hN (OpnL.cons (k0 := 8) (k1 := 3) rfl (by kernel_rfl) hN (OpnL.cons (k0 := 1) (k1 := 2) rfl (by kernel_rfl) hI (OpnL.cons (k0 := 1) (k1 := 1) rfl (by kernel_rfl) hI (OpnL.cons (k0 := 1) (k1 := 0) rfl (by kernel_rfl) hI OpnL.nil)))))
  exact h.map (fun p => ⟨p.1, p.2.1, p.2.2.1, p.2.2.2.1, p.2.2.2.2.1⟩) (fun p q => ⟨q.2.2.1, q.2.2.2.1, q.2.2.2.2.1⟩) (fun p => rfl)
theorem opn_deltas : Opn Tryz.prog 27 1 (fun l : List Dl => l.length ≤ 140737488351232 ∧ ∀ a ∈ l, okD a) (fun l => [.ex l.length false (dsA l)]) :=
  (Opn.slice Tryz.underlying27 (by kernel_rfl) opn_delta).map (fun l => l) (fun l h => by
    have hb : Tryz.prog.bytesOf 138 = 32 := by kernel_rfl
    have := h.1
    rw [hb] at this
    have hr : reachBytes = 140737488351232 := rfl
    exact ⟨by omega, h.2⟩) (fun l => rfl)
theorem opn_locks : Opn Tryz.prog 29 1 (fun l : List Lk => l.length ≤ 140737488351232 ∧ ∀ a ∈ l, okK a) (fun l => [.ex l.length false (lsA l)]) :=
  (Opn.slice Tryz.underlying29 (by kernel_rfl) opn_lock).map (fun l => l) (fun l h => by
    have hb : Tryz.prog.bytesOf 141 = 40 := by kernel_rfl
    have := h.1
    rw [hb] at this
    have hr : reachBytes = 140737488351232 := rfl
    exact ⟨by omega, h.2⟩) (fun l => rfl)
theorem inA_cells (l : List Int) : l.flatMap (fun a => [AV.v (.int .i64 a)]) = inA l := by
  induction l with
  | nil => rfl
  | cons a l ih => rw [List.flatMap_cons, ih]; rfl
theorem opn_ints : Opn Tryz.prog 28 1 (fun l : List Int => l.length ≤ 140737488351232 ∧ ∀ a ∈ l, okZ a) (fun l => [.ex l.length false (inA l)]) :=
  (Opn.slice Tryz.underlying28 (by kernel_rfl) (opn_i64 Tryz.underlying3)).map (fun l => l) (fun l h => by
    have hb : Tryz.prog.bytesOf 3 = 8 := by kernel_rfl
    have := h.1
    rw [hb] at this
    have hr : reachBytes = 140737488351232 := rfl
    exact ⟨by omega, h.2⟩) (fun l => by rw [inA_cells])
structure OkS (S : Stt) : Prop where
  c : S.cells.length ≤ 140737488351232 ∧ ∀ a ∈ S.cells, okD a
  q : S.seqs.length ≤ 140737488351232 ∧ ∀ a ∈ S.seqs, okZ a
  l : S.locks.length ≤ 140737488351232 ∧ ∀ a ∈ S.locks, okK a
  a : S.applied.length * 8 ≤ 140737488351232
  g : okZ S.guilty
def stQ (s : Stt) : List AV := [.ex s.cells.length false (dsA s.cells), .ex s.seqs.length false (inA s.seqs), .ex s.locks.length false (lsA s.locks), .ex s.applied.length false (byA (flat s.applied)), .v (.int .i64 s.guilty)]
theorem opn_state : Opn Tryz.prog 31 5 OkS stQ := by
  have hM := opn_i64 Tryz.underlying26
  have hN := opn_names Tryz.underlying25 Tryz.underlying23 Tryz.underlying5 (by kernel_rfl) (by kernel_rfl) (by kernel_rfl)
  have h := Opn.struct (P := Tryz.prog) (t := 31) (k := 5) Tryz.underlying31 (by kernel_rfl)
    (OpnL.cons (k0 := 1) (k1 := 4) rfl (by kernel_rfl) opn_deltas (OpnL.cons (k0 := 1) (k1 := 3) rfl (by kernel_rfl) opn_ints (OpnL.cons (k0 := 1) (k1 := 2) rfl (by kernel_rfl) opn_locks (OpnL.cons (k0 := 1) (k1 := 1) rfl (by kernel_rfl) hN (OpnL.cons (k0 := 1) (k1 := 0) rfl (by kernel_rfl) hM OpnL.nil)))))
  exact h.map (fun x => ⟨x.1, x.2.1, x.2.2.1, x.2.2.2.1, x.2.2.2.2.1⟩) (fun x q => ⟨q.1, q.2.1, q.2.2.1, q.2.2.2.1, q.2.2.2.2.1⟩) (fun x => rfl)
structure Inc where
  i : Int
  n : Int
  p : List UInt64
end Go.Proofs.YtneeclacmhhblaaGreat


/-
  An argument that is a vote, opened. No condition.
-/
namespace Go.Proofs.YtneeclacmhhblaaGreat
open Go.ChangeShapes Go.WideShapes Go.ChangeAt Go.RowKit

end Go.Proofs.YtneeclacmhhblaaGreat


/-
  Layers 26 and 27: arguments that are items, lists of items and of votes, opened. No condition.
-/
namespace Go.Proofs.YtneeclacmhhblaaGreat
open Go.ChangeShapes Go.WideShapes Go.ChangeAt Go.RowKit
theorem Opn.slice0 {P : Program} {t e : TypeId} (ht : P.underlying t = some (.slice e)) : Opn P t 1 (fun n : Nat => n * P.bytesOf e ≤ reachBytes) (fun n => [.ex n false []]) := by
  intro H enc w base held fuel cs x hx hw
  rcases DataW.trod_slice ht hx with ⟨rfl, rfl⟩ | ⟨a, len, cap, elems, rest, n, _, rfl, rfl, hb, hlc, hm, hel, hg, hs, _⟩
  · exact ⟨0, by simp, rfl, RVs.one (.ex0 _ _ _ _ (Nat.le_refl _) (fun h => by cases h))⟩
  · simp only [DataW.weights, ht, List.mem_cons, List.mem_append] at hw
    have hsz := hw _ (.inl rfl)
    have hlen : (elems.map (·.1)).length * P.bytesOf e ≤ reachBytes := Nat.le_trans (Nat.mul_le_mul_right _ (Nat.le_add_right _ _)) hsz
    refine ⟨len, ?_, rfl, RVs.one (.ex0 _ _ _ _ hlc (fun h => by cases h))⟩
    rw [List.length_map, hel] at hlen
    exact hlen
theorem reach_val : reachBytes = 140737488351232 := rfl
def okR (r : Rc) : Prop := okZ r.c ∧ r.e ≤ 140737488351232 ∧ okZ r.o ∧ okZ r.g
theorem opn_receipt : Opn Tryz.prog 73 4 okR rcA := by
  have hI := opn_i64 Tryz.underlying3
  have hM := opn_i64 Tryz.underlying26
  have hE := opn_i64 Tryz.underlying71
  have hD := Opn.slice0 Tryz.underlying27
  have hb : Tryz.prog.bytesOf 138 = 32 := by kernel_rfl
  rw [hb, reach_val] at hD
  have h := Opn.struct (P := Tryz.prog) (t := 73) (k := 4) Tryz.underlying73 (by kernel_rfl)
    (OpnL.cons (k0 := 1) (k1 := 3) rfl (by kernel_rfl) hE (OpnL.cons (k0 := 1) (k1 := 2) rfl (by kernel_rfl) hD (OpnL.cons (k0 := 1) (k1 := 1) rfl (by kernel_rfl) hI (OpnL.cons (k0 := 1) (k1 := 0) rfl (by kernel_rfl) hM OpnL.nil))))
  exact h.map (fun p => (⟨p.1, p.2.1, p.2.2.1, p.2.2.2.1⟩ : Rc)) (fun p q => ⟨q.1, by have := q.2.1; show p.2.1 ≤ _; omega, q.2.2.1, q.2.2.2.1⟩) (fun p => rfl)
theorem opn_receipts : Opn Tryz.prog 33 1 (fun l : List Rc => l.length ≤ 140737488351232 ∧ ∀ a ∈ l, okR a) (fun l => [.ex l.length false (rcsA l)]) :=
  (Opn.slice Tryz.underlying33 (by kernel_rfl) opn_receipt).map (fun l => l) (fun l h => by
    have hb : Tryz.prog.bytesOf 73 = 48 := by kernel_rfl
    have := h.1
    rw [hb, reach_val] at this
    exact ⟨by omega, h.2⟩) (fun l => rfl)
structure OkI (x : It) : Prop where
  k : okZ x.k
  h : okZ x.h
  hd : x.hd ≤ 140737488351232
  tp : x.tp ≤ 140737488351232
  cm : okZ x.cm
  st : OkS x.st
  rc : x.rc.length ≤ 140737488351232 ∧ ∀ a ∈ x.rc, okR a
theorem opn_item : Opn Tryz.prog 35 28 OkI itA := by
  have hI := opn_i64 Tryz.underlying3
  have hN := opn_name Tryz.underlying23 Tryz.underlying5 (by kernel_rfl) (by kernel_rfl)
  have hM := opn_i64 Tryz.underlying26
  have hH := Opn.slice0 Tryz.underlying24
  have hT := Opn.slice0 Tryz.underlying25
  have hX := Opn.slice0 Tryz.underlying32
  have hb1 : Tryz.prog.bytesOf 200 = 16 := by kernel_rfl
  have hb2 : Tryz.prog.bytesOf 23 = 8 := by kernel_rfl
  rw [hb1, reach_val] at hH
  rw [hb2, reach_val] at hT
  have h := Opn.struct (P := Tryz.prog) (t := 35) (k := 28) Tryz.underlying35 (by kernel_rfl)
    (OpnL.cons (k0 := 8) (k1 := 20) rfl (by kernel_rfl) hN (OpnL.cons (k0 := 1) (k1 := 19) rfl (by kernel_rfl) hI (OpnL.cons (k0 := 1) (k1 := 18) rfl (by kernel_rfl) hI
    (OpnL.cons (k0 := 8) (k1 := 10) rfl (by kernel_rfl) hN (OpnL.cons (k0 := 1) (k1 := 9) rfl (by kernel_rfl) hH (OpnL.cons (k0 := 1) (k1 := 8) rfl (by kernel_rfl) hT
    (OpnL.cons (k0 := 1) (k1 := 7) rfl (by kernel_rfl) hM (OpnL.cons (k0 := 5) (k1 := 2) rfl (by kernel_rfl) opn_state (OpnL.cons (k0 := 1) (k1 := 1) rfl (by kernel_rfl) hX (OpnL.cons (k0 := 1) (k1 := 0) rfl (by kernel_rfl) opn_receipts OpnL.nil))))))))))
  exact h.map (fun p => (⟨p.1, p.2.1, p.2.2.1, p.2.2.2.1, p.2.2.2.2.1, p.2.2.2.2.2.1, p.2.2.2.2.2.2.1, p.2.2.2.2.2.2.2.1, p.2.2.2.2.2.2.2.2.1, p.2.2.2.2.2.2.2.2.2.1⟩ : It))
    (fun p q => ⟨q.2.1, q.2.2.1, by have := q.2.2.2.2.1; show p.2.2.2.2.1 ≤ _; omega, by have := q.2.2.2.2.2.1; show p.2.2.2.2.2.1 ≤ _; omega, q.2.2.2.2.2.2.1, q.2.2.2.2.2.2.2.1, q.2.2.2.2.2.2.2.2.2.1⟩) (fun p => rfl)
end Go.Proofs.YtneeclacmhhblaaGreat

