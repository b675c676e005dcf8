/-
  Texts laid together: Ch, Ch2, Rv, Rw, Rw2, Lb, Vp, A0, Te, Sg, A27, Kn, Hk, Hn, Vx, Hv. Conditions: as told in each.
-/
import Derived.Test.YtneeclacmhhblaaGreatKC4
set_option linter.unusedSimpArgs false
set_option linter.unusedVariables false
set_option linter.unusedSectionVars false
/-
  Layer 27, cover: chains. Conditions: lengths below 2^20, states of at most 100000 entries each.
-/
namespace Go.Proofs.YtneeclacmhhblaaGreat
open Go.RowKit
open Nat (reduceAdd reduceMul reduceSub)

theorem Acts.nilV {P : Program} {f : FuncId} {H0 : List ABlk} {args : List AV} {H1 : List (Option ABlk)} (e : TypeId) (sz : Nat) (h : Acts P f H0 args (.v (.slice none 0 0)) H1) : Acts P f H0 args (.sl H1.length 0) (H1 ++ [some ⟨[], e, sz⟩]) := by
  intro hid E0 xs h1 h2 h3 h4 h5 h6
  refine (h hid E0 xs h1 h2 h3 h4 h5 h6).mono ?_
  rintro en w' ⟨x, ls, rfl, a1, a2, a3, a4, a5, a6, a7, a8, a9, a10⟩
  have hin : ∀ (j : Nat) (blk : ABlk), (H1 ++ [some ⟨[], e, sz⟩])[j]? = some (some blk) → (j < H1.length ∧ H1[j]? = some (some blk)) ∨ (j = H1.length ∧ blk = ⟨[], e, sz⟩) := fun j blk hj => by
    by_cases hlt : j < H1.length
    · rw [List.getElem?_append_left hlt] at hj; exact .inl ⟨hlt, hj⟩
    · have hlt2 := (List.getElem?_eq_some_iff.1 hj).1
      simp at hlt2
      obtain rfl : j = H1.length := by omega
      rw [List.getElem?_append_right (Nat.le_refl _)] at hj
      simp at hj
      exact .inr ⟨rfl, hj.symm⟩
  have hL : ∀ j, j < H1.length → (if j = H1.length then (⟨none, 0⟩ : Loc) else ls j) = ls j := fun j hj => if_neg (by omega)
  refine ⟨x, fun j => if j = H1.length then ⟨none, 0⟩ else ls j, rfl, a1, a2, a3, a4, a5, by simp; omega, fun j hj => ?_, fun j g blk hj eg => ?_, fun i j g b1 b2 hi hj ei ej => ?_, fun E' hw hS' hD' => ?_⟩
  · simp only [hL j (by omega)]; exact a7 j hj
  · rcases hin j blk hj with ⟨hlt, hj⟩ | ⟨rfl, _⟩
    · simp only [hL j hlt] at eg; exact a8 j g blk hj eg
    · simp at eg
  · rcases hin i b1 hi with ⟨hlt, hi⟩ | ⟨rfl, _⟩
    · rcases hin j b2 hj with ⟨hlt', hj⟩ | ⟨rfl, _⟩
      · simp only [hL i hlt] at ei; simp only [hL j hlt'] at ej; exact a9 i j g b1 b2 hi hj ei ej
      · simp at ej
    · simp at ei
  · have hD2 : ∀ j, j < H1.length → E'.D j ∧ E'.L j = ls j := fun j hj => by
      have := hD' j (by simp; omega)
      simp only [hL j hj] at this; exact this
    have hS2 : ∀ g, E'.S g → hid g ∨ ∃ j blk, H1[j]? = some (some blk) ∧ (ls j).g = some g := fun g hg => by
      rcases hS' g hg with hh | ⟨j, blk, hj, eg⟩
      · exact .inl hh
      · rcases hin j blk hj with ⟨hlt, hj⟩ | ⟨rfl, _⟩
        · simp only [hL j hlt] at eg; exact .inr ⟨j, blk, hj, eg⟩
        · simp at eg
    obtain ⟨c1, c2⟩ := a10 E' hw hS2 hD2
    refine ⟨fun j blk hj => ?_, ?_⟩
    · rcases hin j blk hj with ⟨hlt, hj⟩ | ⟨rfl, rfl⟩
      · simp only [hL j hlt]; exact c1 j blk hj
      · simp only [if_true]; exact .mk_none rfl ⟨rfl, rfl⟩
    · rw [c2.v_inv]
      have hd := hD' H1.length (by simp)
      simp only [if_true] at hd
      have : RV E' (.sl H1.length 0) (.slice ((E'.L H1.length).g.map fun g => ⟨g, 0, none⟩) 0 (E'.L H1.length).c) := .sl _ _ hd.1 (Nat.zero_le _) (by rw [hd.2]; exact Nat.zero_le _)
      rw [hd.2] at this
      exact this
theorem noG_ret {Q : AQ} {k : Nat} {H : AH} {T : AT} (h : Q .ret k H T) : noG Q .ret k H T := h
theorem cmpNm_ok (a b : UInt64) : Fresh Tryz.prog 116 [.v (.agg (nameC a)), .v (.agg (nameC b))] (fun _ => .v (.int .i64 (cmpN a b))) [] := by
  refine Fresh.of (fn := Tryz.f116) Tryz.func116 rfl (lb rfl) fun w => ?_
  (apply Gol.sr; apply t1; exact s_box rfl rfl; apply t1; exact s_box rfl rfl; apply t0; exact s_assign rfl; dsimp only [reduceAdd, reduceMul]; exact dn
   exact rfl; refine Gol.seq ?_; apply Gol.any; kernel_rfl; apply t0; exact s_loadW rfl rfl rfl (agu_cuv _); apply tq; exact s_call (f := 132) rfl (evs.cons rfl evs.nil) (ArgL.cons arg_clo ArgL.nil) (number_f _) (lb rfl)
   dsimp only [reduceAdd, reduceMul, reduceSub, na, ca, nbk, mc, ml]; apply t0; exact s_loadW rfl rfl rfl (agu_cuv _)
   apply tq; exact s_call (f := 132) rfl (evs.cons rfl evs.nil) (ArgL.cons arg_clo ArgL.nil) (number_f _) (lb rfl)
   dsimp only [reduceAdd, reduceMul, reduceSub, na, ca, nbk, mc, ml]; apply tq; exact s_call (f := 139) rfl (evs.cons rfl (evs.cons rfl evs.nil)) (ArgL.cons arg_clo (ArgL.cons arg_clo ArgL.nil)) (compareU_ok a b) (lb rfl)
   dsimp only [reduceAdd, reduceMul, reduceSub, na, ca, nbk, mc, ml]; apply t0; exact s_assign rfl
   dsimp only [reduceAdd, reduceMul]; exact dn; kernel_rfl; exact rfl; refine thn_n ?_; refine Gol.ret ?_)
  (apply RetQ.mk (by first | exact .inr rfl | exact .inl rfl); apply res_1 rfl; exact res_tmp rfl; exact out_val)
section
variable (S : List UInt8 → UInt64)
noncomputable def chP (l : List It) (vs : List Vt) (s : Int) (out : List UInt64) (last : UInt64) (y : It) : Bool := decide (y.k = 3) && (y.p == last) && !(out.any fun x => y.n == x) && hasB (stqN S l vs y.n).s s
noncomputable def chOne (l : List It) (vs : List Vt) (s : Int) (out : List UInt64) (last : UInt64) (best : Option It) (x : It) : Option It := match itOf l x.n with
  | none => best
  | some y => if chP S l vs s out last y = true then (match best with | none => some y | some b => if y.n < b.n then some y else best) else best
noncomputable def chB (l : List It) (vs : List Vt) (s : Int) (out : List UInt64) (last : UInt64) (i : Nat) : Option It := (l.take i).foldl (chOne S l vs s out last) none
theorem chB_next {l : List It} {vs : List Vt} {s : Int} {out : List UInt64} {last : UInt64} {i : Nat} {x : It} (h : l[i]? = some x) : chB S l vs s out last (i + 1) = chOne S l vs s out last (chB S l vs s out last i) x := by
  obtain ⟨hl, e⟩ := List.getElem?_eq_some_iff.1 h
  rw [chB, List.take_succ_eq_append_getElem hl, List.foldl_append, e]; rfl
noncomputable def chN (l : List It) (vs : List Vt) (s cm : Int) : Nat → List UInt64 → It → List UInt64
  | 0, out, _ => out
  | f + 1, out, last => if last.cm = cm then (match chB S l vs s out last.n l.length with
    | none => out
    | some y => chN l vs s cm f (out ++ [y.n]) y) else out
noncomputable def chainF (l : List It) (vs : List Vt) (x : UInt64) (s : Int) : List UInt64 := match itOf l x with
  | none => []
  | some y => if hasB y.cm s = true then chN S l vs s y.cm (l.length + 1) [] y else []
theorem itOf_some {l : List It} {i : Nat} {x : It} (h : l[i]? = some x) : ∃ y, itOf l x.n = some y ∧ y.n = x.n := by
  cases hf : itOf l x.n with
  | some y => obtain ⟨j, _, _, hn⟩ := fnd_some hf; exact ⟨y, rfl, hn⟩
  | none =>
    have h1 := fnd_none hf
    unfold fnd at h1
    rw [List.findIdx?_eq_none_iff] at h1
    have := h1 x (List.mem_of_getElem? h)
    simp at this
theorem chOne_no {l : List It} {vs : List Vt} {s : Int} {out : List UInt64} {last : UInt64} {best : Option It} {x z : It} (hz : itOf l x.n = some z) (h : chP S l vs s out last z = false) : chOne S l vs s out last best x = best := by
  unfold chOne; rw [hz]; dsimp only; rw [if_neg (by rw [h]; simp)]
theorem chOne_first {l : List It} {vs : List Vt} {s : Int} {out : List UInt64} {last : UInt64} {x z : It} (hz : itOf l x.n = some z) (h : chP S l vs s out last z = true) : chOne S l vs s out last none x = some z := by
  unfold chOne; rw [hz]; dsimp only; rw [if_pos h]
theorem chOne_next {l : List It} {vs : List Vt} {s : Int} {out : List UInt64} {last : UInt64} {b x z : It} (hz : itOf l x.n = some z) (h : chP S l vs s out last z = true) : chOne S l vs s out last (some b) x = if z.n < b.n then some z else some b := by
  unfold chOne; rw [hz]; dsimp only; rw [if_pos h]
theorem wk_It0 : WkL (cu (.v (.agg #[.int .u8 0, .int .u8 0, .int .u8 0, .int .u8 0, .int .u8 0, .int .u8 0, .int .u8 0, .int .u8 0, .int .i64 0, .int .i64 0, .int .u8 0, .int .u8 0, .int .u8 0, .int .u8 0, .int .u8 0, .int .u8 0, .int .u8 0, .int .u8 0, .slice none 0 0, .slice none 0 0, .int .i64 0, .slice none 0 0, .slice none 0 0, .slice none 0 0, .slice none 0 0, .int .i64 0, .slice none 0 0, .slice none 0 0]))) (itA It0) := by
  have hz : ∀ k, ((nb 0 k).toNat : Int) = 0 := fun k => by simp [nb]
  unfold itA It0
  simp only [hz]
  show WkL [_, _, _, _, _, _, _, _, _, _, _, _, _, _, _, _, _, _, _, _, _, _, _, _, _, _, _, _] _
  repeat' (first | exact WkL.nil | refine WkL.cons (by first | exact Wk.refl | exact Wk.nil) ?_)
def nxC : Option It → List AV
  | none => itA It0
  | some b => itA b
instance (b : Option It) : CloL (nxC b) := by cases b <;> unfold nxC <;> infer_instance
theorem nm_next (l : List UInt64) (n : UInt64) : byA (flat l) ++ (cu (.v (.agg (nameC n))) ++ []) = byA (flat (l ++ [n])) := by
  rw [List.append_nil, cu_name, ← byA_append, flat_append, flat_one]
theorem cmpN_lt {a b : UInt64} (h : a < b) : cmpN a b = -1 := by
  have : (a.toNat : Int) < (b.toNat : Int) := by have := UInt64.lt_iff_toNat_lt.1 h; omega
  unfold cmpN cmpI
  rw [if_pos this]
theorem cmpN_ge {a b : UInt64} (h : ¬ a < b) : ¬ cmpN a b < 0 := by
  have : ¬ (a.toNat : Int) < (b.toNat : Int) := fun h2 => h (UInt64.lt_iff_toNat_lt.2 (by omega))
  unfold cmpN cmpI
  rw [if_neg this]
  split <;> omega
theorem nd_len : ∀ (a b : List UInt64), a.Nodup → (∀ x ∈ a, x ∈ b) → a.length ≤ b.length
  | [], b, _, _ => Nat.zero_le _
  | x :: a, b, h, hs => by
    obtain ⟨s, t, rfl⟩ := List.append_of_mem (hs x (by simp))
    rw [List.nodup_cons] at h
    have := nd_len a (s ++ t) h.2 (fun z hz => by
      have h1 := hs z (by simp [hz])
      have h2 : z ≠ x := fun e => h.1 (e ▸ hz)
      simp only [List.mem_append, List.mem_cons] at h1 ⊢
      rcases h1 with h1 | h1 | h1
      · exact .inl h1
      · exact absurd h1 h2
      · exact .inr h1)
    simp only [List.length_append, List.length_cons] at this ⊢
    omega
theorem chB_some {l : List It} {vs : List Vt} {s : Int} {out : List UInt64} {last : UInt64} : ∀ {i : Nat} {z : It}, chB S l vs s out last i = some z → z ∈ l ∧ z.n ∉ out ∧ chP S l vs s out last z = true
  | 0, z, h => by rw [chB] at h; cases h
  | i + 1, z, h => by
    cases hx : l[i]? with
    | none =>
      have hle : l.length ≤ i := List.getElem?_eq_none_iff.1 hx
      have e : chB S l vs s out last (i + 1) = chB S l vs s out last i := by
        rw [chB, chB, List.take_of_length_le (by omega), List.take_of_length_le (by omega)]
      rw [e] at h
      exact chB_some h
    | some x =>
      rw [chB_next S hx] at h
      obtain ⟨w, hw, _⟩ := itOf_some hx
      obtain ⟨j, _, hj, _⟩ := fnd_some hw
      by_cases hp : chP S l vs s out last w = true
      · have hwok : w ∈ l ∧ w.n ∉ out ∧ chP S l vs s out last w = true := by
          refine ⟨List.mem_of_getElem? hj, fun hm => ?_, hp⟩
          unfold chP at hp
          simp only [Bool.and_eq_true, Bool.not_eq_true', List.any_eq_false] at hp
          exact hp.1.2 w.n hm (by simp)
        cases hb : chB S l vs s out last i with
        | none => rw [hb, chOne_first S hw hp] at h; injection h with h; subst h; exact hwok
        | some b =>
          rw [hb, chOne_next S hw hp] at h
          split at h
          · injection h with h; subst h; exact hwok
          · rw [← hb] at h; exact chB_some h
      · rw [chOne_no S hw (by simpa using hp)] at h
        exact chB_some h
variable (hS : HashF S)
include hS
set_option maxHeartbeats 3200000 in
theorem cchain_ok (l : List It) (vs : List Vt) (f : Bool) (K : List (UInt64 × Stu)) (x : UInt64) (s : Int) (hl : l.length ≤ 1000000) (hsm : ∀ x ∈ l, Sm x.st) (hK : KnOk S l vs K) (y : It) (hy : itOf l x = some y) (hc : hasB y.cm s = true) :
    Acts Tryz.prog 84 [bookB l vs f, knB K] [.ag [.pt 0 0], .v (.agg (nameC x)), .v (.int .i64 s)] (.sl 2 (chN S l vs s y.cm (l.length + 1) [] y).length) [none, none, some ⟨byA (flat (chN S l vs s y.cm (l.length + 1) [] y)), 23, 8⟩] := by
  have hit := item_yes l f x y hl hy
  have hgr := graph_ok l vs f K
  have hhas := has_ok y.cm s
  rw [hc] at hhas
  refine Acts.of (fn := Tryz.f84) Tryz.func84 rfl (lb rfl) (lb rfl) fun w bl hid loc => ?_
  (apply Gol.sr; apply t1; exact s_box rfl rfl; apply t1; exact s_box rfl rfl; apply t0; exact s_assign rfl; dsimp only [reduceAdd, reduceMul]; exact dn
   exact rfl)
  apply Gol.scope
  (refine Gol.seq ?_; apply Gol.any; kernel_rfl; apply t0; exact s_fieldAddr rfl; apply t0; exact s_load rfl rfl rfl; dsimp only [reduceAdd, reduceMul, reduceSub, na, ca, nbk, mc, ml]
   apply tq; apply s_acts (f := 117) [0, 1] rfl inferInstance; exact hgr; apply evs.cons rfl
   exact evs.nil; exact rfl; apply ABs.cons; exact rfl; exact rfl; exact rfl; apply RenL.cons; exact Ren.clo inferInstance; apply RenL.cons; exact Ren.clo inferInstance
   apply RenL.cons; exact Ren.clo inferInstance; apply RenL.cons; exact Ren.clo inferInstance; apply RenL.cons; apply Ren.mp; exact CaR.old rfl; exact RenL.nil
   apply ABs.cons; exact rfl; exact rfl; exact rfl; exact RenL.clo; exact ABs.nil; dsimp only [List.cons_append, List.nil_append, List.append_nil]; apply RenL.cons
   apply Ren.pt; exact CaR.old rfl; exact RenL.nil; exact Ren.clo inferInstance; apply HRen.kept; exact CaR.old rfl; apply RenL.cons; exact Ren.clo inferInstance
   apply RenL.cons; exact Ren.clo inferInstance; apply RenL.cons; exact Ren.clo inferInstance; apply RenL.cons; exact Ren.clo inferInstance; apply RenL.cons
   apply Ren.mp; exact CaR.old rfl; exact RenL.nil; apply HRen.kept; exact CaR.old rfl; exact RenL.clo; exact HRen.nil; exact lb rfl; dsimp only [reduceAdd, reduceMul, reduceSub, na, ca, nbk, nones, mc, ml]
   apply t0; exact s_loadW rfl rfl rfl (agu_cuv _); dsimp only [reduceAdd, reduceMul, reduceSub, na, ca, nbk, mc, ml]
   apply tq; apply s_acts (f := 61) [] rfl inferInstance; exact hit; apply evs.cons rfl; apply evs.cons rfl
   exact evs.nil; exact rfl; exact ABs.nil; dsimp only [List.cons_append, List.nil_append, List.append_nil]; exact RenL.clo; exact Ren.clo inferInstance
   exact HRen.nil; exact lb rfl; dsimp only [reduceAdd, reduceMul, reduceSub, na, ca, nbk, nones, mc, ml]
   apply t0; exact s_move rfl; apply t0; exact s_extract rfl rfl; apply t0; exact s_extract rfl rfl; apply t1; exact s_alloc; apply n1; exact s_storeW rfl rfl rfl rfl rfl rfl
   apply t0; exact s_assign rfl; dsimp only [reduceAdd, reduceMul]; exact dn; kernel_rfl; exact rfl; refine thn_n ?_; refine Gol.seq ?_
   apply Gol.sr; apply t0; exact s_move rfl; apply t0; exact s_not rfl; apply t0; exact s_move rfl; apply g0; exact wnt_g rfl rfl rfl rfl; exact s_fieldAddr rfl
   apply g0; exact wnt_g rfl rfl rfl rfl; exact s_load rfl rfl rfl; apply g0; exact wnt_g rfl rfl rfl rfl; exact s_move rfl; apply gq; exact wnt_g rfl rfl rfl rfl
   exact s_call (f := 118) rfl (evs.cons rfl (evs.cons rfl evs.nil)) (ArgL.cons arg_clo (ArgL.cons arg_clo ArgL.nil)) hhas (lb rfl)
   dsimp only [reduceAdd, reduceMul, reduceSub, na, ca, nbk, mc, ml]; apply g0; exact wnt_g rfl rfl rfl rfl
   exact s_not rfl; apply t0; exact s_pick_f rfl rfl rfl; dsimp only [reduceAdd, reduceMul]; exact dn; exact rfl)
  refine Gol.cond_f rfl rfl ?_
  (refine Gol.skip ?_; refine thn_n ?_; apply Gol.sr; apply t0; exact s_assign rfl; dsimp only [reduceAdd, reduceMul]
   exact dn; exact rfl; apply Gol.sr; apply t0; exact s_loadW rfl rfl rfl (agu_cua _); apply t1; exact s_alloc; apply n1; exact s_storeW rfl rfl rfl rfl rfl rfl
   dsimp only [reduceAdd, reduceMul]; exact dn; exact rfl; refine Gol.seq ?_)
  refine Gol.label ?_
  refine thn_n ?_
  refine Gol.le (Le.nilOwn (i := 9) 23 8 rfl) ?_
  (refine Gol.seq ?_; refine Gol.block ?_)
  generalize hR : chN S l vs s y.cm (l.length + 1) [] y = R
  refine Gol.loop (ι := List UInt64 × It × List (UInt64 × Stu)) (fun p => KnOk S l vs p.2.2 ∧ p.1.Nodup ∧ (∀ a ∈ p.1, a ∈ l.map (·.n)) ∧ chN S l vs s y.cm (l.length + 1 - p.1.length) p.1 p.2.1 = R) (fun p => l.length - p.1.length) 400
    (fun p => [(0, some (bookB l vs f)), (1, some (knB p.2.2)), (8, some ⟨[.pt 0 0], 117, 1⟩), (96, some ⟨itA y, 35, 28⟩), (97, some ⟨itA p.2.1, 35, 28⟩), (98, some ⟨byA (flat p.1), 23, 8⟩)])
    (fun p => [(2, .v (.int .i64 s)), (3, .pt 8 0), (7, .pt 96 0), (10, .pt 97 0), (9, .sl 98 p.1.length), (6, .v (.slice none 0 0))]) ([], y, K) ⟨hK, List.nodup_nil, fun a h => by simp at h, hR⟩ ?_ ?_
  · (apply Le.mk3' [(97, 208), (98, 224)]; apply RnT3.c; exact rfl; apply Rn3.r; exact Rn.v rfl; apply RnT3.c; exact rfl; apply Rn3.r; exact Rn.pt rfl rfl
     apply RnT3.c; exact rfl; apply Rn3.r; exact Rn.pt rfl rfl; apply RnT3.c; exact rfl; apply Rn3.r; exact Rn.pt rfl rfl; apply RnT3.c; exact rfl; apply Rn3.r
     exact Rn.sl rfl rfl; apply RnT3.c; exact rfl; apply Rn3.r; exact Rn.v rfl; exact RnT3.n; apply RnH3.c; exact rfl; exact rfl; apply RnC.l; apply Rn3L.cons
     apply Rn3.r; exact Rn.clo inferInstance rfl; apply Rn3L.cons; apply Rn3.r; exact Rn.clo inferInstance rfl; apply Rn3L.cons; apply Rn3.r; exact Rn.clo inferInstance rfl
     apply Rn3L.cons; apply Rn3.r; exact Rn.clo inferInstance rfl; apply Rn3L.cons; apply Rn3.r; exact Rn.mp rfl; exact Rn3L.nil; exact rfl; exact rfl; apply RnH3.c
     exact rfl; exact rfl; apply RnC.cl; rfl; exact inferInstance; exact rfl; exact rfl; apply RnH3.c; exact rfl; exact rfl; apply RnC.l; apply Rn3L.cons; apply Rn3.r
     exact Rn.pt rfl rfl; exact Rn3L.nil; exact rfl; exact rfl; apply RnH3.c; exact rfl; exact rfl; apply RnC.cl; rfl; exact inferInstance; exact rfl; exact rfl
     apply RnH3.c; exact rfl; exact rfl; apply RnC.cl; rfl; exact inferInstance; exact rfl; exact rfl; apply RnH3.c; exact rfl; exact rfl; apply RnC.cl; rfl
     exact inferInstance; exact rfl; exact rfl; exact RnH3.n; exact rfl; exact rfl)
  rintro ⟨out, last, K⟩ ⟨hK, hnd, hsub, hC⟩
  dsimp only at hK hnd hsub hC ⊢
  have hol : out.length ≤ l.length := by have := nd_len out (l.map (·.n)) hnd hsub; rwa [List.length_map] at this
  have hf1 : l.length + 1 - out.length = (l.length - out.length) + 1 := by omega
  rw [hf1] at hC
  (refine Gol.seq ?_; apply Gol.sr; apply t0; exact s_fieldAddr rfl; apply t0; exact s_load rfl rfl rfl; apply t0; exact s_fieldAddr rfl
   apply t0; exact s_load rfl rfl rfl; apply t0; exact s_eq rfl rfl; dsimp only [reduceAdd, reduceMul]; exact dn; exact rfl)
  refine Gol.cond rfl (fun h => ?_) (fun h => ?_)
  rotate_left
  · have hne : ¬ last.cm = y.cm := of_decide_eq_false h
    rw [chN, if_neg hne] at hC
    subst hC
    (refine Gol.exit ?_; refine thn_x ?_; refine rnd_x ?_; refine inBlk_hit ?_; refine thn_n ?_
     apply Gol.sr; apply t0; exact s_move rfl; apply t0; exact s_assign rfl; dsimp only [reduceAdd, reduceMul]; exact dn; exact rfl; refine Gol.ret ?_)
    refine noG_ret ?_
    (apply RetA.mk [0, 1, 98] (by first | exact .inr rfl | exact .inl rfl); apply res_1 rfl; exact res_tmp rfl; exact rfl; exact rfl; exact rfl; apply OAs.gone
     apply OAs.gone; apply OAs.kept; exact rfl; exact rfl; exact rfl; exact RenL.clo; exact OAs.nil; apply Ren.sl; exact IdR.mk rfl)
  have hcm : last.cm = y.cm := of_decide_eq_true h
  rw [chN, if_pos hcm] at hC
  (refine Gol.skip ?_; refine thn_n ?_; refine Gol.block ?_; apply Gol.sr; apply t1; exact s_alloc; dsimp only [reduceAdd, reduceMul]
   exact dn; exact rfl; apply Gol.sr; apply t0; exact s_assign rfl; dsimp only [reduceAdd, reduceMul]; exact dn; exact rfl; refine Gol.seq ?_
   apply Gol.sr; apply t0; exact s_fieldAddr rfl; apply t0; exact s_load rfl rfl rfl; dsimp only [reduceAdd, reduceMul, reduceSub, na, ca, nbk, mc, ml]
   apply tq; apply s_acts (f := 119) [0, 1] rfl inferInstance; exact items_ok l vs f K; apply evs.cons rfl
   exact evs.nil; exact rfl; apply ABs.cons; exact rfl; exact rfl; exact rfl; apply RenL.cons; exact Ren.clo inferInstance; apply RenL.cons; exact Ren.clo inferInstance
   apply RenL.cons; exact Ren.clo inferInstance; apply RenL.cons; exact Ren.clo inferInstance; apply RenL.cons; apply Ren.mp; exact CaR.old rfl; exact RenL.nil
   apply ABs.cons; exact rfl; exact rfl; exact rfl; exact RenL.clo; exact ABs.nil; dsimp only [List.cons_append, List.nil_append, List.append_nil]; apply RenL.cons
   apply Ren.pt; exact CaR.old rfl; exact RenL.nil; exact Ren.clo inferInstance; apply HRen.kept; exact CaR.old rfl; apply RenL.cons; exact Ren.clo inferInstance
   apply RenL.cons; exact Ren.clo inferInstance; apply RenL.cons; exact Ren.clo inferInstance; apply RenL.cons; exact Ren.clo inferInstance; apply RenL.cons
   apply Ren.mp; exact CaR.old rfl; exact RenL.nil; apply HRen.kept; exact CaR.old rfl; exact RenL.clo; exact HRen.nil; exact lb rfl; dsimp only [reduceAdd, reduceMul, reduceSub, na, ca, nbk, nones, mc, ml]
   apply t0; exact s_len rfl ln_ex; apply t0; exact s_move rfl; dsimp only [reduceAdd, reduceMul]; exact dn; exact rfl; refine Gol.block ?_)
  refine Gol.le (Le.cells (B := 440) (itA It0) rfl rfl wk_It0) ?_
  refine Gol.loop (ι := Nat × List (UInt64 × Stu)) (fun p => p.1 ≤ l.length ∧ KnOk S l vs p.2) (fun p => l.length - p.1) 600
    (fun p => [(0, some (bookB l vs f)), (1, some (knB p.2)), (8, some ⟨[.pt 0 0], 117, 1⟩), (96, some ⟨itA y, 35, 28⟩), (97, some ⟨itA last, 35, 28⟩), (98, some ⟨byA (flat out), 23, 8⟩), (440, some ⟨nxC (chB S l vs s out last.n p.1), 35, 28⟩)])
    (fun p => [(2, .v (.int .i64 s)), (3, .pt 8 0), (7, .pt 96 0), (10, .pt 97 0), (9, .sl 98 out.length), (6, .v (.slice none 0 0)), (11, .pt 440 0), (12, .v (.bool (chB S l vs s out last.n p.1).isSome)), (40, .ex l.length f (itsA l)), (41, .v (.int .i64 (l.length : Int))), (42, .v (.int .i64 (p.1 : Int)))]) (0, K) ⟨Nat.zero_le _, hK⟩ ?_ ?_
  · (apply Le.mk3' []; apply RnT3.c; exact rfl; apply Rn3.r; exact Rn.v rfl; apply RnT3.c; exact rfl; apply Rn3.r; exact Rn.pt rfl rfl; apply RnT3.c; exact rfl
     apply Rn3.r; exact Rn.pt rfl rfl; apply RnT3.c; exact rfl; apply Rn3.r; exact Rn.pt rfl rfl; apply RnT3.c; exact rfl; apply Rn3.r; exact Rn.sl rfl rfl
     apply RnT3.c; exact rfl; apply Rn3.r; exact Rn.v rfl; apply RnT3.c; exact rfl; apply Rn3.r; exact Rn.pt rfl rfl; apply RnT3.c; exact rfl; apply Rn3.r
     exact Rn.v rfl; apply RnT3.c; exact rfl; apply Rn3.r; exact Rn.clo inferInstance rfl; apply RnT3.c; exact rfl; apply Rn3.r; exact Rn.v rfl; apply RnT3.c
     exact rfl; apply Rn3.r; exact Rn.v rfl; exact RnT3.n; apply RnH3.c; exact rfl; exact rfl; apply RnC.l; apply Rn3L.cons; apply Rn3.r; exact Rn.clo inferInstance rfl
     apply Rn3L.cons; apply Rn3.r; exact Rn.clo inferInstance rfl; apply Rn3L.cons; apply Rn3.r; exact Rn.clo inferInstance rfl; apply Rn3L.cons; apply Rn3.r
     exact Rn.clo inferInstance rfl; apply Rn3L.cons; apply Rn3.r; exact Rn.mp rfl; exact Rn3L.nil; exact rfl; exact rfl; apply RnH3.c; exact rfl; exact rfl
     apply RnC.cl; rfl; exact inferInstance; exact rfl; exact rfl; apply RnH3.c; exact rfl; exact rfl; apply RnC.l; apply Rn3L.cons; apply Rn3.r; exact Rn.pt rfl rfl
     exact Rn3L.nil; exact rfl; exact rfl; apply RnH3.c; exact rfl; exact rfl; apply RnC.cl; rfl; exact inferInstance; exact rfl; exact rfl; apply RnH3.c; exact rfl
     exact rfl; apply RnC.cl; rfl; exact inferInstance; exact rfl; exact rfl; apply RnH3.c; exact rfl; exact rfl; apply RnC.cl; rfl; exact inferInstance; exact rfl
     exact rfl; apply RnH3.c; exact rfl; exact rfl; apply RnC.cl; rfl; exact inferInstance; exact rfl; exact rfl; exact RnH3.n; exact rfl; exact rfl)
  rintro ⟨i, K⟩ ⟨hi, hK⟩
  dsimp only at hi hK ⊢
  (apply Gol.sr; apply t0; exact s_ltn rfl rfl; dsimp only [reduceAdd, reduceMul]; exact dn; exact rfl; refine Gol.seq ?_)
  refine Gol.cond rfl (fun h => ?_) (fun h => ?_)
  rotate_left
  · have hge : ¬ i < l.length := of_decide_eq_false h
    obtain rfl : i = l.length := by omega
    cases hb : chB S l vs s out last.n l.length with
    | none =>
      rw [hb] at hC
      dsimp only at hC
      subst hC
      dsimp only [nxC, Option.isSome]
      (refine Gol.exit ?_; refine thn_x ?_; refine rnd_x ?_; refine inBlk_hit ?_; refine thn_n ?_
       refine Gol.seq ?_; apply Gol.sr; apply t0; exact s_move rfl; apply t0; exact s_not rfl; dsimp only [reduceAdd, reduceMul]; exact dn
       exact rfl)
      refine Gol.cond_t rfl rfl ?_
      (refine Gol.exit ?_; refine thn_x ?_; (with_reducible refine inBlk_miss rfl ?_); refine rnd_x ?_; refine inBlk_hit ?_
       refine thn_n ?_; apply Gol.sr; apply t0; exact s_move rfl; apply t0; exact s_assign rfl; dsimp only [reduceAdd, reduceMul]; exact dn
       exact rfl; refine Gol.ret ?_)
      refine noG_ret ?_
      (apply RetA.mk [0, 1, 98] (by first | exact .inr rfl | exact .inl rfl); apply res_1 rfl; exact res_tmp rfl; exact rfl; exact rfl; exact rfl; apply OAs.gone
       apply OAs.gone; apply OAs.kept; exact rfl; exact rfl; exact rfl; exact RenL.clo; exact OAs.nil; apply Ren.sl; exact IdR.mk rfl)
    | some z =>
      rw [hb] at hC
      dsimp only at hC
      obtain ⟨hz1, hz2, hz3⟩ := chB_some S hb
      dsimp only [nxC, Option.isSome]
      (refine Gol.exit ?_; refine thn_x ?_; refine rnd_x ?_; refine inBlk_hit ?_; refine thn_n ?_
       refine Gol.seq ?_; apply Gol.sr; apply t0; exact s_move rfl; apply t0; exact s_not rfl; dsimp only [reduceAdd, reduceMul]; exact dn
       exact rfl)
      refine Gol.cond_f rfl rfl ?_
      (refine Gol.skip ?_; refine thn_n ?_; apply Gol.sr; apply t0; exact s_move rfl; apply t0; exact s_fieldAddr rfl; apply t0
       exact s_loadN rfl rfl (lb rfl) (agu_nm8 rfl); apply t1; exact s_lit (PA.cons rfl rfl rfl PA.nil) rfl (by first | omega | exact lb rfl | decide | (simp <;> omega) | (dsimp <;> omega)); apply tq; exact s_app rfl rfl rfl (rd_sl rfl rfl) (by simp only [byA_length, List.length_append, List.length_cons, List.length_nil, List.length_take, List.length_drop, List.length_replicate, List.length_map, Nat.mul_one, nameB_length, flat_length, List.length_set, inA_length, dsA_length, lsA_length, dA_length, lA_length, itsA_length, vtsA_length, rcsA_length] <;> omega) rfl rfl rfl (by omega)
       dsimp only [reduceAdd, reduceMul, reduceSub, na, ca, nbk, mc, ml]; apply t0; exact s_assign rfl
       dsimp only [reduceAdd, reduceMul]; exact dn; exact rfl; apply Gol.region; apply t0; exact s_loadW rfl rfl rfl (agu_cua _); apply n1
       exact s_storeW rfl rfl rfl rfl rfl rfl; dsimp only [reduceAdd, reduceMul]; exact dn; exact rfl; refine inBlk_n ?_)
      have hnd2 : (out ++ [z.n]).Nodup := by
        rw [List.nodup_append]
        refine ⟨hnd, by simp, fun a ha b hb e => ?_⟩
        simp only [List.mem_singleton] at hb
        exact hz2 (by rw [← hb, ← e]; exact ha)
      have hsub2 : ∀ a ∈ out ++ [z.n], a ∈ l.map (·.n) := fun a ha => by
        rcases List.mem_append.1 ha with ha | ha
        · exact hsub a ha
        · simp only [List.mem_singleton] at ha
          rw [ha]; exact List.mem_map.2 ⟨z, hz1, rfl⟩
      have hol2 : (out ++ [z.n]).length ≤ l.length := by have := nd_len (out ++ [z.n]) (l.map (·.n)) hnd2 hsub2; rwa [List.length_map] at this
      have hlo : (out ++ [z.n]).length = out.length + 1 := by simp
      refine rnd_n (out ++ [z.n], z, K) ⟨hK, hnd2, hsub2, ?_⟩ (by dsimp only; omega) ?_
      · dsimp only
        rw [hlo, show l.length + 1 - (out.length + 1) = l.length - out.length by omega]
        exact hC
      · dsimp only
        rw [hlo]
        (apply Le.mk3' [(97, 97), (98, 656)]; apply RnT3.c; exact rfl; apply Rn3.r; exact Rn.v rfl; apply RnT3.c; exact rfl; apply Rn3.r; exact Rn.pt rfl rfl; apply RnT3.c
         exact rfl; apply Rn3.r; exact Rn.pt rfl rfl; apply RnT3.c; exact rfl; apply Rn3.r; exact Rn.pt rfl rfl; apply RnT3.c; exact rfl; apply Rn3.r; exact Rn.sl rfl rfl
         apply RnT3.c; exact rfl; apply Rn3.r; exact Rn.v rfl; exact RnT3.n; apply RnH3.c; exact rfl; exact rfl; apply RnC.l; apply Rn3L.cons; apply Rn3.r; exact Rn.clo inferInstance rfl
         apply Rn3L.cons; apply Rn3.r; exact Rn.clo inferInstance rfl; apply Rn3L.cons; apply Rn3.r; exact Rn.clo inferInstance rfl; apply Rn3L.cons; apply Rn3.r
         exact Rn.clo inferInstance rfl; apply Rn3L.cons; apply Rn3.r; exact Rn.mp rfl; exact Rn3L.nil; exact rfl; exact rfl; apply RnH3.c; exact rfl; exact rfl
         apply RnC.cl; rfl; exact inferInstance; exact rfl; exact rfl; apply RnH3.c; exact rfl; exact rfl; apply RnC.l; apply Rn3L.cons; apply Rn3.r; exact Rn.pt rfl rfl
         exact Rn3L.nil; exact rfl; exact rfl; apply RnH3.c; exact rfl; exact rfl; apply RnC.cl; rfl; exact inferInstance; exact rfl; exact rfl; apply RnH3.c; exact rfl
         exact rfl; apply RnC.cl; rfl; exact inferInstance; exact rfl; exact rfl; apply RnH3.c; exact rfl; exact rfl; apply RnC.cl; exact nm_next out z.n; exact inferInstance
         exact rfl; exact rfl; exact RnH3.n; exact rfl; exact rfl)
  have hlt : i < l.length := of_decide_eq_true h
  have hx : l[i]? = some l[i] := List.getElem?_eq_getElem hlt
  generalize l[i] = x at hx
  have hN := chB_next S (vs := vs) (s := s) (out := out) (last := last.n) hx
  generalize chB S l vs s out last.n i = best at hN ⊢
  obtain ⟨z, hz, hzn⟩ := itOf_some hx
  have hiz := item_yes l f x.n z hl hz
  have hsig := signed_ok S hS l vs f K z.n hl hsm hK s
  have hcon := hasName_ok out false z.n (by omega)
  have hK2 := knOk_next S hK z.n
  generalize knF S l vs K z.n = K2 at hsig hK2
  (refine Gol.skip ?_; refine thn_n ?_; refine Gol.seq ?_; refine Gol.block ?_; apply Gol.sr
   apply t0; exact s_ixeD rfl rfl (by omega) (its_ne (by omega)) (its_at (by assumption)); apply t0; exact s_loadEN rfl (lb rfl) agu_it
   apply t1; exact s_alloc; apply n1; exact s_storeW rfl rfl rfl rfl rfl rfl; dsimp only [reduceAdd, reduceMul]; exact dn; exact rfl)
  (refine Gol.seq ?_; apply Gol.any; kernel_rfl; apply t0; exact s_fieldAddr rfl; apply t0; exact s_load rfl rfl rfl; dsimp only [reduceAdd, reduceMul, reduceSub, na, ca, nbk, mc, ml]
   apply tq; apply s_acts (f := 117) [0, 1] rfl inferInstance; exact graph_ok l vs f K; apply evs.cons rfl
   exact evs.nil; exact rfl; apply ABs.cons; exact rfl; exact rfl; exact rfl; apply RenL.cons; exact Ren.clo inferInstance; apply RenL.cons; exact Ren.clo inferInstance
   apply RenL.cons; exact Ren.clo inferInstance; apply RenL.cons; exact Ren.clo inferInstance; apply RenL.cons; apply Ren.mp; exact CaR.old rfl; exact RenL.nil
   apply ABs.cons; exact rfl; exact rfl; exact rfl; exact RenL.clo; exact ABs.nil; dsimp only [List.cons_append, List.nil_append, List.append_nil]; apply RenL.cons
   apply Ren.pt; exact CaR.old rfl; exact RenL.nil; exact Ren.clo inferInstance; apply HRen.kept; exact CaR.old rfl; apply RenL.cons; exact Ren.clo inferInstance
   apply RenL.cons; exact Ren.clo inferInstance; apply RenL.cons; exact Ren.clo inferInstance; apply RenL.cons; exact Ren.clo inferInstance; apply RenL.cons
   apply Ren.mp; exact CaR.old rfl; exact RenL.nil; apply HRen.kept; exact CaR.old rfl; exact RenL.clo; exact HRen.nil; exact lb rfl; dsimp only [reduceAdd, reduceMul, reduceSub, na, ca, nbk, nones, mc, ml]
   apply t0; exact s_fieldAddr rfl; apply t0; exact s_loadN rfl rfl (lb rfl) (agu_nm8 rfl); dsimp only [reduceAdd, reduceMul, reduceSub, na, ca, nbk, mc, ml]
   apply tq; apply s_acts (f := 61) [] rfl inferInstance; exact hiz; apply evs.cons rfl; apply evs.cons rfl
   exact evs.nil; exact rfl; exact ABs.nil; dsimp only [List.cons_append, List.nil_append, List.append_nil]; exact RenL.clo; exact Ren.clo inferInstance
   exact HRen.nil; exact lb rfl; dsimp only [reduceAdd, reduceMul, reduceSub, na, ca, nbk, nones, mc, ml]
   apply t0; exact s_move rfl; apply t0; exact s_extract rfl rfl; apply t0; exact s_extract rfl rfl; apply n1; exact s_storeW rfl rfl rfl rfl rfl rfl; dsimp only [reduceAdd, reduceMul]
   exact dn; kernel_rfl; exact rfl; refine thn_n ?_)
  by_cases h1 : z.k = 3
  rotate_left
  · have d1 : (!decide (z.k = 3)) = true := by simp [h1]
    have hp : chP S l vs s out last.n z = false := by unfold chP; rw [decide_eq_false h1]; simp
    rw [chOne_no S hz hp] at hN
    (refine Gol.seq ?_; apply Gol.sr; apply t0; exact s_fieldAddr rfl; apply t0; exact s_load rfl rfl rfl; apply t0; exact s_ne rfl rfl; apply t0
     exact s_move rfl; apply sk; exact wnt_g rfl rfl rfl (by focus (simp only [*]; rfl)); apply sk; exact wnt_g rfl rfl rfl (by focus (simp only [*]; rfl))
     apply sk; exact wnt_g rfl rfl rfl (by focus (simp only [*]; rfl)); apply sk; exact wnt_g rfl rfl rfl (by focus (simp only [*]; rfl)); apply sk; exact wnt_g rfl rfl rfl (by focus (simp only [*]; rfl))
     apply t0; exact s_pick_t rfl (by assumption) rfl; apply t0; exact s_move rfl; apply sk; exact wnt_g rfl rfl rfl rfl; apply sk; exact wnt_g rfl rfl rfl rfl
     apply sk; exact wnt_g rfl rfl rfl rfl; apply sk; exact wnt_g rfl rfl rfl rfl; apply t0; exact s_pick_t rfl rfl rfl; apply t0; exact s_move rfl; apply sk
     exact wnt_g rfl rfl rfl rfl; apply sk; exact wnt_g rfl rfl rfl rfl; apply sk; exact wnt_g rfl rfl rfl rfl; apply sk; exact wnt_g rfl rfl rfl rfl; apply sk
     exact wnt_g rfl rfl rfl rfl; apply sk; exact wnt_g rfl rfl rfl rfl; apply t0; exact s_pick_t rfl rfl rfl; dsimp only [reduceAdd, reduceMul]; exact dn
     exact rfl)
    refine Gol.cond_t rfl rfl ?_
    (refine Gol.exit ?_; refine thn_x ?_; refine inBlk_hit ?_; refine thn_n ?_; apply Gol.region
     apply t0; exact s_addn rfl rfl (by simp <;> omega); apply t0; exact s_move rfl; dsimp only [reduceAdd, reduceMul]; exact dn; exact rfl)
    refine rnd_n (i + 1, K) ⟨hlt, hK⟩ (by dsimp only; omega) ?_
    dsimp only
    rw [hN]
    (apply Le.mk3' []; apply RnT3.c; exact rfl; apply Rn3.r; exact Rn.v rfl; apply RnT3.c; exact rfl; apply Rn3.r; exact Rn.pt rfl rfl; apply RnT3.c; exact rfl
     apply Rn3.r; exact Rn.pt rfl rfl; apply RnT3.c; exact rfl; apply Rn3.r; exact Rn.pt rfl rfl; apply RnT3.c; exact rfl; apply Rn3.r; exact Rn.sl rfl rfl
     apply RnT3.c; exact rfl; apply Rn3.r; exact Rn.v rfl; apply RnT3.c; exact rfl; apply Rn3.r; exact Rn.pt rfl rfl; apply RnT3.c; exact rfl; apply Rn3.r
     exact Rn.v rfl; apply RnT3.c; exact rfl; apply Rn3.r; exact Rn.clo inferInstance rfl; apply RnT3.c; exact rfl; apply Rn3.r; exact Rn.v rfl; apply RnT3.c
     exact rfl; apply Rn3.r; exact Rn.v rfl; exact RnT3.n; apply RnH3.c; exact rfl; exact rfl; apply RnC.l; apply Rn3L.cons; apply Rn3.r; exact Rn.clo inferInstance rfl
     apply Rn3L.cons; apply Rn3.r; exact Rn.clo inferInstance rfl; apply Rn3L.cons; apply Rn3.r; exact Rn.clo inferInstance rfl; apply Rn3L.cons; apply Rn3.r
     exact Rn.clo inferInstance rfl; apply Rn3L.cons; apply Rn3.r; exact Rn.mp rfl; exact Rn3L.nil; exact rfl; exact rfl; apply RnH3.c; exact rfl; exact rfl
     apply RnC.cl; rfl; exact inferInstance; exact rfl; exact rfl; apply RnH3.c; exact rfl; exact rfl; apply RnC.l; apply Rn3L.cons; apply Rn3.r; exact Rn.pt rfl rfl
     exact Rn3L.nil; exact rfl; exact rfl; apply RnH3.c; exact rfl; exact rfl; apply RnC.cl; rfl; exact inferInstance; exact rfl; exact rfl; apply RnH3.c; exact rfl
     exact rfl; apply RnC.cl; rfl; exact inferInstance; exact rfl; exact rfl; apply RnH3.c; exact rfl; exact rfl; apply RnC.cl; rfl; exact inferInstance; exact rfl
     exact rfl; apply RnH3.c; exact rfl; exact rfl; apply RnC.cl; rfl; exact inferInstance; exact rfl; exact rfl; exact RnH3.n; exact rfl; exact rfl)
  have d1 : (!decide (z.k = 3)) = false := by simp [h1]
  cases h2 : z.p == last.n with
  | false =>
    have hp : chP S l vs s out last.n z = false := by unfold chP; rw [h2]; simp
    rw [chOne_no S hz hp] at hN
    (refine Gol.seq ?_; apply Gol.sr; apply t0; exact s_fieldAddr rfl; apply t0; exact s_load rfl rfl rfl; apply t0; exact s_ne rfl rfl; apply t0
     exact s_move rfl; apply g0; exact wnt_g rfl rfl rfl (by focus (simp only [*]; rfl)); exact s_fieldAddr rfl; apply g0; exact wnt_g rfl rfl rfl (by focus (simp only [*]; rfl))
     exact s_loadN rfl rfl (lb rfl) (agu_nm8 rfl); apply g0; exact wnt_g rfl rfl rfl (by focus (simp only [*]; rfl)); exact s_fieldAddr rfl
     apply g0; exact wnt_g rfl rfl rfl (by focus (simp only [*]; rfl)); exact s_loadN rfl rfl (lb rfl) (agu_nm8 rfl); apply g0; exact wnt_g rfl rfl rfl (by focus (simp only [*]; rfl))
     exact s_neN rfl rfl; apply t0; exact s_pick_f rfl (by assumption) rfl; apply t0; exact s_move rfl; apply sk; exact wnt_g rfl rfl rfl (by focus (simp only [*]; rfl))
     apply sk; exact wnt_g rfl rfl rfl (by focus (simp only [*]; rfl)); apply sk; exact wnt_g rfl rfl rfl (by focus (simp only [*]; rfl)); apply sk; exact wnt_g rfl rfl rfl (by focus (simp only [*]; rfl))
     apply t0; exact s_pick_t rfl (by focus (simp only [*]; rfl)) rfl; apply t0; exact s_move rfl; apply sk; exact wnt_g rfl rfl rfl rfl; apply sk; exact wnt_g rfl rfl rfl rfl
     apply sk; exact wnt_g rfl rfl rfl rfl; apply sk; exact wnt_g rfl rfl rfl rfl; apply sk; exact wnt_g rfl rfl rfl rfl; apply sk; exact wnt_g rfl rfl rfl rfl
     apply t0; exact s_pick_t rfl rfl rfl; dsimp only [reduceAdd, reduceMul]; exact dn; exact rfl)
    refine Gol.cond_t rfl rfl ?_
    (refine Gol.exit ?_; refine thn_x ?_; refine inBlk_hit ?_; refine thn_n ?_; apply Gol.region
     apply t0; exact s_addn rfl rfl (by simp <;> omega); apply t0; exact s_move rfl; dsimp only [reduceAdd, reduceMul]; exact dn; exact rfl)
    refine rnd_n (i + 1, K) ⟨hlt, hK⟩ (by dsimp only; omega) ?_
    dsimp only
    rw [hN]
    (apply Le.mk3' []; apply RnT3.c; exact rfl; apply Rn3.r; exact Rn.v rfl; apply RnT3.c; exact rfl; apply Rn3.r; exact Rn.pt rfl rfl; apply RnT3.c; exact rfl
     apply Rn3.r; exact Rn.pt rfl rfl; apply RnT3.c; exact rfl; apply Rn3.r; exact Rn.pt rfl rfl; apply RnT3.c; exact rfl; apply Rn3.r; exact Rn.sl rfl rfl
     apply RnT3.c; exact rfl; apply Rn3.r; exact Rn.v rfl; apply RnT3.c; exact rfl; apply Rn3.r; exact Rn.pt rfl rfl; apply RnT3.c; exact rfl; apply Rn3.r
     exact Rn.v rfl; apply RnT3.c; exact rfl; apply Rn3.r; exact Rn.clo inferInstance rfl; apply RnT3.c; exact rfl; apply Rn3.r; exact Rn.v rfl; apply RnT3.c
     exact rfl; apply Rn3.r; exact Rn.v rfl; exact RnT3.n; apply RnH3.c; exact rfl; exact rfl; apply RnC.l; apply Rn3L.cons; apply Rn3.r; exact Rn.clo inferInstance rfl
     apply Rn3L.cons; apply Rn3.r; exact Rn.clo inferInstance rfl; apply Rn3L.cons; apply Rn3.r; exact Rn.clo inferInstance rfl; apply Rn3L.cons; apply Rn3.r
     exact Rn.clo inferInstance rfl; apply Rn3L.cons; apply Rn3.r; exact Rn.mp rfl; exact Rn3L.nil; exact rfl; exact rfl; apply RnH3.c; exact rfl; exact rfl
     apply RnC.cl; rfl; exact inferInstance; exact rfl; exact rfl; apply RnH3.c; exact rfl; exact rfl; apply RnC.l; apply Rn3L.cons; apply Rn3.r; exact Rn.pt rfl rfl
     exact Rn3L.nil; exact rfl; exact rfl; apply RnH3.c; exact rfl; exact rfl; apply RnC.cl; rfl; exact inferInstance; exact rfl; exact rfl; apply RnH3.c; exact rfl
     exact rfl; apply RnC.cl; rfl; exact inferInstance; exact rfl; exact rfl; apply RnH3.c; exact rfl; exact rfl; apply RnC.cl; rfl; exact inferInstance; exact rfl
     exact rfl; apply RnH3.c; exact rfl; exact rfl; apply RnC.cl; rfl; exact inferInstance; exact rfl; exact rfl; exact RnH3.n; exact rfl; exact rfl)
  | true =>
    cases h3 : out.any fun x => z.n == x with
    | true =>
      have hp : chP S l vs s out last.n z = false := by unfold chP; rw [h3]; simp
      rw [chOne_no S hz hp] at hN
      rw [h3] at hcon
      (refine Gol.seq ?_; apply Gol.sr; apply t0; exact s_fieldAddr rfl; apply t0; exact s_load rfl rfl rfl; apply t0; exact s_ne rfl rfl; apply t0
       exact s_move rfl; apply g0; exact wnt_g rfl rfl rfl (by focus (simp only [*]; rfl)); exact s_fieldAddr rfl; apply g0; exact wnt_g rfl rfl rfl (by focus (simp only [*]; rfl))
       exact s_loadN rfl rfl (lb rfl) (agu_nm8 rfl); apply g0; exact wnt_g rfl rfl rfl (by focus (simp only [*]; rfl)); exact s_fieldAddr rfl
       apply g0; exact wnt_g rfl rfl rfl (by focus (simp only [*]; rfl)); exact s_loadN rfl rfl (lb rfl) (agu_nm8 rfl); apply g0; exact wnt_g rfl rfl rfl (by focus (simp only [*]; rfl))
       exact s_neN rfl rfl; apply t0; exact s_pick_f rfl (by assumption) rfl; apply t0; exact s_move rfl; apply g0; exact wnt_g rfl rfl rfl (by focus (simp only [*]; rfl))
       exact s_move rfl; apply g0; exact wnt_g rfl rfl rfl (by focus (simp only [*]; rfl)); exact s_fieldAddr rfl; apply g0; exact wnt_g rfl rfl rfl (by focus (simp only [*]; rfl))
       exact s_loadN rfl rfl (lb rfl) (agu_nm8 rfl); apply gq; exact wnt_g rfl rfl rfl (by focus (simp only [*]; rfl)); exact s_call (f := 120) rfl (evs.cons rfl (evs.cons rfl evs.nil)) (ArgL.cons (arg_sl rfl) (ArgL.cons arg_clo ArgL.nil)) hcon (lb rfl)
       dsimp only [reduceAdd, reduceMul, reduceSub, na, ca, nbk, mc, ml]; apply t0; exact s_pick_f rfl (by focus (simp only [*]; rfl)) rfl
       apply t0; exact s_move rfl; apply sk; exact wnt_g rfl rfl rfl rfl; apply sk; exact wnt_g rfl rfl rfl rfl; apply sk; exact wnt_g rfl rfl rfl rfl; apply sk
       exact wnt_g rfl rfl rfl rfl; apply sk; exact wnt_g rfl rfl rfl rfl; apply sk; exact wnt_g rfl rfl rfl rfl; apply t0; exact s_pick_t rfl rfl rfl; dsimp only [reduceAdd, reduceMul]
       exact dn; exact rfl)
      refine Gol.cond_t rfl rfl ?_
      (refine Gol.exit ?_; refine thn_x ?_; refine inBlk_hit ?_; refine thn_n ?_; apply Gol.region
       apply t0; exact s_addn rfl rfl (by simp <;> omega); apply t0; exact s_move rfl; dsimp only [reduceAdd, reduceMul]; exact dn; exact rfl)
      refine rnd_n (i + 1, K) ⟨hlt, hK⟩ (by dsimp only; omega) ?_
      dsimp only
      rw [hN]
      (apply Le.mk3' []; apply RnT3.c; exact rfl; apply Rn3.r; exact Rn.v rfl; apply RnT3.c; exact rfl; apply Rn3.r; exact Rn.pt rfl rfl; apply RnT3.c; exact rfl
       apply Rn3.r; exact Rn.pt rfl rfl; apply RnT3.c; exact rfl; apply Rn3.r; exact Rn.pt rfl rfl; apply RnT3.c; exact rfl; apply Rn3.r; exact Rn.sl rfl rfl
       apply RnT3.c; exact rfl; apply Rn3.r; exact Rn.v rfl; apply RnT3.c; exact rfl; apply Rn3.r; exact Rn.pt rfl rfl; apply RnT3.c; exact rfl; apply Rn3.r
       exact Rn.v rfl; apply RnT3.c; exact rfl; apply Rn3.r; exact Rn.clo inferInstance rfl; apply RnT3.c; exact rfl; apply Rn3.r; exact Rn.v rfl; apply RnT3.c
       exact rfl; apply Rn3.r; exact Rn.v rfl; exact RnT3.n; apply RnH3.c; exact rfl; exact rfl; apply RnC.l; apply Rn3L.cons; apply Rn3.r; exact Rn.clo inferInstance rfl
       apply Rn3L.cons; apply Rn3.r; exact Rn.clo inferInstance rfl; apply Rn3L.cons; apply Rn3.r; exact Rn.clo inferInstance rfl; apply Rn3L.cons; apply Rn3.r
       exact Rn.clo inferInstance rfl; apply Rn3L.cons; apply Rn3.r; exact Rn.mp rfl; exact Rn3L.nil; exact rfl; exact rfl; apply RnH3.c; exact rfl; exact rfl
       apply RnC.cl; rfl; exact inferInstance; exact rfl; exact rfl; apply RnH3.c; exact rfl; exact rfl; apply RnC.l; apply Rn3L.cons; apply Rn3.r; exact Rn.pt rfl rfl
       exact Rn3L.nil; exact rfl; exact rfl; apply RnH3.c; exact rfl; exact rfl; apply RnC.cl; rfl; exact inferInstance; exact rfl; exact rfl; apply RnH3.c; exact rfl
       exact rfl; apply RnC.cl; rfl; exact inferInstance; exact rfl; exact rfl; apply RnH3.c; exact rfl; exact rfl; apply RnC.cl; rfl; exact inferInstance; exact rfl
       exact rfl; apply RnH3.c; exact rfl; exact rfl; apply RnC.cl; rfl; exact inferInstance; exact rfl; exact rfl; exact RnH3.n; exact rfl; exact rfl)
    | false =>
      rw [h3] at hcon
      cases h4 : hasB (stqN S l vs z.n).s s with
      | false =>
        have hp : chP S l vs s out last.n z = false := by unfold chP; rw [h4]; simp
        rw [chOne_no S hz hp] at hN
        rw [h4] at hsig
        (refine Gol.seq ?_; apply Gol.sr; apply t0; exact s_fieldAddr rfl; apply t0; exact s_load rfl rfl rfl; apply t0; exact s_ne rfl rfl; apply t0
         exact s_move rfl; apply g0; exact wnt_g rfl rfl rfl (by focus (simp only [*]; rfl)); exact s_fieldAddr rfl; apply g0; exact wnt_g rfl rfl rfl (by focus (simp only [*]; rfl))
         exact s_loadN rfl rfl (lb rfl) (agu_nm8 rfl); apply g0; exact wnt_g rfl rfl rfl (by focus (simp only [*]; rfl)); exact s_fieldAddr rfl
         apply g0; exact wnt_g rfl rfl rfl (by focus (simp only [*]; rfl)); exact s_loadN rfl rfl (lb rfl) (agu_nm8 rfl); apply g0; exact wnt_g rfl rfl rfl (by focus (simp only [*]; rfl))
         exact s_neN rfl rfl; apply t0; exact s_pick_f rfl (by assumption) rfl; apply t0; exact s_move rfl; apply g0; exact wnt_g rfl rfl rfl (by focus (simp only [*]; rfl))
         exact s_move rfl; apply g0; exact wnt_g rfl rfl rfl (by focus (simp only [*]; rfl)); exact s_fieldAddr rfl; apply g0; exact wnt_g rfl rfl rfl (by focus (simp only [*]; rfl))
         exact s_loadN rfl rfl (lb rfl) (agu_nm8 rfl); apply gq; exact wnt_g rfl rfl rfl (by focus (simp only [*]; rfl)); exact s_call (f := 120) rfl (evs.cons rfl (evs.cons rfl evs.nil)) (ArgL.cons (arg_sl rfl) (ArgL.cons arg_clo ArgL.nil)) hcon (lb rfl)
         dsimp only [reduceAdd, reduceMul, reduceSub, na, ca, nbk, mc, ml]; apply t0; exact s_pick_f rfl (by focus (simp only [*]; rfl)) rfl
         apply t0; exact s_move rfl; apply g0; exact wnt_g rfl rfl rfl rfl; exact s_loadW rfl rfl rfl (agu_cua _); apply g0; exact wnt_g rfl rfl rfl rfl; exact s_fieldAddr rfl
         apply g0; exact wnt_g rfl rfl rfl rfl; exact s_loadN rfl rfl (lb rfl) (agu_nm8 rfl); apply g0; exact wnt_g rfl rfl rfl rfl; exact s_move rfl
         dsimp only [reduceAdd, reduceMul, reduceSub, na, ca, nbk, mc, ml]; apply Trc.step rfl rfl
         apply wnt_g; exact rfl; exact rfl; exact rfl; rfl; apply s_acts (f := 121) [0, 1] rfl inferInstance; exact hsig; apply evs.cons rfl
         apply evs.cons rfl; apply evs.cons rfl; exact evs.nil; exact rfl; apply ABs.cons; exact rfl; exact rfl; exact rfl; apply RenL.cons; exact Ren.clo inferInstance
         apply RenL.cons; exact Ren.clo inferInstance; apply RenL.cons; exact Ren.clo inferInstance; apply RenL.cons; exact Ren.clo inferInstance; apply RenL.cons
         apply Ren.mp; exact CaR.old rfl; exact RenL.nil; apply ABs.cons; exact rfl; exact rfl; exact rfl; exact RenL.clo; exact ABs.nil; dsimp only [List.cons_append, List.nil_append, List.append_nil]
         apply RenL.cons; apply Ren.agL; apply RenL.cons; apply Ren.pt; exact CaR.old rfl; exact RenL.nil; apply RenL.cons; exact Ren.clo inferInstance; apply RenL.cons
         exact Ren.clo inferInstance; exact RenL.nil; exact Ren.clo inferInstance; apply HRen.kept; exact CaR.old rfl; apply RenL.cons; exact Ren.clo inferInstance
         apply RenL.cons; exact Ren.clo inferInstance; apply RenL.cons; exact Ren.clo inferInstance; apply RenL.cons; exact Ren.clo inferInstance; apply RenL.cons
         apply Ren.mp; exact CaR.old rfl; exact RenL.nil; apply HRen.kept; exact CaR.old rfl; exact RenL.clo; exact HRen.nil; exact lb rfl; dsimp only [reduceAdd, reduceMul, reduceSub, na, ca, nbk, nones, mc, ml]
         apply g0; exact wnt_g rfl rfl rfl rfl; exact s_not rfl; apply t0; exact s_pick_f rfl rfl rfl; dsimp only [reduceAdd, reduceMul]; exact dn; exact rfl)
        refine Gol.cond_t rfl rfl ?_
        (refine Gol.exit ?_; refine thn_x ?_; refine inBlk_hit ?_; refine thn_n ?_; apply Gol.region
         apply t0; exact s_addn rfl rfl (by simp <;> omega); apply t0; exact s_move rfl; dsimp only [reduceAdd, reduceMul]; exact dn; exact rfl)
        refine rnd_n (i + 1, K2) ⟨hlt, hK2⟩ (by dsimp only; omega) ?_
        dsimp only
        rw [hN]
        (apply Le.mk3' []; apply RnT3.c; exact rfl; apply Rn3.r; exact Rn.v rfl; apply RnT3.c; exact rfl; apply Rn3.r; exact Rn.pt rfl rfl; apply RnT3.c; exact rfl
         apply Rn3.r; exact Rn.pt rfl rfl; apply RnT3.c; exact rfl; apply Rn3.r; exact Rn.pt rfl rfl; apply RnT3.c; exact rfl; apply Rn3.r; exact Rn.sl rfl rfl
         apply RnT3.c; exact rfl; apply Rn3.r; exact Rn.v rfl; apply RnT3.c; exact rfl; apply Rn3.r; exact Rn.pt rfl rfl; apply RnT3.c; exact rfl; apply Rn3.r
         exact Rn.v rfl; apply RnT3.c; exact rfl; apply Rn3.r; exact Rn.clo inferInstance rfl; apply RnT3.c; exact rfl; apply Rn3.r; exact Rn.v rfl; apply RnT3.c
         exact rfl; apply Rn3.r; exact Rn.v rfl; exact RnT3.n; apply RnH3.c; exact rfl; exact rfl; apply RnC.l; apply Rn3L.cons; apply Rn3.r; exact Rn.clo inferInstance rfl
         apply Rn3L.cons; apply Rn3.r; exact Rn.clo inferInstance rfl; apply Rn3L.cons; apply Rn3.r; exact Rn.clo inferInstance rfl; apply Rn3L.cons; apply Rn3.r
         exact Rn.clo inferInstance rfl; apply Rn3L.cons; apply Rn3.r; exact Rn.mp rfl; exact Rn3L.nil; exact rfl; exact rfl; apply RnH3.c; exact rfl; exact rfl
         apply RnC.cl; rfl; exact inferInstance; exact rfl; exact rfl; apply RnH3.c; exact rfl; exact rfl; apply RnC.l; apply Rn3L.cons; apply Rn3.r; exact Rn.pt rfl rfl
         exact Rn3L.nil; exact rfl; exact rfl; apply RnH3.c; exact rfl; exact rfl; apply RnC.cl; rfl; exact inferInstance; exact rfl; exact rfl; apply RnH3.c; exact rfl
         exact rfl; apply RnC.cl; rfl; exact inferInstance; exact rfl; exact rfl; apply RnH3.c; exact rfl; exact rfl; apply RnC.cl; rfl; exact inferInstance; exact rfl
         exact rfl; apply RnH3.c; exact rfl; exact rfl; apply RnC.cl; rfl; exact inferInstance; exact rfl; exact rfl; exact RnH3.n; exact rfl; exact rfl)
      | true =>
        have hp : chP S l vs s out last.n z = true := by unfold chP; rw [decide_eq_true h1, h2, h3, h4]; rfl
        rw [h4] at hsig
        cases best with
        | none =>
          rw [chOne_first S hz hp] at hN
          (refine Gol.seq ?_; apply Gol.sr; apply t0; exact s_fieldAddr rfl; apply t0; exact s_load rfl rfl rfl; apply t0; exact s_ne rfl rfl; apply t0
           exact s_move rfl; apply g0; exact wnt_g rfl rfl rfl (by focus (simp only [*]; rfl)); exact s_fieldAddr rfl; apply g0; exact wnt_g rfl rfl rfl (by focus (simp only [*]; rfl))
           exact s_loadN rfl rfl (lb rfl) (agu_nm8 rfl); apply g0; exact wnt_g rfl rfl rfl (by focus (simp only [*]; rfl)); exact s_fieldAddr rfl
           apply g0; exact wnt_g rfl rfl rfl (by focus (simp only [*]; rfl)); exact s_loadN rfl rfl (lb rfl) (agu_nm8 rfl); apply g0; exact wnt_g rfl rfl rfl (by focus (simp only [*]; rfl))
           exact s_neN rfl rfl; apply t0; exact s_pick_f rfl (by assumption) rfl; apply t0; exact s_move rfl; apply g0; exact wnt_g rfl rfl rfl (by focus (simp only [*]; rfl))
           exact s_move rfl; apply g0; exact wnt_g rfl rfl rfl (by focus (simp only [*]; rfl)); exact s_fieldAddr rfl; apply g0; exact wnt_g rfl rfl rfl (by focus (simp only [*]; rfl))
           exact s_loadN rfl rfl (lb rfl) (agu_nm8 rfl); apply gq; exact wnt_g rfl rfl rfl (by focus (simp only [*]; rfl)); exact s_call (f := 120) rfl (evs.cons rfl (evs.cons rfl evs.nil)) (ArgL.cons (arg_sl rfl) (ArgL.cons arg_clo ArgL.nil)) hcon (lb rfl)
           dsimp only [reduceAdd, reduceMul, reduceSub, na, ca, nbk, mc, ml]; apply t0; exact s_pick_f rfl (by focus (simp only [*]; rfl)) rfl
           apply t0; exact s_move rfl; apply g0; exact wnt_g rfl rfl rfl rfl; exact s_loadW rfl rfl rfl (agu_cua _); apply g0; exact wnt_g rfl rfl rfl rfl; exact s_fieldAddr rfl
           apply g0; exact wnt_g rfl rfl rfl rfl; exact s_loadN rfl rfl (lb rfl) (agu_nm8 rfl); apply g0; exact wnt_g rfl rfl rfl rfl; exact s_move rfl
           dsimp only [reduceAdd, reduceMul, reduceSub, na, ca, nbk, mc, ml]; apply Trc.step rfl rfl
           apply wnt_g; exact rfl; exact rfl; exact rfl; rfl; apply s_acts (f := 121) [0, 1] rfl inferInstance; exact hsig; apply evs.cons rfl
           apply evs.cons rfl; apply evs.cons rfl; exact evs.nil; exact rfl; apply ABs.cons; exact rfl; exact rfl; exact rfl; apply RenL.cons; exact Ren.clo inferInstance
           apply RenL.cons; exact Ren.clo inferInstance; apply RenL.cons; exact Ren.clo inferInstance; apply RenL.cons; exact Ren.clo inferInstance; apply RenL.cons
           apply Ren.mp; exact CaR.old rfl; exact RenL.nil; apply ABs.cons; exact rfl; exact rfl; exact rfl; exact RenL.clo; exact ABs.nil; dsimp only [List.cons_append, List.nil_append, List.append_nil]
           apply RenL.cons; apply Ren.agL; apply RenL.cons; apply Ren.pt; exact CaR.old rfl; exact RenL.nil; apply RenL.cons; exact Ren.clo inferInstance; apply RenL.cons
           exact Ren.clo inferInstance; exact RenL.nil; exact Ren.clo inferInstance; apply HRen.kept; exact CaR.old rfl; apply RenL.cons; exact Ren.clo inferInstance
           apply RenL.cons; exact Ren.clo inferInstance; apply RenL.cons; exact Ren.clo inferInstance; apply RenL.cons; exact Ren.clo inferInstance; apply RenL.cons
           apply Ren.mp; exact CaR.old rfl; exact RenL.nil; apply HRen.kept; exact CaR.old rfl; exact RenL.clo; exact HRen.nil; exact lb rfl; dsimp only [reduceAdd, reduceMul, reduceSub, na, ca, nbk, nones, mc, ml]
           apply g0; exact wnt_g rfl rfl rfl rfl; exact s_not rfl; apply t0; exact s_pick_f rfl rfl rfl; dsimp only [reduceAdd, reduceMul]; exact dn; exact rfl)
          refine Gol.cond_f rfl rfl ?_
          dsimp only [Option.isSome]
          (refine Gol.skip ?_; refine thn_n ?_; apply Gol.sr; apply t0; exact s_move rfl; apply t0; exact s_not rfl; apply t0; exact s_move rfl
           apply sk; exact wnt_g rfl rfl rfl rfl; apply sk; exact wnt_g rfl rfl rfl rfl; apply sk; exact wnt_g rfl rfl rfl rfl; apply sk; exact wnt_g rfl rfl rfl rfl
           apply sk; exact wnt_g rfl rfl rfl rfl; apply sk; exact wnt_g rfl rfl rfl rfl; apply t0; exact s_pick_t rfl rfl rfl; dsimp only [reduceAdd, reduceMul]
           exact dn; exact rfl)
          refine Gol.cond_t rfl rfl ?_
          (apply Gol.region; apply t0; exact s_loadW rfl rfl rfl (agu_cua _); apply n1; exact s_storeW rfl rfl rfl rfl rfl rfl; apply t0; exact s_assign rfl
           dsimp only [reduceAdd, reduceMul]; exact dn; exact rfl; refine inBlk_n ?_; refine thn_n ?_; apply Gol.region
           apply t0; exact s_addn rfl rfl (by simp <;> omega); apply t0; exact s_move rfl; dsimp only [reduceAdd, reduceMul]; exact dn; exact rfl)
          refine rnd_n (i + 1, K2) ⟨hlt, hK2⟩ (by dsimp only; omega) ?_
          dsimp only
          rw [hN]
          dsimp only [nxC, Option.isSome]
          (apply Le.mk3' []; apply RnT3.c; exact rfl; apply Rn3.r; exact Rn.v rfl; apply RnT3.c; exact rfl; apply Rn3.r; exact Rn.pt rfl rfl; apply RnT3.c; exact rfl
           apply Rn3.r; exact Rn.pt rfl rfl; apply RnT3.c; exact rfl; apply Rn3.r; exact Rn.pt rfl rfl; apply RnT3.c; exact rfl; apply Rn3.r; exact Rn.sl rfl rfl
           apply RnT3.c; exact rfl; apply Rn3.r; exact Rn.v rfl; apply RnT3.c; exact rfl; apply Rn3.r; exact Rn.pt rfl rfl; apply RnT3.c; exact rfl; apply Rn3.r
           exact Rn.v rfl; apply RnT3.c; exact rfl; apply Rn3.r; exact Rn.clo inferInstance rfl; apply RnT3.c; exact rfl; apply Rn3.r; exact Rn.v rfl; apply RnT3.c
           exact rfl; apply Rn3.r; exact Rn.v rfl; exact RnT3.n; apply RnH3.c; exact rfl; exact rfl; apply RnC.l; apply Rn3L.cons; apply Rn3.r; exact Rn.clo inferInstance rfl
           apply Rn3L.cons; apply Rn3.r; exact Rn.clo inferInstance rfl; apply Rn3L.cons; apply Rn3.r; exact Rn.clo inferInstance rfl; apply Rn3L.cons; apply Rn3.r
           exact Rn.clo inferInstance rfl; apply Rn3L.cons; apply Rn3.r; exact Rn.mp rfl; exact Rn3L.nil; exact rfl; exact rfl; apply RnH3.c; exact rfl; exact rfl
           apply RnC.cl; rfl; exact inferInstance; exact rfl; exact rfl; apply RnH3.c; exact rfl; exact rfl; apply RnC.l; apply Rn3L.cons; apply Rn3.r; exact Rn.pt rfl rfl
           exact Rn3L.nil; exact rfl; exact rfl; apply RnH3.c; exact rfl; exact rfl; apply RnC.cl; rfl; exact inferInstance; exact rfl; exact rfl; apply RnH3.c; exact rfl
           exact rfl; apply RnC.cl; rfl; exact inferInstance; exact rfl; exact rfl; apply RnH3.c; exact rfl; exact rfl; apply RnC.cl; rfl; exact inferInstance; exact rfl
           exact rfl; apply RnH3.c; exact rfl; exact rfl; apply RnC.cl; rfl; exact inferInstance; exact rfl; exact rfl; exact RnH3.n; exact rfl; exact rfl)
        | some b =>
          rw [chOne_next S hz hp] at hN
          have hcmp := cmpNm_ok z.n b.n
          by_cases h5 : z.n < b.n
          · rw [if_pos h5] at hN
            rw [cmpN_lt h5] at hcmp
            dsimp only [Option.isSome, nxC]
            (refine Gol.seq ?_; apply Gol.sr; apply t0; exact s_fieldAddr rfl; apply t0; exact s_load rfl rfl rfl; apply t0; exact s_ne rfl rfl; apply t0
             exact s_move rfl; apply g0; exact wnt_g rfl rfl rfl (by focus (simp only [*]; rfl)); exact s_fieldAddr rfl; apply g0; exact wnt_g rfl rfl rfl (by focus (simp only [*]; rfl))
             exact s_loadN rfl rfl (lb rfl) (agu_nm8 rfl); apply g0; exact wnt_g rfl rfl rfl (by focus (simp only [*]; rfl)); exact s_fieldAddr rfl
             apply g0; exact wnt_g rfl rfl rfl (by focus (simp only [*]; rfl)); exact s_loadN rfl rfl (lb rfl) (agu_nm8 rfl); apply g0; exact wnt_g rfl rfl rfl (by focus (simp only [*]; rfl))
             exact s_neN rfl rfl; apply t0; exact s_pick_f rfl (by assumption) rfl; apply t0; exact s_move rfl; apply g0; exact wnt_g rfl rfl rfl (by focus (simp only [*]; rfl))
             exact s_move rfl; apply g0; exact wnt_g rfl rfl rfl (by focus (simp only [*]; rfl)); exact s_fieldAddr rfl; apply g0; exact wnt_g rfl rfl rfl (by focus (simp only [*]; rfl))
             exact s_loadN rfl rfl (lb rfl) (agu_nm8 rfl); apply gq; exact wnt_g rfl rfl rfl (by focus (simp only [*]; rfl)); exact s_call (f := 120) rfl (evs.cons rfl (evs.cons rfl evs.nil)) (ArgL.cons (arg_sl rfl) (ArgL.cons arg_clo ArgL.nil)) hcon (lb rfl)
             dsimp only [reduceAdd, reduceMul, reduceSub, na, ca, nbk, mc, ml]; apply t0; exact s_pick_f rfl (by focus (simp only [*]; rfl)) rfl
             apply t0; exact s_move rfl; apply g0; exact wnt_g rfl rfl rfl rfl; exact s_loadW rfl rfl rfl (agu_cua _); apply g0; exact wnt_g rfl rfl rfl rfl; exact s_fieldAddr rfl
             apply g0; exact wnt_g rfl rfl rfl rfl; exact s_loadN rfl rfl (lb rfl) (agu_nm8 rfl); apply g0; exact wnt_g rfl rfl rfl rfl; exact s_move rfl
             dsimp only [reduceAdd, reduceMul, reduceSub, na, ca, nbk, mc, ml]; apply Trc.step rfl rfl
             apply wnt_g; exact rfl; exact rfl; exact rfl; rfl; apply s_acts (f := 121) [0, 1] rfl inferInstance; exact hsig; apply evs.cons rfl
             apply evs.cons rfl; apply evs.cons rfl; exact evs.nil; exact rfl; apply ABs.cons; exact rfl; exact rfl; exact rfl; apply RenL.cons; exact Ren.clo inferInstance
             apply RenL.cons; exact Ren.clo inferInstance; apply RenL.cons; exact Ren.clo inferInstance; apply RenL.cons; exact Ren.clo inferInstance; apply RenL.cons
             apply Ren.mp; exact CaR.old rfl; exact RenL.nil; apply ABs.cons; exact rfl; exact rfl; exact rfl; exact RenL.clo; exact ABs.nil; dsimp only [List.cons_append, List.nil_append, List.append_nil]
             apply RenL.cons; apply Ren.agL; apply RenL.cons; apply Ren.pt; exact CaR.old rfl; exact RenL.nil; apply RenL.cons; exact Ren.clo inferInstance; apply RenL.cons
             exact Ren.clo inferInstance; exact RenL.nil; exact Ren.clo inferInstance; apply HRen.kept; exact CaR.old rfl; apply RenL.cons; exact Ren.clo inferInstance
             apply RenL.cons; exact Ren.clo inferInstance; apply RenL.cons; exact Ren.clo inferInstance; apply RenL.cons; exact Ren.clo inferInstance; apply RenL.cons
             apply Ren.mp; exact CaR.old rfl; exact RenL.nil; apply HRen.kept; exact CaR.old rfl; exact RenL.clo; exact HRen.nil; exact lb rfl; dsimp only [reduceAdd, reduceMul, reduceSub, na, ca, nbk, nones, mc, ml]
             apply g0; exact wnt_g rfl rfl rfl rfl; exact s_not rfl; apply t0; exact s_pick_f rfl rfl rfl; dsimp only [reduceAdd, reduceMul]; exact dn; exact rfl)
            refine Gol.cond_f rfl rfl ?_
            (refine Gol.skip ?_; refine thn_n ?_; apply Gol.sr; apply t0; exact s_move rfl; apply t0; exact s_not rfl; apply t0; exact s_move rfl
             apply g0; exact wnt_g rfl rfl rfl rfl; exact s_fieldAddr rfl; apply g0; exact wnt_g rfl rfl rfl rfl; exact s_loadN rfl rfl (lb rfl) (agu_nm8 rfl)
             apply g0; exact wnt_g rfl rfl rfl rfl; exact s_fieldAddr rfl; apply g0; exact wnt_g rfl rfl rfl rfl; exact s_loadN rfl rfl (lb rfl) (agu_nm8 rfl)
             apply gq; exact wnt_g rfl rfl rfl rfl; exact s_call (f := 116) rfl (evs.cons rfl (evs.cons rfl evs.nil)) (ArgL.cons arg_clo (ArgL.cons arg_clo ArgL.nil)) hcmp (lb rfl)
             dsimp only [reduceAdd, reduceMul, reduceSub, na, ca, nbk, mc, ml]; apply g0; exact wnt_g rfl rfl rfl rfl
             exact s_lt rfl rfl; apply t0; exact s_pick_f rfl rfl rfl; dsimp only [reduceAdd, reduceMul]; exact dn; exact rfl)
            refine Gol.cond_t rfl rfl ?_
            (apply Gol.region; apply t0; exact s_loadW rfl rfl rfl (agu_cua _); apply n1; exact s_storeW rfl rfl rfl rfl rfl rfl; apply t0; exact s_assign rfl
             dsimp only [reduceAdd, reduceMul]; exact dn; exact rfl; refine inBlk_n ?_; refine thn_n ?_; apply Gol.region
             apply t0; exact s_addn rfl rfl (by simp <;> omega); apply t0; exact s_move rfl; dsimp only [reduceAdd, reduceMul]; exact dn; exact rfl)
            refine rnd_n (i + 1, K2) ⟨hlt, hK2⟩ (by dsimp only; omega) ?_
            dsimp only
            rw [hN]
            dsimp only [nxC, Option.isSome]
            (apply Le.mk3' []; apply RnT3.c; exact rfl; apply Rn3.r; exact Rn.v rfl; apply RnT3.c; exact rfl; apply Rn3.r; exact Rn.pt rfl rfl; apply RnT3.c; exact rfl
             apply Rn3.r; exact Rn.pt rfl rfl; apply RnT3.c; exact rfl; apply Rn3.r; exact Rn.pt rfl rfl; apply RnT3.c; exact rfl; apply Rn3.r; exact Rn.sl rfl rfl
             apply RnT3.c; exact rfl; apply Rn3.r; exact Rn.v rfl; apply RnT3.c; exact rfl; apply Rn3.r; exact Rn.pt rfl rfl; apply RnT3.c; exact rfl; apply Rn3.r
             exact Rn.v rfl; apply RnT3.c; exact rfl; apply Rn3.r; exact Rn.clo inferInstance rfl; apply RnT3.c; exact rfl; apply Rn3.r; exact Rn.v rfl; apply RnT3.c
             exact rfl; apply Rn3.r; exact Rn.v rfl; exact RnT3.n; apply RnH3.c; exact rfl; exact rfl; apply RnC.l; apply Rn3L.cons; apply Rn3.r; exact Rn.clo inferInstance rfl
             apply Rn3L.cons; apply Rn3.r; exact Rn.clo inferInstance rfl; apply Rn3L.cons; apply Rn3.r; exact Rn.clo inferInstance rfl; apply Rn3L.cons; apply Rn3.r
             exact Rn.clo inferInstance rfl; apply Rn3L.cons; apply Rn3.r; exact Rn.mp rfl; exact Rn3L.nil; exact rfl; exact rfl; apply RnH3.c; exact rfl; exact rfl
             apply RnC.cl; rfl; exact inferInstance; exact rfl; exact rfl; apply RnH3.c; exact rfl; exact rfl; apply RnC.l; apply Rn3L.cons; apply Rn3.r; exact Rn.pt rfl rfl
             exact Rn3L.nil; exact rfl; exact rfl; apply RnH3.c; exact rfl; exact rfl; apply RnC.cl; rfl; exact inferInstance; exact rfl; exact rfl; apply RnH3.c; exact rfl
             exact rfl; apply RnC.cl; rfl; exact inferInstance; exact rfl; exact rfl; apply RnH3.c; exact rfl; exact rfl; apply RnC.cl; rfl; exact inferInstance; exact rfl
             exact rfl; apply RnH3.c; exact rfl; exact rfl; apply RnC.cl; rfl; exact inferInstance; exact rfl; exact rfl; exact RnH3.n; exact rfl; exact rfl)
          · rw [if_neg h5] at hN
            have d5 : decide (cmpN z.n b.n < 0) = false := decide_eq_false (cmpN_ge h5)
            dsimp only [Option.isSome, nxC]
            (refine Gol.seq ?_; apply Gol.sr; apply t0; exact s_fieldAddr rfl; apply t0; exact s_load rfl rfl rfl; apply t0; exact s_ne rfl rfl; apply t0
             exact s_move rfl; apply g0; exact wnt_g rfl rfl rfl (by focus (simp only [*]; rfl)); exact s_fieldAddr rfl; apply g0; exact wnt_g rfl rfl rfl (by focus (simp only [*]; rfl))
             exact s_loadN rfl rfl (lb rfl) (agu_nm8 rfl); apply g0; exact wnt_g rfl rfl rfl (by focus (simp only [*]; rfl)); exact s_fieldAddr rfl
             apply g0; exact wnt_g rfl rfl rfl (by focus (simp only [*]; rfl)); exact s_loadN rfl rfl (lb rfl) (agu_nm8 rfl); apply g0; exact wnt_g rfl rfl rfl (by focus (simp only [*]; rfl))
             exact s_neN rfl rfl; apply t0; exact s_pick_f rfl (by assumption) rfl; apply t0; exact s_move rfl; apply g0; exact wnt_g rfl rfl rfl (by focus (simp only [*]; rfl))
             exact s_move rfl; apply g0; exact wnt_g rfl rfl rfl (by focus (simp only [*]; rfl)); exact s_fieldAddr rfl; apply g0; exact wnt_g rfl rfl rfl (by focus (simp only [*]; rfl))
             exact s_loadN rfl rfl (lb rfl) (agu_nm8 rfl); apply gq; exact wnt_g rfl rfl rfl (by focus (simp only [*]; rfl)); exact s_call (f := 120) rfl (evs.cons rfl (evs.cons rfl evs.nil)) (ArgL.cons (arg_sl rfl) (ArgL.cons arg_clo ArgL.nil)) hcon (lb rfl)
             dsimp only [reduceAdd, reduceMul, reduceSub, na, ca, nbk, mc, ml]; apply t0; exact s_pick_f rfl (by focus (simp only [*]; rfl)) rfl
             apply t0; exact s_move rfl; apply g0; exact wnt_g rfl rfl rfl rfl; exact s_loadW rfl rfl rfl (agu_cua _); apply g0; exact wnt_g rfl rfl rfl rfl; exact s_fieldAddr rfl
             apply g0; exact wnt_g rfl rfl rfl rfl; exact s_loadN rfl rfl (lb rfl) (agu_nm8 rfl); apply g0; exact wnt_g rfl rfl rfl rfl; exact s_move rfl
             dsimp only [reduceAdd, reduceMul, reduceSub, na, ca, nbk, mc, ml]; apply Trc.step rfl rfl
             apply wnt_g; exact rfl; exact rfl; exact rfl; rfl; apply s_acts (f := 121) [0, 1] rfl inferInstance; exact hsig; apply evs.cons rfl
             apply evs.cons rfl; apply evs.cons rfl; exact evs.nil; exact rfl; apply ABs.cons; exact rfl; exact rfl; exact rfl; apply RenL.cons; exact Ren.clo inferInstance
             apply RenL.cons; exact Ren.clo inferInstance; apply RenL.cons; exact Ren.clo inferInstance; apply RenL.cons; exact Ren.clo inferInstance; apply RenL.cons
             apply Ren.mp; exact CaR.old rfl; exact RenL.nil; apply ABs.cons; exact rfl; exact rfl; exact rfl; exact RenL.clo; exact ABs.nil; dsimp only [List.cons_append, List.nil_append, List.append_nil]
             apply RenL.cons; apply Ren.agL; apply RenL.cons; apply Ren.pt; exact CaR.old rfl; exact RenL.nil; apply RenL.cons; exact Ren.clo inferInstance; apply RenL.cons
             exact Ren.clo inferInstance; exact RenL.nil; exact Ren.clo inferInstance; apply HRen.kept; exact CaR.old rfl; apply RenL.cons; exact Ren.clo inferInstance
             apply RenL.cons; exact Ren.clo inferInstance; apply RenL.cons; exact Ren.clo inferInstance; apply RenL.cons; exact Ren.clo inferInstance; apply RenL.cons
             apply Ren.mp; exact CaR.old rfl; exact RenL.nil; apply HRen.kept; exact CaR.old rfl; exact RenL.clo; exact HRen.nil; exact lb rfl; dsimp only [reduceAdd, reduceMul, reduceSub, na, ca, nbk, nones, mc, ml]
             apply g0; exact wnt_g rfl rfl rfl rfl; exact s_not rfl; apply t0; exact s_pick_f rfl rfl rfl; dsimp only [reduceAdd, reduceMul]; exact dn; exact rfl)
            refine Gol.cond_f rfl rfl ?_
            (refine Gol.skip ?_; refine thn_n ?_; apply Gol.sr; apply t0; exact s_move rfl; apply t0; exact s_not rfl; apply t0; exact s_move rfl
             apply g0; exact wnt_g rfl rfl rfl rfl; exact s_fieldAddr rfl; apply g0; exact wnt_g rfl rfl rfl rfl; exact s_loadN rfl rfl (lb rfl) (agu_nm8 rfl)
             apply g0; exact wnt_g rfl rfl rfl rfl; exact s_fieldAddr rfl; apply g0; exact wnt_g rfl rfl rfl rfl; exact s_loadN rfl rfl (lb rfl) (agu_nm8 rfl)
             apply gq; exact wnt_g rfl rfl rfl rfl; exact s_call (f := 116) rfl (evs.cons rfl (evs.cons rfl evs.nil)) (ArgL.cons arg_clo (ArgL.cons arg_clo ArgL.nil)) hcmp (lb rfl)
             dsimp only [reduceAdd, reduceMul, reduceSub, na, ca, nbk, mc, ml]; apply g0; exact wnt_g rfl rfl rfl rfl
             exact s_lt rfl rfl; apply t0; exact s_pick_f rfl rfl rfl; dsimp only [reduceAdd, reduceMul]; exact dn; exact rfl)
            refine Gol.cond_f rfl d5 ?_
            (refine Gol.skip ?_; refine inBlk_n ?_; refine thn_n ?_; apply Gol.region; apply t0
             exact s_addn rfl rfl (by simp <;> omega); apply t0; exact s_move rfl; dsimp only [reduceAdd, reduceMul]; exact dn; exact rfl)
            refine rnd_n (i + 1, K2) ⟨hlt, hK2⟩ (by dsimp only; omega) ?_
            dsimp only
            rw [hN]
            dsimp only [nxC, Option.isSome]
            (apply Le.mk3' []; apply RnT3.c; exact rfl; apply Rn3.r; exact Rn.v rfl; apply RnT3.c; exact rfl; apply Rn3.r; exact Rn.pt rfl rfl; apply RnT3.c; exact rfl
             apply Rn3.r; exact Rn.pt rfl rfl; apply RnT3.c; exact rfl; apply Rn3.r; exact Rn.pt rfl rfl; apply RnT3.c; exact rfl; apply Rn3.r; exact Rn.sl rfl rfl
             apply RnT3.c; exact rfl; apply Rn3.r; exact Rn.v rfl; apply RnT3.c; exact rfl; apply Rn3.r; exact Rn.pt rfl rfl; apply RnT3.c; exact rfl; apply Rn3.r
             exact Rn.v rfl; apply RnT3.c; exact rfl; apply Rn3.r; exact Rn.clo inferInstance rfl; apply RnT3.c; exact rfl; apply Rn3.r; exact Rn.v rfl; apply RnT3.c
             exact rfl; apply Rn3.r; exact Rn.v rfl; exact RnT3.n; apply RnH3.c; exact rfl; exact rfl; apply RnC.l; apply Rn3L.cons; apply Rn3.r; exact Rn.clo inferInstance rfl
             apply Rn3L.cons; apply Rn3.r; exact Rn.clo inferInstance rfl; apply Rn3L.cons; apply Rn3.r; exact Rn.clo inferInstance rfl; apply Rn3L.cons; apply Rn3.r
             exact Rn.clo inferInstance rfl; apply Rn3L.cons; apply Rn3.r; exact Rn.mp rfl; exact Rn3L.nil; exact rfl; exact rfl; apply RnH3.c; exact rfl; exact rfl
             apply RnC.cl; rfl; exact inferInstance; exact rfl; exact rfl; apply RnH3.c; exact rfl; exact rfl; apply RnC.l; apply Rn3L.cons; apply Rn3.r; exact Rn.pt rfl rfl
             exact Rn3L.nil; exact rfl; exact rfl; apply RnH3.c; exact rfl; exact rfl; apply RnC.cl; rfl; exact inferInstance; exact rfl; exact rfl; apply RnH3.c; exact rfl
             exact rfl; apply RnC.cl; rfl; exact inferInstance; exact rfl; exact rfl; apply RnH3.c; exact rfl; exact rfl; apply RnC.cl; rfl; exact inferInstance; exact rfl
             exact rfl; apply RnH3.c; exact rfl; exact rfl; apply RnC.cl; rfl; exact inferInstance; exact rfl; exact rfl; exact RnH3.n; exact rfl; exact rfl)
end
end Go.Proofs.YtneeclacmhhblaaGreat


/-
  Layer 27, cover: chains, in all cases. Conditions: lengths below 2^20, states of at most 100000 entries each.
-/
namespace Go.Proofs.YtneeclacmhhblaaGreat
open Go.RowKit
open Nat (reduceAdd reduceMul reduceSub)

section
variable (S : List UInt8 → UInt64) (hS : HashF S)
include hS
theorem cchain_no (l : List It) (vs : List Vt) (f : Bool) (K : List (UInt64 × Stu)) (x : UInt64) (s : Int) (hl : l.length ≤ 1000000) (h : ∀ y, itOf l x = some y → hasB y.cm s = false) :
    Acts Tryz.prog 84 [bookB l vs f, knB K] [.ag [.pt 0 0], .v (.agg (nameC x)), .v (.int .i64 s)] (.v (.slice none 0 0)) [none, none] := by
  have hgr := graph_ok l vs f K
  cases hy : itOf l x with
  | none =>
    have hit := item_no l f x hl hy
    refine Acts.of (fn := Tryz.f84) Tryz.func84 rfl (lb rfl) (lb rfl) fun w bl hid loc => ?_
    (apply Gol.sr; apply t1; exact s_box rfl rfl; apply t1; exact s_box rfl rfl; apply t0; exact s_assign rfl; dsimp only [reduceAdd, reduceMul]; exact dn
     exact rfl)
    apply Gol.scope
    (refine Gol.seq ?_; apply Gol.any; kernel_rfl; apply t0; exact s_fieldAddr rfl; apply t0; exact s_load rfl rfl rfl; dsimp only [reduceAdd, reduceMul, reduceSub, na, ca, nbk, mc, ml]
     apply tq; apply s_acts (f := 117) [0, 1] rfl inferInstance; exact hgr; apply evs.cons rfl
     exact evs.nil; exact rfl; apply ABs.cons; exact rfl; exact rfl; exact rfl; apply RenL.cons; exact Ren.clo inferInstance; apply RenL.cons; exact Ren.clo inferInstance
     apply RenL.cons; exact Ren.clo inferInstance; apply RenL.cons; exact Ren.clo inferInstance; apply RenL.cons; apply Ren.mp; exact CaR.old rfl; exact RenL.nil
     apply ABs.cons; exact rfl; exact rfl; exact rfl; exact RenL.clo; exact ABs.nil; dsimp only [List.cons_append, List.nil_append, List.append_nil]; apply RenL.cons
     apply Ren.pt; exact CaR.old rfl; exact RenL.nil; exact Ren.clo inferInstance; apply HRen.kept; exact CaR.old rfl; apply RenL.cons; exact Ren.clo inferInstance
     apply RenL.cons; exact Ren.clo inferInstance; apply RenL.cons; exact Ren.clo inferInstance; apply RenL.cons; exact Ren.clo inferInstance; apply RenL.cons
     apply Ren.mp; exact CaR.old rfl; exact RenL.nil; apply HRen.kept; exact CaR.old rfl; exact RenL.clo; exact HRen.nil; exact lb rfl; dsimp only [reduceAdd, reduceMul, reduceSub, na, ca, nbk, nones, mc, ml]
     apply t0; exact s_loadW rfl rfl rfl (agu_cuv _); dsimp only [reduceAdd, reduceMul, reduceSub, na, ca, nbk, mc, ml]
     apply tq; apply s_acts (f := 61) [] rfl inferInstance; exact hit; apply evs.cons rfl; apply evs.cons rfl
     exact evs.nil; exact rfl; exact ABs.nil; dsimp only [List.cons_append, List.nil_append, List.append_nil]; exact RenL.clo; exact Ren.clo inferInstance
     exact HRen.nil; exact lb rfl; dsimp only [reduceAdd, reduceMul, reduceSub, na, ca, nbk, nones, mc, ml]
     apply t0; exact s_move rfl; apply t0; exact s_extract rfl rfl; apply t0; exact s_extract rfl rfl; apply t1; exact s_alloc; apply n1; exact s_storeW rfl rfl rfl rfl rfl rfl
     apply t0; exact s_assign rfl; dsimp only [reduceAdd, reduceMul]; exact dn; kernel_rfl; exact rfl; refine thn_n ?_; refine Gol.seq ?_
     apply Gol.sr; apply t0; exact s_move rfl; apply t0; exact s_not rfl; apply t0; exact s_move rfl; apply sk; exact wnt_g rfl rfl rfl rfl; apply sk; exact wnt_g rfl rfl rfl rfl
     apply sk; exact wnt_g rfl rfl rfl rfl; apply sk; exact wnt_g rfl rfl rfl rfl; apply sk; exact wnt_g rfl rfl rfl rfl; apply t0; exact s_pick_t rfl rfl rfl
     dsimp only [reduceAdd, reduceMul]; exact dn; exact rfl)
    refine Gol.cond_t rfl rfl ?_
    (apply Gol.sr; apply t0; exact s_assign rfl; dsimp only [reduceAdd, reduceMul]; exact dn; exact rfl; refine Gol.ret ?_; refine thn_r ?_)
    refine noG_ret ?_
    (apply RetA.mk [0, 1] (by first | exact .inr rfl | exact .inl rfl); apply res_1 rfl; exact res_tmp rfl; exact rfl; exact rfl; exact rfl; apply OAs.gone
     apply OAs.gone; exact OAs.nil; exact Ren.clo inferInstance)
  | some y =>
    have hit := item_yes l f x y hl hy
    have hhas := has_ok y.cm s
    rw [h y hy] at hhas
    refine Acts.of (fn := Tryz.f84) Tryz.func84 rfl (lb rfl) (lb rfl) fun w bl hid loc => ?_
    (apply Gol.sr; apply t1; exact s_box rfl rfl; apply t1; exact s_box rfl rfl; apply t0; exact s_assign rfl; dsimp only [reduceAdd, reduceMul]; exact dn
     exact rfl)
    apply Gol.scope
    (refine Gol.seq ?_; apply Gol.any; kernel_rfl; apply t0; exact s_fieldAddr rfl; apply t0; exact s_load rfl rfl rfl; dsimp only [reduceAdd, reduceMul, reduceSub, na, ca, nbk, mc, ml]
     apply tq; apply s_acts (f := 117) [0, 1] rfl inferInstance; exact hgr; apply evs.cons rfl
     exact evs.nil; exact rfl; apply ABs.cons; exact rfl; exact rfl; exact rfl; apply RenL.cons; exact Ren.clo inferInstance; apply RenL.cons; exact Ren.clo inferInstance
     apply RenL.cons; exact Ren.clo inferInstance; apply RenL.cons; exact Ren.clo inferInstance; apply RenL.cons; apply Ren.mp; exact CaR.old rfl; exact RenL.nil
     apply ABs.cons; exact rfl; exact rfl; exact rfl; exact RenL.clo; exact ABs.nil; dsimp only [List.cons_append, List.nil_append, List.append_nil]; apply RenL.cons
     apply Ren.pt; exact CaR.old rfl; exact RenL.nil; exact Ren.clo inferInstance; apply HRen.kept; exact CaR.old rfl; apply RenL.cons; exact Ren.clo inferInstance
     apply RenL.cons; exact Ren.clo inferInstance; apply RenL.cons; exact Ren.clo inferInstance; apply RenL.cons; exact Ren.clo inferInstance; apply RenL.cons
     apply Ren.mp; exact CaR.old rfl; exact RenL.nil; apply HRen.kept; exact CaR.old rfl; exact RenL.clo; exact HRen.nil; exact lb rfl; dsimp only [reduceAdd, reduceMul, reduceSub, na, ca, nbk, nones, mc, ml]
     apply t0; exact s_loadW rfl rfl rfl (agu_cuv _); dsimp only [reduceAdd, reduceMul, reduceSub, na, ca, nbk, mc, ml]
     apply tq; apply s_acts (f := 61) [] rfl inferInstance; exact hit; apply evs.cons rfl; apply evs.cons rfl
     exact evs.nil; exact rfl; exact ABs.nil; dsimp only [List.cons_append, List.nil_append, List.append_nil]; exact RenL.clo; exact Ren.clo inferInstance
     exact HRen.nil; exact lb rfl; dsimp only [reduceAdd, reduceMul, reduceSub, na, ca, nbk, nones, mc, ml]
     apply t0; exact s_move rfl; apply t0; exact s_extract rfl rfl; apply t0; exact s_extract rfl rfl; apply t1; exact s_alloc; apply n1; exact s_storeW rfl rfl rfl rfl rfl rfl
     apply t0; exact s_assign rfl; dsimp only [reduceAdd, reduceMul]; exact dn; kernel_rfl; exact rfl; refine thn_n ?_; refine Gol.seq ?_
     apply Gol.sr; apply t0; exact s_move rfl; apply t0; exact s_not rfl; apply t0; exact s_move rfl; apply g0; exact wnt_g rfl rfl rfl rfl; exact s_fieldAddr rfl
     apply g0; exact wnt_g rfl rfl rfl rfl; exact s_load rfl rfl rfl; apply g0; exact wnt_g rfl rfl rfl rfl; exact s_move rfl; apply gq; exact wnt_g rfl rfl rfl rfl
     exact s_call (f := 118) rfl (evs.cons rfl (evs.cons rfl evs.nil)) (ArgL.cons arg_clo (ArgL.cons arg_clo ArgL.nil)) hhas (lb rfl)
     dsimp only [reduceAdd, reduceMul, reduceSub, na, ca, nbk, mc, ml]; apply g0; exact wnt_g rfl rfl rfl rfl
     exact s_not rfl; apply t0; exact s_pick_f rfl rfl rfl; dsimp only [reduceAdd, reduceMul]; exact dn; exact rfl)
    refine Gol.cond_t rfl rfl ?_
    (apply Gol.sr; apply t0; exact s_assign rfl; dsimp only [reduceAdd, reduceMul]; exact dn; exact rfl; refine Gol.ret ?_; refine thn_r ?_)
    refine noG_ret ?_
    (apply RetA.mk [0, 1] (by first | exact .inr rfl | exact .inl rfl); apply res_1 rfl; exact res_tmp rfl; exact rfl; exact rfl; exact rfl; apply OAs.gone
     apply OAs.gone; exact OAs.nil; exact Ren.clo inferInstance)
theorem cchain_all (l : List It) (vs : List Vt) (f : Bool) (K : List (UInt64 × Stu)) (x : UInt64) (s : Int) (hl : l.length ≤ 1000000) (hsm : ∀ x ∈ l, Sm x.st) (hK : KnOk S l vs K) :
    Acts Tryz.prog 84 [bookB l vs f, knB K] [.ag [.pt 0 0], .v (.agg (nameC x)), .v (.int .i64 s)] (.sl 2 (chainF S l vs x s).length) [none, none, some ⟨byA (flat (chainF S l vs x s)), 23, 8⟩] := by
  unfold chainF
  cases hy : itOf l x with
  | none => exact Acts.nilV 23 8 (cchain_no S hS l vs f K x s hl (fun y h => by rw [hy] at h; cases h))
  | some y =>
    dsimp only
    by_cases hc : hasB y.cm s = true
    · rw [if_pos hc]; exact cchain_ok S hS l vs f K x s hl hsm hK y hy hc
    · rw [if_neg hc]
      exact Acts.nilV 23 8 (cchain_no S hS l vs f K x s hl (fun y' h => by rw [hy] at h; injection h with h; subst h; simpa using hc))
theorem chain_ok (l : List It) (vs : List Vt) (f f2 : Bool) (x : UInt64) (s : Int) (hl : l.length ≤ 1000000) (hv : vs.length ≤ 1000000) (hsm : ∀ x ∈ l, Sm x.st) :
    Acts Tryz.prog 50 [] [.ex l.length f (itsA l), .ex vs.length f2 (vtsA vs), .v (.agg (nameC x)), .v (.int .i64 s)] (.sl 0 (chainF S l vs x s).length) [some ⟨byA (flat (chainF S l vs x s)), 23, 8⟩] := by
  have ho := open_ok l vs f f2 hl hv
  have hc := cchain_all S hS l vs f [] x s hl hsm (knOk_nil S l vs)
  generalize chainF S l vs x s = R at hc ⊢
  refine Acts.of (fn := Tryz.f50) Tryz.func50 rfl (lb rfl) (lb rfl) fun w bl hid loc => ?_
  (apply Gol.sr; apply t1; exact s_box rfl rfl; apply t0; exact s_assign rfl; dsimp only [reduceAdd, reduceMul]; exact dn; exact rfl; refine Gol.seq ?_
   apply Gol.any; kernel_rfl; apply t0; exact s_move rfl; apply t0; exact s_move rfl; dsimp only [reduceAdd, reduceMul, reduceSub, na, ca, nbk, mc, ml]
   apply tq; apply s_acts (f := 45) [] rfl inferInstance; exact ho; apply evs.cons rfl; apply evs.cons rfl
   exact evs.nil; exact rfl; exact ABs.nil; dsimp only [List.cons_append, List.nil_append, List.append_nil]; exact RenL.clo; apply Ren.pt; exact CaR.new 0 rfl rfl
   apply HRen.kept; exact CaR.new 0 rfl rfl; apply RenL.cons; exact Ren.clo inferInstance; apply RenL.cons; exact Ren.clo inferInstance; apply RenL.cons
   exact Ren.clo inferInstance; apply RenL.cons; exact Ren.clo inferInstance; apply RenL.cons; apply Ren.mp; exact CaR.new 1 rfl rfl; exact RenL.nil; apply HRen.kept
   exact CaR.new 1 rfl rfl; exact RenL.clo; exact HRen.nil; exact lb rfl; dsimp only [reduceAdd, reduceMul, reduceSub, na, ca, nbk, nones, mc, ml]
   apply tq; apply s_bld; exact rfl; (focus (dsimp only [splB, cuB, spl, cu, Value.cells, nameC, List.map, List.take, List.drop, List.append, List.length, List.cons_append, List.nil_append, Nat.reduceAdd, List.take_succ_cons, List.take_zero, List.drop_succ_cons, List.drop_zero, List.take_nil, List.drop_nil, List.append_nil, List.length_cons, List.length_nil]; done))
   dsimp only [reduceAdd, reduceMul, reduceSub, na, ca, nbk, mc, ml]; apply t0; exact s_loadW rfl rfl rfl (agu_cuv _)
   apply t0; exact s_move rfl; dsimp only [reduceAdd, reduceMul, reduceSub, na, ca, nbk, mc, ml]
   apply tq; apply s_acts (f := 84) [40, 41] rfl inferInstance; exact hc; apply evs.cons rfl
   apply evs.cons rfl; apply evs.cons rfl; exact evs.nil; exact rfl; apply ABs.cons; exact rfl; exact rfl; exact rfl; apply RenL.cons; exact Ren.clo inferInstance
   apply RenL.cons; exact Ren.clo inferInstance; apply RenL.cons; exact Ren.clo inferInstance; apply RenL.cons; exact Ren.clo inferInstance; apply RenL.cons
   apply Ren.mp; exact CaR.old rfl; exact RenL.nil; apply ABs.cons; exact rfl; exact rfl; exact rfl; exact RenL.clo; exact ABs.nil; dsimp only [List.cons_append, List.nil_append, List.append_nil]
   apply RenL.cons; apply Ren.agL; apply RenL.cons; apply Ren.pt; exact CaR.old rfl; exact RenL.nil; apply RenL.cons; exact Ren.clo inferInstance; apply RenL.cons
   exact Ren.clo inferInstance; exact RenL.nil; apply Ren.sl; exact CaR.new 0 rfl rfl; apply HRen.gone; exact CaR.old rfl; apply HRen.gone; exact CaR.old rfl
   apply HRen.kept; exact CaR.new 0 rfl rfl; exact RenL.clo; exact HRen.nil; exact lb rfl; dsimp only [reduceAdd, reduceMul, reduceSub, na, ca, nbk, nones, mc, ml]
   apply t0; exact s_assign rfl; dsimp only [reduceAdd, reduceMul]; exact dn; kernel_rfl; exact rfl; refine thn_n ?_; refine Gol.ret ?_)
  (apply RetA.mk [72] (by first | exact .inr rfl | exact .inl rfl); apply res_1 rfl; exact res_tmp rfl; exact rfl; exact rfl; exact rfl; apply OAs.kept; exact rfl
   exact rfl; exact rfl; exact RenL.clo; exact OAs.nil; apply Ren.sl; exact IdR.mk rfl)
end
end Go.Proofs.YtneeclacmhhblaaGreat


/-
  Go's slices.Reverse of names. Conditions: lengths below 2^27.
-/
namespace Go.Proofs.YtneeclacmhhblaaGreat
open Go.RowKit
open Nat (reduceAdd reduceMul reduceSub)

def rvF (l : List UInt64) : Nat → List UInt64
  | 0 => l
  | i + 1 => ((rvF l i).set i ((rvF l i).getD (l.length - 1 - i) 0)).set (l.length - 1 - i) ((rvF l i).getD i 0)
theorem rvF_len (l : List UInt64) : ∀ i, (rvF l i).length = l.length
  | 0 => rfl
  | i + 1 => by rw [rvF, List.length_set, List.length_set, rvF_len l i]
theorem rvF_get (l : List UInt64) : ∀ i, 2 * i ≤ l.length → ∀ k, (rvF l i)[k]? = if k < i ∨ (l.length - i ≤ k ∧ k < l.length) then l[l.length - 1 - k]? else l[k]?
  | 0, _, k => by
    rw [rvF, if_neg (by omega)]
  | i + 1, h, k => by
    have ih := rvF_get l i (by omega)
    have hlen := rvF_len l i
    rw [rvF]
    have g1 : (rvF l i).getD (l.length - 1 - i) 0 = l.getD (l.length - 1 - i) 0 := by
      rw [List.getD_eq_getElem?_getD, ih, if_neg (by omega), List.getD_eq_getElem?_getD]
    have g2 : (rvF l i).getD i 0 = l.getD i 0 := by
      rw [List.getD_eq_getElem?_getD, ih, if_neg (by omega), List.getD_eq_getElem?_getD]
    have at' : ∀ m, m < l.length → some (l.getD m 0) = l[m]? := fun m hm => by rw [List.getD_eq_getElem?_getD, List.getElem?_eq_getElem hm]; rfl
    rw [g1, g2, List.getElem?_set, List.getElem?_set, List.length_set, hlen]
    by_cases h1 : l.length - 1 - i = k
    · rw [if_pos h1, if_pos (by omega), if_pos (by omega), at' i (by omega)]
      congr 1; omega
    · rw [if_neg h1]
      by_cases h2 : i = k
      · rw [if_pos h2, if_pos (by omega), if_pos (by omega), at' _ (by omega)]
        congr 1; omega
      · rw [if_neg h2, ih]
        by_cases h3 : k < i ∨ (l.length - i ≤ k ∧ k < l.length)
        · rw [if_pos h3, if_pos (by omega)]
        · rw [if_neg h3, if_neg (by omega)]
theorem rvF_end (l : List UInt64) (i : Nat) (h : 2 * i ≤ l.length) (h2 : l.length ≤ 2 * i + 1) : rvF l i = l.reverse := by
  apply List.ext_getElem?
  intro k
  rw [rvF_get l i h]
  by_cases hk : k < l.length
  · rw [List.getElem?_reverse hk]
    by_cases h3 : k < i ∨ (l.length - i ≤ k ∧ k < l.length)
    · rw [if_pos h3]
    · rw [if_neg h3]; congr 1; omega
  · rw [if_neg (by omega), List.getElem?_eq_none (by omega), List.getElem?_eq_none (by rw [List.length_reverse]; omega)]
set_option maxHeartbeats 1600000 in
theorem rev_ok (l : List UInt64) (hl : l.length ≤ 100000000) : Acts Tryz.prog 122 [⟨byA (flat l), 23, 8⟩] [.sl 0 l.length] (.tp []) [some ⟨byA (flat l.reverse), 23, 8⟩] := by
  refine Acts.of (fn := Tryz.f122) Tryz.func122 rfl (lb rfl) (lb rfl) fun w bl hid loc => ?_
  (apply Gol.sr; apply t0; exact s_move rfl; apply t0; exact s_len rfl ln_sl; apply t0; exact s_sub rfl rfl (by omega); apply t0; exact s_assign rfl; apply t0
   exact s_assign rfl; dsimp only [reduceAdd, reduceMul]; exact dn; exact rfl; refine Gol.block ?_)
  refine Gol.loop (ι := Nat) (fun i => 2 * i ≤ l.length) (fun i => l.length - i) 80 (fun i => [(0, some ⟨byA (flat (rvF l i)), 23, 8⟩)]) (fun i => [(2, .v (.int .i64 (i : Int))), (3, .v (.int .i64 ((l.length : Int) - 1 - (i : Int)))), (0, .sl 0 l.length)]) 0 (Nat.zero_le _) ?_ ?_
  · trace_state
    (apply Le.mk' []; apply RnT.c; exact rfl; exact Rn.v rfl; apply RnT.c; exact rfl; apply Rn.v; congr 1; omega; apply RnT.c; exact rfl; exact Rn.sl rfl rfl
     exact RnT.n; apply RnH.c; exact rfl; exact rfl; rfl; exact rfl; exact rfl; exact RnH.n; exact rfl; exact rfl)
  intro i hi
  have hlen := rvF_len l i
  (refine Gol.seq ?_; apply Gol.sr; apply t0; exact s_move rfl; apply t0; exact s_move rfl; apply t0; exact s_lt rfl rfl; dsimp only [reduceAdd, reduceMul]
   exact dn; exact rfl)
  refine Gol.cond rfl (fun h => ?_) (fun h => ?_)
  · have hlt : (i : Int) < (l.length : Int) - 1 - i := of_decide_eq_true h
    have hj : (l.length : Int) - 1 - (i : Int) = ((l.length - 1 - i : Nat) : Int) := by omega
    have e : rvF l (i + 1) = ((rvF l i).set i ((rvF l i).getD (l.length - 1 - i) 0)).set (l.length - 1 - i) ((rvF l i).getD i 0) := rfl
    rw [hj]
    generalize rvF l i = L at hlen e
    have hl2 : (L.set i (L.getD (l.length - 1 - i) 0)).length = l.length := by rw [List.length_set, hlen]
    (refine Gol.skip ?_; refine thn_n ?_; refine Gol.seq ?_; refine Gol.block ?_; apply Gol.any
     kernel_rfl; apply t0; exact s_move rfl; apply t0; exact s_move rfl; apply t0; exact s_move rfl; apply t0; exact s_move rfl; apply t0; exact s_move rfl
     apply t0; exact s_move rfl; apply t0; exact s_ixl rfl rfl rfl (by omega); apply t0; exact s_loadN rfl rfl (by simp only [byA_length, List.length_append, List.length_cons, List.length_nil, List.length_take, List.length_drop, List.length_replicate, List.length_map, Nat.mul_one, nameB_length, flat_length, List.length_set, inA_length, dsA_length, lsA_length, dA_length, lA_length, itsA_length, vtsA_length, rcsA_length] <;> omega) (agu_nm (by omega))
     apply t0; exact s_move rfl; apply t0; exact s_move rfl; apply t0; exact s_ixl rfl rfl rfl (by omega); apply t0; exact s_loadN rfl rfl (by simp only [byA_length, List.length_append, List.length_cons, List.length_nil, List.length_take, List.length_drop, List.length_replicate, List.length_map, Nat.mul_one, nameB_length, flat_length, List.length_set, inA_length, dsA_length, lsA_length, dA_length, lA_length, itsA_length, vtsA_length, rcsA_length] <;> omega) (agu_nm (by omega))
     apply t0; exact s_ixl rfl rfl rfl (by omega); apply n1; exact s_storeNm rfl rfl rfl (by omega); apply t0; exact s_ixl rfl rfl rfl (by omega); apply n1
     exact s_storeNm rfl rfl rfl (by omega); dsimp only [reduceAdd, reduceMul]; exact dn; kernel_rfl; exact rfl; refine inBlk_n ?_
     refine thn_n ?_; apply Gol.region; apply t0; exact s_move rfl; apply t0; exact s_addn rfl rfl (by simp <;> omega); apply t0
     exact s_move rfl; apply t0; exact s_subn rfl rfl (by simp <;> omega) (by omega); apply t0; exact s_assign rfl; apply t0; exact s_assign rfl; dsimp only [reduceAdd, reduceMul]
     exact dn; exact rfl)
    trace_state
    refine rnd_n (i + 1) (by omega) (by omega) ?_
    rw [e]
    (apply Le.mk' []; apply RnT.c; exact rfl; exact Rn.v rfl; apply RnT.c; exact rfl; apply Rn.v; congr 1; omega; apply RnT.c; exact rfl; exact Rn.sl rfl rfl
     exact RnT.n; apply RnH.c; exact rfl; exact rfl; rfl; exact rfl; exact rfl; exact RnH.n; exact rfl; exact rfl)
  · have hge : ¬ (i : Int) < (l.length : Int) - 1 - i := of_decide_eq_false h
    rw [rvF_end l i hi (by omega)]
    (refine Gol.exit ?_; refine thn_x ?_; refine rnd_x ?_; refine inBlk_hit ?_)
    (apply RetA.mk [0] (by first | exact .inr rfl | exact .inl rfl); exact res_0 rfl; exact rfl; exact rfl; exact rfl; apply OAs.kept; exact rfl; exact rfl
     exact rfl; exact RenL.clo; exact OAs.nil; exact Ren.clo inferInstance)
end Go.Proofs.YtneeclacmhhblaaGreat


/-
  Layer 27, cover: rows. Conditions: lengths below 2^20, states of at most 100000 entries each.
-/
namespace Go.Proofs.YtneeclacmhhblaaGreat
open Go.RowKit
open Nat (reduceAdd reduceMul reduceSub)

theorem nm_next2 (l : List UInt64) (n : UInt64) : byA (flat l) ++ (cu (.v (.agg (nameC n))) ++ []) = byA (flat (l ++ [n])) := by
  rw [List.append_nil, cu_name, ← byA_append, flat_append, flat_one]
theorem nd_len2 : ∀ (a b : List UInt64), a.Nodup → (∀ x ∈ a, x ∈ b) → a.length ≤ b.length
  | [], b, _, _ => Nat.zero_le _
  | x :: a, b, h, hs => by
    obtain ⟨s, t, rfl⟩ := List.append_of_mem (hs x (by simp))
    rw [List.nodup_cons] at h
    have := nd_len2 a (s ++ t) h.2 (fun z hz => by
      have h1 := hs z (by simp [hz])
      have h2 : z ≠ x := fun e => h.1 (e ▸ hz)
      simp only [List.mem_append, List.mem_cons] at h1 ⊢
      rcases h1 with h1 | h1 | h1
      · exact .inl h1
      · exact absurd h1 h2
      · exact .inr h1)
    simp only [List.length_append, List.length_cons] at this ⊢
    omega
def rowV (r : Option (List UInt64)) : AV := match r with | none => .tp [.v (.slice none 0 0), .v (.bool false)] | some o => .tp [.sl 2 o.length, .v (.bool true)]
def rowH (r : Option (List UInt64)) : List (Option ABlk) := match r with | none => [none, none] | some o => [none, none, some ⟨byA (flat o.reverse), 23, 8⟩]
section
variable (S : List UInt8 → UInt64)
noncomputable def rwN (l : List It) (vs : List Vt) (x : UInt64) (s cm : Int) : Nat → List UInt64 → UInt64 → Option (List UInt64)
  | 0, _, _ => none
  | f + 1, out, n => if out ≠ [] ∧ n = x then some out else match itOf l n with
    | none => none
    | some y => if y.k = 3 ∧ (out.any fun a => n == a) = false ∧ hasB (stqN S l vs n).s s = true ∧ (out = [] ∨ y.cm = cm) then rwN l vs x s cm f (out ++ [n]) y.p else none
noncomputable def rowF (l : List It) (vs : List Vt) (x : UInt64) (s : Int) (e : UInt64) : Option (List UInt64) := match itOf l x with
  | none => none
  | some y => if hasB y.cm s = true then rwN S l vs x s y.cm (l.length + 1) [] e else none
variable (hS : HashF S)
include hS
set_option maxHeartbeats 3200000 in
theorem crow_ok (l : List It) (vs : List Vt) (f : Bool) (K : List (UInt64 × Stu)) (x : UInt64) (s : Int) (e : UInt64) (hl : l.length ≤ 1000000) (hsm : ∀ x ∈ l, Sm x.st) (hK : KnOk S l vs K) (y : It) (hy : itOf l x = some y) (hc : hasB y.cm s = true) :
    Acts Tryz.prog 85 [bookB l vs f, knB K] [.ag [.pt 0 0], .v (.agg (nameC x)), .v (.int .i64 s), .v (.agg (nameC e))] (rowV (rwN S l vs x s y.cm (l.length + 1) [] e)) (rowH (rwN S l vs x s y.cm (l.length + 1) [] e)) := by
  have hit := item_yes l f x y hl hy
  have hgr := graph_ok l vs f K
  have hhas := has_ok y.cm s
  rw [hc] at hhas
  generalize hR : rwN S l vs x s y.cm (l.length + 1) [] e = R
  refine Acts.of (fn := Tryz.f85) Tryz.func85 rfl (lb rfl) (lb rfl) fun w bl hid loc => ?_
  (apply Gol.sr; apply t1; exact s_box rfl rfl; apply t1; exact s_box rfl rfl; apply t1; exact s_box rfl rfl; apply t0; exact s_assign rfl; apply t0; exact s_assign rfl
   dsimp only [reduceAdd, reduceMul]; exact dn; exact rfl; refine Gol.seq ?_; apply Gol.any; kernel_rfl; apply t0
   exact s_fieldAddr rfl; apply t0; exact s_load rfl rfl rfl; dsimp only [reduceAdd, reduceMul, reduceSub, na, ca, nbk, mc, ml]
   apply tq; apply s_acts (f := 117) [0, 1] rfl inferInstance; exact hgr; apply evs.cons rfl
   exact evs.nil; exact rfl; apply ABs.cons; exact rfl; exact rfl; exact rfl; apply RenL.cons; exact Ren.clo inferInstance; apply RenL.cons; exact Ren.clo inferInstance
   apply RenL.cons; exact Ren.clo inferInstance; apply RenL.cons; exact Ren.clo inferInstance; apply RenL.cons; apply Ren.mp; exact CaR.old rfl; exact RenL.nil
   apply ABs.cons; exact rfl; exact rfl; exact rfl; exact RenL.clo; exact ABs.nil; dsimp only [List.cons_append, List.nil_append, List.append_nil]; apply RenL.cons
   apply Ren.pt; exact CaR.old rfl; exact RenL.nil; exact Ren.clo inferInstance; apply HRen.kept; exact CaR.old rfl; apply RenL.cons; exact Ren.clo inferInstance
   apply RenL.cons; exact Ren.clo inferInstance; apply RenL.cons; exact Ren.clo inferInstance; apply RenL.cons; exact Ren.clo inferInstance; apply RenL.cons
   apply Ren.mp; exact CaR.old rfl; exact RenL.nil; apply HRen.kept; exact CaR.old rfl; exact RenL.clo; exact HRen.nil; exact lb rfl; dsimp only [reduceAdd, reduceMul, reduceSub, na, ca, nbk, nones, mc, ml]
   apply t0; exact s_loadW rfl rfl rfl (agu_cuv _); dsimp only [reduceAdd, reduceMul, reduceSub, na, ca, nbk, mc, ml]
   apply tq; apply s_acts (f := 61) [] rfl inferInstance; exact hit; apply evs.cons rfl; apply evs.cons rfl
   exact evs.nil; exact rfl; exact ABs.nil; dsimp only [List.cons_append, List.nil_append, List.append_nil]; exact RenL.clo; exact Ren.clo inferInstance
   exact HRen.nil; exact lb rfl; dsimp only [reduceAdd, reduceMul, reduceSub, na, ca, nbk, nones, mc, ml]
   apply t0; exact s_move rfl; apply t0; exact s_extract rfl rfl; apply t0; exact s_extract rfl rfl; apply t1; exact s_alloc; apply n1; exact s_storeW rfl rfl rfl rfl rfl rfl
   apply t0; exact s_assign rfl; dsimp only [reduceAdd, reduceMul]; exact dn; kernel_rfl; exact rfl; refine thn_n ?_; refine Gol.seq ?_
   apply Gol.sr; apply t0; exact s_move rfl; apply t0; exact s_not rfl; apply t0; exact s_move rfl; apply g0; exact wnt_g rfl rfl rfl rfl; exact s_fieldAddr rfl
   apply g0; exact wnt_g rfl rfl rfl rfl; exact s_load rfl rfl rfl; apply g0; exact wnt_g rfl rfl rfl rfl; exact s_move rfl; apply gq; exact wnt_g rfl rfl rfl rfl
   exact s_call (f := 118) rfl (evs.cons rfl (evs.cons rfl evs.nil)) (ArgL.cons arg_clo (ArgL.cons arg_clo ArgL.nil)) hhas (lb rfl)
   dsimp only [reduceAdd, reduceMul, reduceSub, na, ca, nbk, mc, ml]; apply g0; exact wnt_g rfl rfl rfl rfl
   exact s_not rfl; apply t0; exact s_pick_f rfl rfl rfl; dsimp only [reduceAdd, reduceMul]; exact dn; exact rfl)
  refine Gol.cond_f rfl rfl ?_
  (refine Gol.skip ?_; refine thn_n ?_; apply Gol.sr; apply t0; exact s_assign rfl; dsimp only [reduceAdd, reduceMul]
   exact dn; exact rfl)
  refine Gol.le (Le.nilOwn (i := 12) 23 8 rfl) ?_
  (refine Gol.seq ?_; apply Gol.sr; apply t0; exact s_loadW rfl rfl rfl (agu_cuv _); apply t1; exact s_alloc; apply n1; exact s_storeW rfl rfl rfl rfl rfl rfl
   dsimp only [reduceAdd, reduceMul]; exact dn; exact rfl; refine Gol.block ?_)
  refine Gol.loop (ι := List UInt64 × UInt64 × List (UInt64 × Stu)) (fun p => KnOk S l vs p.2.2 ∧ p.1.Nodup ∧ (∀ a ∈ p.1, a ∈ l.map (·.n)) ∧ rwN S l vs x s y.cm (l.length + 1 - p.1.length) p.1 p.2.1 = R ∧ (p.1 = [] → p.2.1 = e) ∧ (p.1 ≠ [] → e ∈ p.1)) (fun p => l.length - p.1.length) 400
    (fun p => [(0, some (bookB l vs f)), (1, some (knB p.2.2)), (8, some ⟨[.pt 0 0], 117, 1⟩), (16, some ⟨cu (.v (.agg (nameC x))), 23, 8⟩), (24, some ⟨cu (.v (.agg (nameC e))), 23, 8⟩), (112, some ⟨itA y, 35, 28⟩), (97, some ⟨cu (.v (.agg (nameC p.2.1))), 23, 8⟩), (98, some ⟨byA (flat p.1), 23, 8⟩)])
    (fun p => [(2, .v (.int .i64 s)), (4, .pt 8 0), (5, .pt 16 0), (7, .pt 24 0), (10, .pt 112 0), (13, .pt 97 0), (12, .sl 98 p.1.length), (8, .v (.slice none 0 0)), (9, .v (.bool false))]) ([], e, K) ⟨hK, List.nodup_nil, fun a h => by simp at h, hR, fun _ => rfl, fun h => absurd rfl h⟩ ?_ ?_
  · (apply Le.mk3' [(97, 232), (98, 216)]; apply RnT3.c; exact rfl; apply Rn3.r; exact Rn.v rfl; apply RnT3.c; exact rfl; apply Rn3.r; exact Rn.pt rfl rfl
     apply RnT3.c; exact rfl; apply Rn3.r; exact Rn.pt rfl rfl; apply RnT3.c; exact rfl; apply Rn3.r; exact Rn.pt rfl rfl; apply RnT3.c; exact rfl; apply Rn3.r
     exact Rn.pt rfl rfl; apply RnT3.c; exact rfl; apply Rn3.r; exact Rn.pt rfl rfl; apply RnT3.c; exact rfl; apply Rn3.r; exact Rn.sl rfl rfl; apply RnT3.c
     exact rfl; apply Rn3.r; exact Rn.v rfl; apply RnT3.c; exact rfl; apply Rn3.r; exact Rn.v rfl; exact RnT3.n; apply RnH3.c; exact rfl; exact rfl; apply RnC.l
     apply Rn3L.cons; apply Rn3.r; exact Rn.clo inferInstance rfl; apply Rn3L.cons; apply Rn3.r; exact Rn.clo inferInstance rfl; apply Rn3L.cons; apply Rn3.r
     exact Rn.clo inferInstance rfl; apply Rn3L.cons; apply Rn3.r; exact Rn.clo inferInstance rfl; apply Rn3L.cons; apply Rn3.r; exact Rn.mp rfl; exact Rn3L.nil
     exact rfl; exact rfl; apply RnH3.c; exact rfl; exact rfl; apply RnC.cl; rfl; exact inferInstance; exact rfl; exact rfl; apply RnH3.c; exact rfl; exact rfl
     apply RnC.l; apply Rn3L.cons; apply Rn3.r; exact Rn.pt rfl rfl; exact Rn3L.nil; exact rfl; exact rfl; apply RnH3.c; exact rfl; exact rfl; apply RnC.cl
     rfl; exact inferInstance; exact rfl; exact rfl; apply RnH3.c; exact rfl; exact rfl; apply RnC.cl; rfl; exact inferInstance; exact rfl; exact rfl; apply RnH3.c
     exact rfl; exact rfl; apply RnC.cl; rfl; exact inferInstance; exact rfl; exact rfl; apply RnH3.c; exact rfl; exact rfl; apply RnC.cl; rfl; exact inferInstance
     exact rfl; exact rfl; apply RnH3.c; exact rfl; exact rfl; apply RnC.cl; rfl; exact inferInstance; exact rfl; exact rfl; exact RnH3.n; exact rfl; exact rfl)
  rintro ⟨out, n, K⟩ ⟨hK, hnd, hsub, hC, he1, he2⟩
  dsimp only at hK hnd hsub hC he1 he2 ⊢
  have hol : out.length ≤ l.length := by have := nd_len2 out (l.map (·.n)) hnd hsub; rwa [List.length_map] at this
  have hf1 : l.length + 1 - out.length = (l.length - out.length) + 1 := by omega
  rw [hf1, rwN] at hC
  by_cases hx : out ≠ [] ∧ n = x
  · rw [if_pos hx] at hC
    subst hC
    obtain ⟨hne, rfl⟩ := hx
    have d0 : decide (out.length = 0) = false := decide_eq_false (fun h => hne (List.eq_nil_of_length_eq_zero h))
    (refine Gol.seq ?_; apply Gol.sr; apply t0; exact s_move rfl; apply t0; exact s_len rfl ln_sl; apply t0; exact s_eqn rfl rfl; apply t0
     exact s_move rfl; apply g0; exact wnt_g rfl rfl rfl (by focus (simp only [*]; rfl)); exact s_loadW rfl rfl rfl (agu_cuv _); apply g0; exact wnt_g rfl rfl rfl (by focus (simp only [*]; rfl))
     exact s_loadW rfl rfl rfl (agu_cuv _); apply g0; exact wnt_g rfl rfl rfl (by focus (simp only [*]; rfl)); exact s_neN rfl rfl; apply t0; exact s_pick_f rfl (by assumption) rfl
     dsimp only [reduceAdd, reduceMul]; exact dn; exact rfl)
    refine Gol.cond_f rfl (by simp) ?_
    (refine Gol.exit ?_; refine thn_x ?_; refine rnd_x ?_; refine inBlk_hit ?_; refine thn_n ?_
     apply Gol.sr; apply t0; exact s_move rfl; dsimp only [reduceAdd, reduceMul, reduceSub, na, ca, nbk, mc, ml]
     apply tq; apply s_acts (f := 122) [98] rfl inferInstance; exact rev_ok out (by omega)
     apply evs.cons rfl; exact evs.nil; exact rfl; apply ABs.cons; exact rfl; exact rfl; exact rfl; exact RenL.clo; exact ABs.nil; dsimp only [List.cons_append, List.nil_append, List.append_nil]
     apply RenL.cons; apply Ren.sl; exact CaR.old rfl; exact RenL.nil; exact Ren.clo inferInstance; apply HRen.kept; exact CaR.old rfl; exact RenL.clo; exact HRen.nil
     exact lb rfl; dsimp only [reduceAdd, reduceMul, reduceSub, na, ca, nbk, nones, mc, ml]
     exact dn; exact rfl; apply Gol.sr; apply t0; exact s_move rfl; apply t0; exact s_assign rfl; apply t0; exact s_assign rfl; dsimp only [reduceAdd, reduceMul]
     exact dn; exact rfl; refine Gol.ret ?_)
    dsimp only [rowV, rowH]
    (apply RetA.mk [0, 1, 98] (by first | exact .inr rfl | exact .inl rfl); apply res_2 rfl; exact res_tmp rfl; exact res_tmp rfl; exact rfl; exact rfl; exact rfl
     apply OAs.gone; apply OAs.gone; apply OAs.kept; exact rfl; exact rfl; exact rfl; exact RenL.clo; exact OAs.nil; apply Ren.tpL; apply RenL.cons; apply Ren.sl
     exact IdR.mk rfl; apply RenL.cons; exact Ren.clo inferInstance; exact RenL.nil)
  rw [if_neg hx] at hC
  have hcon := hasName_ok out false n (by omega)
  by_cases h0 : out = []
  · have d0 : decide (out.length = 0) = true := decide_eq_true (by rw [h0]; rfl)
    have hne : n = e := he1 h0
    have d6 : (n == e) = true := by rw [hne]; simp
    have hein : e ∈ out ++ [n] := by rw [hne]; simp
    (refine Gol.seq ?_; apply Gol.sr; apply t0; exact s_move rfl; apply t0; exact s_len rfl ln_sl; apply t0; exact s_eqn rfl rfl; apply t0
     exact s_move rfl; apply sk; exact wnt_g rfl rfl rfl (by focus (simp only [*]; rfl)); apply sk; exact wnt_g rfl rfl rfl (by focus (simp only [*]; rfl))
     apply sk; exact wnt_g rfl rfl rfl (by focus (simp only [*]; rfl)); apply t0; exact s_pick_t rfl (by assumption) rfl; dsimp only [reduceAdd, reduceMul]
     exact dn; exact rfl)
    refine Gol.cond_t rfl rfl ?_
    cases ho : itOf l n with
    | none =>
      rw [ho] at hC
      dsimp only at hC
      subst hC
      (refine Gol.skip ?_; refine thn_n ?_; refine Gol.seq ?_; refine Gol.block ?_; refine Gol.seq ?_
       apply Gol.any; kernel_rfl; apply t0; exact s_fieldAddr rfl; apply t0; exact s_load rfl rfl rfl; dsimp only [reduceAdd, reduceMul, reduceSub, na, ca, nbk, mc, ml]
       apply tq; apply s_acts (f := 117) [0, 1] rfl inferInstance; exact graph_ok l vs f K; apply evs.cons rfl
       exact evs.nil; exact rfl; apply ABs.cons; exact rfl; exact rfl; exact rfl; apply RenL.cons; exact Ren.clo inferInstance; apply RenL.cons; exact Ren.clo inferInstance
       apply RenL.cons; exact Ren.clo inferInstance; apply RenL.cons; exact Ren.clo inferInstance; apply RenL.cons; apply Ren.mp; exact CaR.old rfl; exact RenL.nil
       apply ABs.cons; exact rfl; exact rfl; exact rfl; exact RenL.clo; exact ABs.nil; dsimp only [List.cons_append, List.nil_append, List.append_nil]; apply RenL.cons
       apply Ren.pt; exact CaR.old rfl; exact RenL.nil; exact Ren.clo inferInstance; apply HRen.kept; exact CaR.old rfl; apply RenL.cons; exact Ren.clo inferInstance
       apply RenL.cons; exact Ren.clo inferInstance; apply RenL.cons; exact Ren.clo inferInstance; apply RenL.cons; exact Ren.clo inferInstance; apply RenL.cons
       apply Ren.mp; exact CaR.old rfl; exact RenL.nil; apply HRen.kept; exact CaR.old rfl; exact RenL.clo; exact HRen.nil; exact lb rfl; dsimp only [reduceAdd, reduceMul, reduceSub, na, ca, nbk, nones, mc, ml]
       apply t0; exact s_loadW rfl rfl rfl (agu_cuv _); dsimp only [reduceAdd, reduceMul, reduceSub, na, ca, nbk, mc, ml]
       apply tq; apply s_acts (f := 61) [] rfl inferInstance; exact item_no l f n hl ho; apply evs.cons rfl
       apply evs.cons rfl; exact evs.nil; exact rfl; exact ABs.nil; dsimp only [List.cons_append, List.nil_append, List.append_nil]; exact RenL.clo; exact Ren.clo inferInstance
       exact HRen.nil; exact lb rfl; dsimp only [reduceAdd, reduceMul, reduceSub, na, ca, nbk, nones, mc, ml]
       apply t0; exact s_move rfl; apply t0; exact s_extract rfl rfl; apply t0; exact s_extract rfl rfl; apply t1; exact s_alloc; apply n1; exact s_storeW rfl rfl rfl rfl rfl rfl
       apply t0; exact s_assign rfl; dsimp only [reduceAdd, reduceMul]; exact dn; kernel_rfl; exact rfl; refine thn_n ?_; refine Gol.seq ?_
       apply Gol.sr; apply t0; exact s_move rfl; apply t0; exact s_not rfl; apply t0; exact s_move rfl; apply sk; exact wnt_g rfl rfl rfl rfl; apply sk; exact wnt_g rfl rfl rfl rfl
       apply sk; exact wnt_g rfl rfl rfl rfl; apply t0; exact s_pick_t rfl rfl rfl; apply t0; exact s_move rfl; apply sk; exact wnt_g rfl rfl rfl rfl; apply sk
       exact wnt_g rfl rfl rfl rfl; apply sk; exact wnt_g rfl rfl rfl rfl; apply t0; exact s_pick_t rfl rfl rfl; apply t0; exact s_move rfl; apply sk; exact wnt_g rfl rfl rfl rfl
       apply sk; exact wnt_g rfl rfl rfl rfl; apply sk; exact wnt_g rfl rfl rfl rfl; apply sk; exact wnt_g rfl rfl rfl rfl; apply sk; exact wnt_g rfl rfl rfl rfl
       apply t0; exact s_pick_t rfl rfl rfl; apply t0; exact s_move rfl; apply sk; exact wnt_g rfl rfl rfl rfl; apply sk; exact wnt_g rfl rfl rfl rfl; apply sk
       exact wnt_g rfl rfl rfl rfl; apply sk; exact wnt_g rfl rfl rfl rfl; apply sk; exact wnt_u rfl rfl rfl; apply sk; exact wnt_u rfl rfl rfl; apply sk; exact wnt_u rfl rfl rfl
       apply sk; exact wnt_u rfl rfl rfl; apply sk; exact wnt_u rfl rfl rfl; apply sk; exact wnt_g rfl rfl rfl rfl; apply t0; exact s_pick_t rfl rfl rfl; dsimp only [reduceAdd, reduceMul]
       exact dn; exact rfl)
      refine Gol.cond_t rfl (by first | rfl | assumption) ?_
      (apply Gol.sr; apply t0; exact s_assign rfl; apply t0; exact s_assign rfl; dsimp only [reduceAdd, reduceMul]; exact dn; exact rfl; refine Gol.ret ?_
       refine thn_r ?_; refine inBlk_r ?_; refine thn_r ?_; refine rnd_r ?_; refine inBlk_r ?_
       refine thn_r ?_)
      dsimp only [rowV, rowH]
      (apply RetA.mk [0, 1] (by first | exact .inr rfl | exact .inl rfl); apply res_2 rfl; exact res_tmp rfl; exact res_tmp rfl; exact rfl; exact rfl; exact rfl
       apply OAs.gone; apply OAs.gone; exact OAs.nil; exact Ren.clo inferInstance)
    | some z =>
      have hiz := item_yes l f n z hl ho
      rw [ho] at hC
      dsimp only at hC
      have hsig := signed_ok S hS l vs f K n hl hsm hK s
      have hK2 := knOk_next S hK n
      generalize knF S l vs K n = K2 at hsig hK2
      by_cases h1 : z.k = 3
      rotate_left
      · have d1 : (!decide (z.k = 3)) = true := by simp [h1]
        rw [if_neg (fun h => h1 h.1)] at hC
        subst hC
        (refine Gol.skip ?_; refine thn_n ?_; refine Gol.seq ?_; refine Gol.block ?_; refine Gol.seq ?_
         apply Gol.any; kernel_rfl; apply t0; exact s_fieldAddr rfl; apply t0; exact s_load rfl rfl rfl; dsimp only [reduceAdd, reduceMul, reduceSub, na, ca, nbk, mc, ml]
         apply tq; apply s_acts (f := 117) [0, 1] rfl inferInstance; exact graph_ok l vs f K; apply evs.cons rfl
         exact evs.nil; exact rfl; apply ABs.cons; exact rfl; exact rfl; exact rfl; apply RenL.cons; exact Ren.clo inferInstance; apply RenL.cons; exact Ren.clo inferInstance
         apply RenL.cons; exact Ren.clo inferInstance; apply RenL.cons; exact Ren.clo inferInstance; apply RenL.cons; apply Ren.mp; exact CaR.old rfl; exact RenL.nil
         apply ABs.cons; exact rfl; exact rfl; exact rfl; exact RenL.clo; exact ABs.nil; dsimp only [List.cons_append, List.nil_append, List.append_nil]; apply RenL.cons
         apply Ren.pt; exact CaR.old rfl; exact RenL.nil; exact Ren.clo inferInstance; apply HRen.kept; exact CaR.old rfl; apply RenL.cons; exact Ren.clo inferInstance
         apply RenL.cons; exact Ren.clo inferInstance; apply RenL.cons; exact Ren.clo inferInstance; apply RenL.cons; exact Ren.clo inferInstance; apply RenL.cons
         apply Ren.mp; exact CaR.old rfl; exact RenL.nil; apply HRen.kept; exact CaR.old rfl; exact RenL.clo; exact HRen.nil; exact lb rfl; dsimp only [reduceAdd, reduceMul, reduceSub, na, ca, nbk, nones, mc, ml]
         apply t0; exact s_loadW rfl rfl rfl (agu_cuv _); dsimp only [reduceAdd, reduceMul, reduceSub, na, ca, nbk, mc, ml]
         apply tq; apply s_acts (f := 61) [] rfl inferInstance; exact hiz; apply evs.cons rfl; apply evs.cons rfl
         exact evs.nil; exact rfl; exact ABs.nil; dsimp only [List.cons_append, List.nil_append, List.append_nil]; exact RenL.clo; exact Ren.clo inferInstance
         exact HRen.nil; exact lb rfl; dsimp only [reduceAdd, reduceMul, reduceSub, na, ca, nbk, nones, mc, ml]
         apply t0; exact s_move rfl; apply t0; exact s_extract rfl rfl; apply t0; exact s_extract rfl rfl; apply t1; exact s_alloc; apply n1; exact s_storeW rfl rfl rfl rfl rfl rfl
         apply t0; exact s_assign rfl; dsimp only [reduceAdd, reduceMul]; exact dn; kernel_rfl; exact rfl; refine thn_n ?_; refine Gol.seq ?_
         apply Gol.sr; apply t0; exact s_move rfl; apply t0; exact s_not rfl; apply t0; exact s_move rfl; apply g0; exact wnt_g rfl rfl rfl rfl; exact s_fieldAddr rfl
         apply g0; exact wnt_g rfl rfl rfl rfl; exact s_load rfl rfl rfl; apply g0; exact wnt_g rfl rfl rfl rfl; exact s_ne rfl rfl; apply t0; exact s_pick_f rfl rfl rfl
         apply t0; exact s_move rfl; apply sk; exact wnt_g rfl rfl rfl (by focus (simp only [*]; rfl)); apply sk; exact wnt_g rfl rfl rfl (by focus (simp only [*]; rfl))
         apply sk; exact wnt_g rfl rfl rfl (by focus (simp only [*]; rfl)); apply t0; exact s_pick_t rfl (by assumption) rfl; apply t0; exact s_move rfl; apply sk
         exact wnt_g rfl rfl rfl rfl; apply sk; exact wnt_g rfl rfl rfl rfl; apply sk; exact wnt_g rfl rfl rfl rfl; apply sk; exact wnt_g rfl rfl rfl rfl; apply sk
         exact wnt_g rfl rfl rfl rfl; apply t0; exact s_pick_t rfl rfl rfl; apply t0; exact s_move rfl; apply sk; exact wnt_g rfl rfl rfl rfl; apply sk; exact wnt_g rfl rfl rfl rfl
         apply sk; exact wnt_g rfl rfl rfl rfl; apply sk; exact wnt_g rfl rfl rfl rfl; apply sk; exact wnt_u rfl rfl rfl; apply sk; exact wnt_u rfl rfl rfl; apply sk
         exact wnt_u rfl rfl rfl; apply sk; exact wnt_u rfl rfl rfl; apply sk; exact wnt_u rfl rfl rfl; apply sk; exact wnt_g rfl rfl rfl rfl; apply t0; exact s_pick_t rfl rfl rfl
         dsimp only [reduceAdd, reduceMul]; exact dn; exact rfl)
        refine Gol.cond_t rfl (by first | rfl | assumption) ?_
        (apply Gol.sr; apply t0; exact s_assign rfl; apply t0; exact s_assign rfl; dsimp only [reduceAdd, reduceMul]; exact dn; exact rfl; refine Gol.ret ?_
         refine thn_r ?_; refine inBlk_r ?_; refine thn_r ?_; refine rnd_r ?_; refine inBlk_r ?_
         refine thn_r ?_)
        dsimp only [rowV, rowH]
        (apply RetA.mk [0, 1] (by first | exact .inr rfl | exact .inl rfl); apply res_2 rfl; exact res_tmp rfl; exact res_tmp rfl; exact rfl; exact rfl; exact rfl
         apply OAs.gone; apply OAs.gone; exact OAs.nil; exact Ren.clo inferInstance)
      have d1 : (!decide (z.k = 3)) = false := by simp [h1]
      by_cases h3 : (out.any fun a => n == a) = true
      · rw [if_neg (fun h => by rw [h3] at h; simp at h)] at hC
        subst hC
        rw [h3] at hcon
        (refine Gol.skip ?_; refine thn_n ?_; refine Gol.seq ?_; refine Gol.block ?_; refine Gol.seq ?_
         apply Gol.any; kernel_rfl; apply t0; exact s_fieldAddr rfl; apply t0; exact s_load rfl rfl rfl; dsimp only [reduceAdd, reduceMul, reduceSub, na, ca, nbk, mc, ml]
         apply tq; apply s_acts (f := 117) [0, 1] rfl inferInstance; exact graph_ok l vs f K; apply evs.cons rfl
         exact evs.nil; exact rfl; apply ABs.cons; exact rfl; exact rfl; exact rfl; apply RenL.cons; exact Ren.clo inferInstance; apply RenL.cons; exact Ren.clo inferInstance
         apply RenL.cons; exact Ren.clo inferInstance; apply RenL.cons; exact Ren.clo inferInstance; apply RenL.cons; apply Ren.mp; exact CaR.old rfl; exact RenL.nil
         apply ABs.cons; exact rfl; exact rfl; exact rfl; exact RenL.clo; exact ABs.nil; dsimp only [List.cons_append, List.nil_append, List.append_nil]; apply RenL.cons
         apply Ren.pt; exact CaR.old rfl; exact RenL.nil; exact Ren.clo inferInstance; apply HRen.kept; exact CaR.old rfl; apply RenL.cons; exact Ren.clo inferInstance
         apply RenL.cons; exact Ren.clo inferInstance; apply RenL.cons; exact Ren.clo inferInstance; apply RenL.cons; exact Ren.clo inferInstance; apply RenL.cons
         apply Ren.mp; exact CaR.old rfl; exact RenL.nil; apply HRen.kept; exact CaR.old rfl; exact RenL.clo; exact HRen.nil; exact lb rfl; dsimp only [reduceAdd, reduceMul, reduceSub, na, ca, nbk, nones, mc, ml]
         apply t0; exact s_loadW rfl rfl rfl (agu_cuv _); dsimp only [reduceAdd, reduceMul, reduceSub, na, ca, nbk, mc, ml]
         apply tq; apply s_acts (f := 61) [] rfl inferInstance; exact hiz; apply evs.cons rfl; apply evs.cons rfl
         exact evs.nil; exact rfl; exact ABs.nil; dsimp only [List.cons_append, List.nil_append, List.append_nil]; exact RenL.clo; exact Ren.clo inferInstance
         exact HRen.nil; exact lb rfl; dsimp only [reduceAdd, reduceMul, reduceSub, na, ca, nbk, nones, mc, ml]
         apply t0; exact s_move rfl; apply t0; exact s_extract rfl rfl; apply t0; exact s_extract rfl rfl; apply t1; exact s_alloc; apply n1; exact s_storeW rfl rfl rfl rfl rfl rfl
         apply t0; exact s_assign rfl; dsimp only [reduceAdd, reduceMul]; exact dn; kernel_rfl; exact rfl; refine thn_n ?_; refine Gol.seq ?_
         apply Gol.sr; apply t0; exact s_move rfl; apply t0; exact s_not rfl; apply t0; exact s_move rfl; apply g0; exact wnt_g rfl rfl rfl rfl; exact s_fieldAddr rfl
         apply g0; exact wnt_g rfl rfl rfl rfl; exact s_load rfl rfl rfl; apply g0; exact wnt_g rfl rfl rfl rfl; exact s_ne rfl rfl; apply t0; exact s_pick_f rfl rfl rfl
         apply t0; exact s_move rfl; apply g0; exact wnt_g rfl rfl rfl (by focus (simp only [*]; rfl)); exact s_move rfl; apply g0; exact wnt_g rfl rfl rfl (by focus (simp only [*]; rfl))
         exact s_loadW rfl rfl rfl (agu_cuv _); apply gq; exact wnt_g rfl rfl rfl (by focus (simp only [*]; rfl)); exact s_call (f := 120) rfl (evs.cons rfl (evs.cons rfl evs.nil)) (ArgL.cons (arg_sl rfl) (ArgL.cons arg_clo ArgL.nil)) hcon (lb rfl)
         dsimp only [reduceAdd, reduceMul, reduceSub, na, ca, nbk, mc, ml]; apply t0; exact s_pick_f rfl (by assumption) rfl
         apply t0; exact s_move rfl; apply sk; exact wnt_g rfl rfl rfl rfl; apply sk; exact wnt_g rfl rfl rfl rfl; apply sk; exact wnt_g rfl rfl rfl rfl; apply sk
         exact wnt_g rfl rfl rfl rfl; apply sk; exact wnt_g rfl rfl rfl rfl; apply t0; exact s_pick_t rfl rfl rfl; apply t0; exact s_move rfl; apply sk; exact wnt_g rfl rfl rfl rfl
         apply sk; exact wnt_g rfl rfl rfl rfl; apply sk; exact wnt_g rfl rfl rfl rfl; apply sk; exact wnt_g rfl rfl rfl rfl; apply sk; exact wnt_u rfl rfl rfl
         apply sk; exact wnt_u rfl rfl rfl; apply sk; exact wnt_u rfl rfl rfl; apply sk; exact wnt_u rfl rfl rfl; apply sk; exact wnt_u rfl rfl rfl; apply sk; exact wnt_g rfl rfl rfl rfl
         apply t0; exact s_pick_t rfl rfl rfl; dsimp only [reduceAdd, reduceMul]; exact dn; exact rfl)
        refine Gol.cond_t rfl (by first | rfl | assumption) ?_
        (apply Gol.sr; apply t0; exact s_assign rfl; apply t0; exact s_assign rfl; dsimp only [reduceAdd, reduceMul]; exact dn; exact rfl; refine Gol.ret ?_
         refine thn_r ?_; refine inBlk_r ?_; refine thn_r ?_; refine rnd_r ?_; refine inBlk_r ?_
         refine thn_r ?_)
        dsimp only [rowV, rowH]
        (apply RetA.mk [0, 1] (by first | exact .inr rfl | exact .inl rfl); apply res_2 rfl; exact res_tmp rfl; exact res_tmp rfl; exact rfl; exact rfl; exact rfl
         apply OAs.gone; apply OAs.gone; exact OAs.nil; exact Ren.clo inferInstance)
      have h3 : (out.any fun a => n == a) = false := (Bool.not_eq_true _).mp h3
      rw [h3] at hcon
      by_cases h4 : hasB (stqN S l vs n).s s = true
      rotate_left
      · rw [if_neg (fun h => h4 h.2.2.1)] at hC
        subst hC
        have h4 : hasB (stqN S l vs n).s s = false := (Bool.not_eq_true _).mp h4
        rw [h4] at hsig
        (refine Gol.skip ?_; refine thn_n ?_; refine Gol.seq ?_; refine Gol.block ?_; refine Gol.seq ?_
         apply Gol.any; kernel_rfl; apply t0; exact s_fieldAddr rfl; apply t0; exact s_load rfl rfl rfl; dsimp only [reduceAdd, reduceMul, reduceSub, na, ca, nbk, mc, ml]
         apply tq; apply s_acts (f := 117) [0, 1] rfl inferInstance; exact graph_ok l vs f K; apply evs.cons rfl
         exact evs.nil; exact rfl; apply ABs.cons; exact rfl; exact rfl; exact rfl; apply RenL.cons; exact Ren.clo inferInstance; apply RenL.cons; exact Ren.clo inferInstance
         apply RenL.cons; exact Ren.clo inferInstance; apply RenL.cons; exact Ren.clo inferInstance; apply RenL.cons; apply Ren.mp; exact CaR.old rfl; exact RenL.nil
         apply ABs.cons; exact rfl; exact rfl; exact rfl; exact RenL.clo; exact ABs.nil; dsimp only [List.cons_append, List.nil_append, List.append_nil]; apply RenL.cons
         apply Ren.pt; exact CaR.old rfl; exact RenL.nil; exact Ren.clo inferInstance; apply HRen.kept; exact CaR.old rfl; apply RenL.cons; exact Ren.clo inferInstance
         apply RenL.cons; exact Ren.clo inferInstance; apply RenL.cons; exact Ren.clo inferInstance; apply RenL.cons; exact Ren.clo inferInstance; apply RenL.cons
         apply Ren.mp; exact CaR.old rfl; exact RenL.nil; apply HRen.kept; exact CaR.old rfl; exact RenL.clo; exact HRen.nil; exact lb rfl; dsimp only [reduceAdd, reduceMul, reduceSub, na, ca, nbk, nones, mc, ml]
         apply t0; exact s_loadW rfl rfl rfl (agu_cuv _); dsimp only [reduceAdd, reduceMul, reduceSub, na, ca, nbk, mc, ml]
         apply tq; apply s_acts (f := 61) [] rfl inferInstance; exact hiz; apply evs.cons rfl; apply evs.cons rfl
         exact evs.nil; exact rfl; exact ABs.nil; dsimp only [List.cons_append, List.nil_append, List.append_nil]; exact RenL.clo; exact Ren.clo inferInstance
         exact HRen.nil; exact lb rfl; dsimp only [reduceAdd, reduceMul, reduceSub, na, ca, nbk, nones, mc, ml]
         apply t0; exact s_move rfl; apply t0; exact s_extract rfl rfl; apply t0; exact s_extract rfl rfl; apply t1; exact s_alloc; apply n1; exact s_storeW rfl rfl rfl rfl rfl rfl
         apply t0; exact s_assign rfl; dsimp only [reduceAdd, reduceMul]; exact dn; kernel_rfl; exact rfl; refine thn_n ?_; refine Gol.seq ?_
         apply Gol.sr; apply t0; exact s_move rfl; apply t0; exact s_not rfl; apply t0; exact s_move rfl; apply g0; exact wnt_g rfl rfl rfl rfl; exact s_fieldAddr rfl
         apply g0; exact wnt_g rfl rfl rfl rfl; exact s_load rfl rfl rfl; apply g0; exact wnt_g rfl rfl rfl rfl; exact s_ne rfl rfl; apply t0; exact s_pick_f rfl rfl rfl
         apply t0; exact s_move rfl; apply g0; exact wnt_g rfl rfl rfl (by focus (simp only [*]; rfl)); exact s_move rfl; apply g0; exact wnt_g rfl rfl rfl (by focus (simp only [*]; rfl))
         exact s_loadW rfl rfl rfl (agu_cuv _); apply gq; exact wnt_g rfl rfl rfl (by focus (simp only [*]; rfl)); exact s_call (f := 120) rfl (evs.cons rfl (evs.cons rfl evs.nil)) (ArgL.cons (arg_sl rfl) (ArgL.cons arg_clo ArgL.nil)) hcon (lb rfl)
         dsimp only [reduceAdd, reduceMul, reduceSub, na, ca, nbk, mc, ml]; apply t0; exact s_pick_f rfl (by assumption) rfl
         apply t0; exact s_move rfl; apply g0; exact wnt_g rfl rfl rfl rfl; exact s_loadW rfl rfl rfl (agu_cua _); apply g0; exact wnt_g rfl rfl rfl rfl; exact s_loadW rfl rfl rfl (agu_cuv _)
         apply g0; exact wnt_g rfl rfl rfl rfl; exact s_move rfl; dsimp only [reduceAdd, reduceMul, reduceSub, na, ca, nbk, mc, ml]
         apply Trc.step rfl rfl; apply wnt_g; exact rfl; exact rfl; exact rfl; rfl; apply s_acts (f := 121) [0, 1] rfl inferInstance
         exact hsig; apply evs.cons rfl; apply evs.cons rfl; apply evs.cons rfl; exact evs.nil; exact rfl; apply ABs.cons; exact rfl; exact rfl; exact rfl; apply RenL.cons
         exact Ren.clo inferInstance; apply RenL.cons; exact Ren.clo inferInstance; apply RenL.cons; exact Ren.clo inferInstance; apply RenL.cons; exact Ren.clo inferInstance
         apply RenL.cons; apply Ren.mp; exact CaR.old rfl; exact RenL.nil; apply ABs.cons; exact rfl; exact rfl; exact rfl; exact RenL.clo; exact ABs.nil; dsimp only [List.cons_append, List.nil_append, List.append_nil]
         apply RenL.cons; apply Ren.agL; apply RenL.cons; apply Ren.pt; exact CaR.old rfl; exact RenL.nil; apply RenL.cons; exact Ren.clo inferInstance; apply RenL.cons
         exact Ren.clo inferInstance; exact RenL.nil; exact Ren.clo inferInstance; apply HRen.kept; exact CaR.old rfl; apply RenL.cons; exact Ren.clo inferInstance
         apply RenL.cons; exact Ren.clo inferInstance; apply RenL.cons; exact Ren.clo inferInstance; apply RenL.cons; exact Ren.clo inferInstance; apply RenL.cons
         apply Ren.mp; exact CaR.old rfl; exact RenL.nil; apply HRen.kept; exact CaR.old rfl; exact RenL.clo; exact HRen.nil; exact lb rfl; dsimp only [reduceAdd, reduceMul, reduceSub, na, ca, nbk, nones, mc, ml]
         apply g0; exact wnt_g rfl rfl rfl rfl; exact s_not rfl; apply t0; exact s_pick_f rfl rfl rfl; apply t0; exact s_move rfl; apply sk; exact wnt_g rfl rfl rfl rfl
         apply sk; exact wnt_g rfl rfl rfl rfl; apply sk; exact wnt_g rfl rfl rfl rfl; apply sk; exact wnt_g rfl rfl rfl rfl; apply sk; exact wnt_u rfl rfl rfl
         apply sk; exact wnt_u rfl rfl rfl; apply sk; exact wnt_u rfl rfl rfl; apply sk; exact wnt_u rfl rfl rfl; apply sk; exact wnt_u rfl rfl rfl; apply sk; exact wnt_g rfl rfl rfl rfl
         apply t0; exact s_pick_t rfl rfl rfl; dsimp only [reduceAdd, reduceMul]; exact dn; exact rfl)
        refine Gol.cond_t rfl (by first | rfl | assumption) ?_
        (apply Gol.sr; apply t0; exact s_assign rfl; apply t0; exact s_assign rfl; dsimp only [reduceAdd, reduceMul]; exact dn; exact rfl; refine Gol.ret ?_
         refine thn_r ?_; refine inBlk_r ?_; refine thn_r ?_; refine rnd_r ?_; refine inBlk_r ?_
         refine thn_r ?_)
        dsimp only [rowV, rowH]
        (apply RetA.mk [0, 1] (by first | exact .inr rfl | exact .inl rfl); apply res_2 rfl; exact res_tmp rfl; exact res_tmp rfl; exact rfl; exact rfl; exact rfl
         apply OAs.gone; apply OAs.gone; exact OAs.nil; exact Ren.clo inferInstance)
      have hsig := hsig
      rw [h4] at hsig
      · rw [if_pos ⟨h1, h3, h4, .inl h0⟩] at hC
        (refine Gol.skip ?_; refine thn_n ?_; refine Gol.seq ?_; refine Gol.block ?_; refine Gol.seq ?_
         apply Gol.any; kernel_rfl; apply t0; exact s_fieldAddr rfl; apply t0; exact s_load rfl rfl rfl; dsimp only [reduceAdd, reduceMul, reduceSub, na, ca, nbk, mc, ml]
         apply tq; apply s_acts (f := 117) [0, 1] rfl inferInstance; exact graph_ok l vs f K; apply evs.cons rfl
         exact evs.nil; exact rfl; apply ABs.cons; exact rfl; exact rfl; exact rfl; apply RenL.cons; exact Ren.clo inferInstance; apply RenL.cons; exact Ren.clo inferInstance
         apply RenL.cons; exact Ren.clo inferInstance; apply RenL.cons; exact Ren.clo inferInstance; apply RenL.cons; apply Ren.mp; exact CaR.old rfl; exact RenL.nil
         apply ABs.cons; exact rfl; exact rfl; exact rfl; exact RenL.clo; exact ABs.nil; dsimp only [List.cons_append, List.nil_append, List.append_nil]; apply RenL.cons
         apply Ren.pt; exact CaR.old rfl; exact RenL.nil; exact Ren.clo inferInstance; apply HRen.kept; exact CaR.old rfl; apply RenL.cons; exact Ren.clo inferInstance
         apply RenL.cons; exact Ren.clo inferInstance; apply RenL.cons; exact Ren.clo inferInstance; apply RenL.cons; exact Ren.clo inferInstance; apply RenL.cons
         apply Ren.mp; exact CaR.old rfl; exact RenL.nil; apply HRen.kept; exact CaR.old rfl; exact RenL.clo; exact HRen.nil; exact lb rfl; dsimp only [reduceAdd, reduceMul, reduceSub, na, ca, nbk, nones, mc, ml]
         apply t0; exact s_loadW rfl rfl rfl (agu_cuv _); dsimp only [reduceAdd, reduceMul, reduceSub, na, ca, nbk, mc, ml]
         apply tq; apply s_acts (f := 61) [] rfl inferInstance; exact hiz; apply evs.cons rfl; apply evs.cons rfl
         exact evs.nil; exact rfl; exact ABs.nil; dsimp only [List.cons_append, List.nil_append, List.append_nil]; exact RenL.clo; exact Ren.clo inferInstance
         exact HRen.nil; exact lb rfl; dsimp only [reduceAdd, reduceMul, reduceSub, na, ca, nbk, nones, mc, ml]
         apply t0; exact s_move rfl; apply t0; exact s_extract rfl rfl; apply t0; exact s_extract rfl rfl; apply t1; exact s_alloc; apply n1; exact s_storeW rfl rfl rfl rfl rfl rfl
         apply t0; exact s_assign rfl; dsimp only [reduceAdd, reduceMul]; exact dn; kernel_rfl; exact rfl; refine thn_n ?_; refine Gol.seq ?_
         apply Gol.sr; apply t0; exact s_move rfl; apply t0; exact s_not rfl; apply t0; exact s_move rfl; apply g0; exact wnt_g rfl rfl rfl rfl; exact s_fieldAddr rfl
         apply g0; exact wnt_g rfl rfl rfl rfl; exact s_load rfl rfl rfl; apply g0; exact wnt_g rfl rfl rfl rfl; exact s_ne rfl rfl; apply t0; exact s_pick_f rfl rfl rfl
         apply t0; exact s_move rfl; apply g0; exact wnt_g rfl rfl rfl (by focus (simp only [*]; rfl)); exact s_move rfl; apply g0; exact wnt_g rfl rfl rfl (by focus (simp only [*]; rfl))
         exact s_loadW rfl rfl rfl (agu_cuv _); apply gq; exact wnt_g rfl rfl rfl (by focus (simp only [*]; rfl)); exact s_call (f := 120) rfl (evs.cons rfl (evs.cons rfl evs.nil)) (ArgL.cons (arg_sl rfl) (ArgL.cons arg_clo ArgL.nil)) hcon (lb rfl)
         dsimp only [reduceAdd, reduceMul, reduceSub, na, ca, nbk, mc, ml]; apply t0; exact s_pick_f rfl (by assumption) rfl
         apply t0; exact s_move rfl; apply g0; exact wnt_g rfl rfl rfl rfl; exact s_loadW rfl rfl rfl (agu_cua _); apply g0; exact wnt_g rfl rfl rfl rfl; exact s_loadW rfl rfl rfl (agu_cuv _)
         apply g0; exact wnt_g rfl rfl rfl rfl; exact s_move rfl; dsimp only [reduceAdd, reduceMul, reduceSub, na, ca, nbk, mc, ml]
         apply Trc.step rfl rfl; apply wnt_g; exact rfl; exact rfl; exact rfl; rfl; apply s_acts (f := 121) [0, 1] rfl inferInstance
         exact hsig; apply evs.cons rfl; apply evs.cons rfl; apply evs.cons rfl; exact evs.nil; exact rfl; apply ABs.cons; exact rfl; exact rfl; exact rfl; apply RenL.cons
         exact Ren.clo inferInstance; apply RenL.cons; exact Ren.clo inferInstance; apply RenL.cons; exact Ren.clo inferInstance; apply RenL.cons; exact Ren.clo inferInstance
         apply RenL.cons; apply Ren.mp; exact CaR.old rfl; exact RenL.nil; apply ABs.cons; exact rfl; exact rfl; exact rfl; exact RenL.clo; exact ABs.nil; dsimp only [List.cons_append, List.nil_append, List.append_nil]
         apply RenL.cons; apply Ren.agL; apply RenL.cons; apply Ren.pt; exact CaR.old rfl; exact RenL.nil; apply RenL.cons; exact Ren.clo inferInstance; apply RenL.cons
         exact Ren.clo inferInstance; exact RenL.nil; exact Ren.clo inferInstance; apply HRen.kept; exact CaR.old rfl; apply RenL.cons; exact Ren.clo inferInstance
         apply RenL.cons; exact Ren.clo inferInstance; apply RenL.cons; exact Ren.clo inferInstance; apply RenL.cons; exact Ren.clo inferInstance; apply RenL.cons
         apply Ren.mp; exact CaR.old rfl; exact RenL.nil; apply HRen.kept; exact CaR.old rfl; exact RenL.clo; exact HRen.nil; exact lb rfl; dsimp only [reduceAdd, reduceMul, reduceSub, na, ca, nbk, nones, mc, ml]
         apply g0; exact wnt_g rfl rfl rfl rfl; exact s_not rfl; apply t0; exact s_pick_f rfl rfl rfl; apply t0; exact s_move rfl; apply g0; exact wnt_g rfl rfl rfl rfl
         exact s_loadW rfl rfl rfl (agu_cuv _); apply g0; exact wnt_g rfl rfl rfl rfl; exact s_loadW rfl rfl rfl (agu_cuv _); apply g0; exact wnt_g rfl rfl rfl rfl
         exact s_neN rfl rfl; apply g0; exact wnt_g rfl rfl rfl rfl; exact s_move rfl; apply sk; exact wnt_g rfl rfl rfl (by focus (simp [*]; done)); apply sk
         exact wnt_g rfl rfl rfl (by focus (simp [*]; done)); apply sk; exact wnt_g rfl rfl rfl (by focus (simp [*]; done)); apply sk; exact wnt_g rfl rfl rfl (by focus (simp [*]; done))
         apply sk; exact wnt_g rfl rfl rfl (by focus (simp [*]; done)); apply g0; exact wnt_g rfl rfl rfl rfl; exact s_pick_f rfl (by focus (simp [*]; done)) rfl
         apply t0; exact s_pick_f rfl rfl rfl; dsimp only [reduceAdd, reduceMul]; exact dn; exact rfl)
        refine Gol.cond_f rfl (by simp [*]) ?_
        (refine Gol.skip ?_; refine thn_n ?_; apply Gol.sr; apply t0; exact s_move rfl; apply t0; exact s_loadW rfl rfl rfl (agu_cuv _)
         apply t1; exact s_lit (PA.cons rfl rfl rfl PA.nil) rfl (by first | omega | exact lb rfl | decide | (simp <;> omega) | (dsimp <;> omega)); apply tq; exact s_app rfl rfl rfl (rd_sl rfl rfl) (by simp only [byA_length, List.length_append, List.length_cons, List.length_nil, List.length_take, List.length_drop, List.length_replicate, List.length_map, Nat.mul_one, nameB_length, flat_length, List.length_set, inA_length, dsA_length, lsA_length, dA_length, lA_length, itsA_length, vtsA_length, rcsA_length] <;> omega) rfl rfl rfl (by omega)
         dsimp only [reduceAdd, reduceMul, reduceSub, na, ca, nbk, mc, ml]; apply t0; exact s_assign rfl
         dsimp only [reduceAdd, reduceMul]; exact dn; exact rfl; apply Gol.region; apply t0; exact s_fieldAddr rfl; apply t0; exact s_loadN rfl rfl (lb rfl) (agu_nm8 rfl)
         apply n1; exact s_storeW rfl rfl rfl rfl rfl rfl; dsimp only [reduceAdd, reduceMul]; exact dn; exact rfl; refine inBlk_n ?_; refine thn_n ?_
         apply Gol.sr; apply t0; exact s_loadW rfl rfl rfl (agu_cuv _); dsimp only [reduceAdd, reduceMul]; exact dn; exact rfl; apply Gol.region
         apply t1; exact s_alloc; apply n1; exact s_storeW rfl rfl rfl rfl rfl rfl; dsimp only [reduceAdd, reduceMul]; exact dn; exact rfl)
        have hzl : z ∈ l := by obtain ⟨j, _, hj, _⟩ := fnd_some ho; exact List.mem_of_getElem? hj
        have hzn : z.n = n := by obtain ⟨j, _, hj, hm⟩ := fnd_some ho; exact hm
        have hnin : n ∉ out := fun hm => by
          have := List.any_eq_false.1 h3 n hm
          simp at this
        have hnd2 : (out ++ [n]).Nodup := by
          rw [List.nodup_append]
          refine ⟨hnd, by simp, fun a ha b hb e => ?_⟩
          simp only [List.mem_singleton] at hb
          exact hnin (by rw [← hb, ← e]; exact ha)
        have hsub2 : ∀ a ∈ out ++ [n], a ∈ l.map (·.n) := fun a ha => by
          rcases List.mem_append.1 ha with ha | ha
          · exact hsub a ha
          · simp only [List.mem_singleton] at ha
            rw [ha]; exact List.mem_map.2 ⟨z, hzl, hzn⟩
        have hol2 : (out ++ [n]).length ≤ l.length := by have := nd_len2 (out ++ [n]) (l.map (·.n)) hnd2 hsub2; rwa [List.length_map] at this
        have hlo : (out ++ [n]).length = out.length + 1 := by simp
        refine rnd_n (out ++ [n], z.p, K2) ⟨hK2, hnd2, hsub2, ?_, fun h => by simp at h, fun _ => hein⟩ (by dsimp only; omega) ?_
        · dsimp only
          rw [hlo, show l.length + 1 - (out.length + 1) = l.length - out.length by omega]
          exact hC
        · dsimp only
          rw [hlo]
          (apply Le.mk3' [(97, 872), (98, 824)]; apply RnT3.c; exact rfl; apply Rn3.r; exact Rn.v rfl; apply RnT3.c; exact rfl; apply Rn3.r; exact Rn.pt rfl rfl
           apply RnT3.c; exact rfl; apply Rn3.r; exact Rn.pt rfl rfl; apply RnT3.c; exact rfl; apply Rn3.r; exact Rn.pt rfl rfl; apply RnT3.c; exact rfl; apply Rn3.r
           exact Rn.pt rfl rfl; apply RnT3.c; exact rfl; apply Rn3.r; exact Rn.pt rfl rfl; apply RnT3.c; exact rfl; apply Rn3.r; exact Rn.sl rfl rfl; apply RnT3.c
           exact rfl; apply Rn3.r; exact Rn.v rfl; apply RnT3.c; exact rfl; apply Rn3.r; exact Rn.v rfl; exact RnT3.n; apply RnH3.c; exact rfl; exact rfl; apply RnC.l
           apply Rn3L.cons; apply Rn3.r; exact Rn.clo inferInstance rfl; apply Rn3L.cons; apply Rn3.r; exact Rn.clo inferInstance rfl; apply Rn3L.cons; apply Rn3.r
           exact Rn.clo inferInstance rfl; apply Rn3L.cons; apply Rn3.r; exact Rn.clo inferInstance rfl; apply Rn3L.cons; apply Rn3.r; exact Rn.mp rfl; exact Rn3L.nil
           exact rfl; exact rfl; apply RnH3.c; exact rfl; exact rfl; apply RnC.cl; rfl; exact inferInstance; exact rfl; exact rfl; apply RnH3.c; exact rfl; exact rfl
           apply RnC.l; apply Rn3L.cons; apply Rn3.r; exact Rn.pt rfl rfl; exact Rn3L.nil; exact rfl; exact rfl; apply RnH3.c; exact rfl; exact rfl; apply RnC.cl
           rfl; exact inferInstance; exact rfl; exact rfl; apply RnH3.c; exact rfl; exact rfl; apply RnC.cl; rfl; exact inferInstance; exact rfl; exact rfl; apply RnH3.c
           exact rfl; exact rfl; apply RnC.cl; rfl; exact inferInstance; exact rfl; exact rfl; apply RnH3.c; exact rfl; exact rfl; apply RnC.cl; rfl; exact inferInstance
           exact rfl; exact rfl; apply RnH3.c; exact rfl; exact rfl; apply RnC.cl; exact nm_next2 out n; exact inferInstance; exact rfl; exact rfl; exact RnH3.n
           exact rfl; exact rfl)
  · have d0 : decide (out.length = 0) = false := decide_eq_false (fun h => h0 (List.eq_nil_of_length_eq_zero h))
    have hein : e ∈ out ++ [n] := List.mem_append.2 (.inl (he2 h0))
    have hnx : (n == x) = false := by
      rw [beq_eq_false_iff_ne]
      exact fun h => hx ⟨h0, h⟩
    (refine Gol.seq ?_; apply Gol.sr; apply t0; exact s_move rfl; apply t0; exact s_len rfl ln_sl; apply t0; exact s_eqn rfl rfl; apply t0
     exact s_move rfl; apply g0; exact wnt_g rfl rfl rfl (by focus (simp only [*]; rfl)); exact s_loadW rfl rfl rfl (agu_cuv _); apply g0; exact wnt_g rfl rfl rfl (by focus (simp only [*]; rfl))
     exact s_loadW rfl rfl rfl (agu_cuv _); apply g0; exact wnt_g rfl rfl rfl (by focus (simp only [*]; rfl)); exact s_neN rfl rfl; apply t0; exact s_pick_f rfl (by assumption) rfl
     dsimp only [reduceAdd, reduceMul]; exact dn; exact rfl)
    refine Gol.cond_t rfl (by rw [hnx]; rfl) ?_
    cases ho : itOf l n with
    | none =>
      rw [ho] at hC
      dsimp only at hC
      subst hC
      (refine Gol.skip ?_; refine thn_n ?_; refine Gol.seq ?_; refine Gol.block ?_; refine Gol.seq ?_
       apply Gol.any; kernel_rfl; apply t0; exact s_fieldAddr rfl; apply t0; exact s_load rfl rfl rfl; dsimp only [reduceAdd, reduceMul, reduceSub, na, ca, nbk, mc, ml]
       apply tq; apply s_acts (f := 117) [0, 1] rfl inferInstance; exact graph_ok l vs f K; apply evs.cons rfl
       exact evs.nil; exact rfl; apply ABs.cons; exact rfl; exact rfl; exact rfl; apply RenL.cons; exact Ren.clo inferInstance; apply RenL.cons; exact Ren.clo inferInstance
       apply RenL.cons; exact Ren.clo inferInstance; apply RenL.cons; exact Ren.clo inferInstance; apply RenL.cons; apply Ren.mp; exact CaR.old rfl; exact RenL.nil
       apply ABs.cons; exact rfl; exact rfl; exact rfl; exact RenL.clo; exact ABs.nil; dsimp only [List.cons_append, List.nil_append, List.append_nil]; apply RenL.cons
       apply Ren.pt; exact CaR.old rfl; exact RenL.nil; exact Ren.clo inferInstance; apply HRen.kept; exact CaR.old rfl; apply RenL.cons; exact Ren.clo inferInstance
       apply RenL.cons; exact Ren.clo inferInstance; apply RenL.cons; exact Ren.clo inferInstance; apply RenL.cons; exact Ren.clo inferInstance; apply RenL.cons
       apply Ren.mp; exact CaR.old rfl; exact RenL.nil; apply HRen.kept; exact CaR.old rfl; exact RenL.clo; exact HRen.nil; exact lb rfl; dsimp only [reduceAdd, reduceMul, reduceSub, na, ca, nbk, nones, mc, ml]
       apply t0; exact s_loadW rfl rfl rfl (agu_cuv _); dsimp only [reduceAdd, reduceMul, reduceSub, na, ca, nbk, mc, ml]
       apply tq; apply s_acts (f := 61) [] rfl inferInstance; exact item_no l f n hl ho; apply evs.cons rfl
       apply evs.cons rfl; exact evs.nil; exact rfl; exact ABs.nil; dsimp only [List.cons_append, List.nil_append, List.append_nil]; exact RenL.clo; exact Ren.clo inferInstance
       exact HRen.nil; exact lb rfl; dsimp only [reduceAdd, reduceMul, reduceSub, na, ca, nbk, nones, mc, ml]
       apply t0; exact s_move rfl; apply t0; exact s_extract rfl rfl; apply t0; exact s_extract rfl rfl; apply t1; exact s_alloc; apply n1; exact s_storeW rfl rfl rfl rfl rfl rfl
       apply t0; exact s_assign rfl; dsimp only [reduceAdd, reduceMul]; exact dn; kernel_rfl; exact rfl; refine thn_n ?_; refine Gol.seq ?_
       apply Gol.sr; apply t0; exact s_move rfl; apply t0; exact s_not rfl; apply t0; exact s_move rfl; apply sk; exact wnt_g rfl rfl rfl rfl; apply sk; exact wnt_g rfl rfl rfl rfl
       apply sk; exact wnt_g rfl rfl rfl rfl; apply t0; exact s_pick_t rfl rfl rfl; apply t0; exact s_move rfl; apply sk; exact wnt_g rfl rfl rfl rfl; apply sk
       exact wnt_g rfl rfl rfl rfl; apply sk; exact wnt_g rfl rfl rfl rfl; apply t0; exact s_pick_t rfl rfl rfl; apply t0; exact s_move rfl; apply sk; exact wnt_g rfl rfl rfl rfl
       apply sk; exact wnt_g rfl rfl rfl rfl; apply sk; exact wnt_g rfl rfl rfl rfl; apply sk; exact wnt_g rfl rfl rfl rfl; apply sk; exact wnt_g rfl rfl rfl rfl
       apply t0; exact s_pick_t rfl rfl rfl; apply t0; exact s_move rfl; apply sk; exact wnt_g rfl rfl rfl rfl; apply sk; exact wnt_g rfl rfl rfl rfl; apply sk
       exact wnt_g rfl rfl rfl rfl; apply sk; exact wnt_g rfl rfl rfl rfl; apply sk; exact wnt_u rfl rfl rfl; apply sk; exact wnt_u rfl rfl rfl; apply sk; exact wnt_u rfl rfl rfl
       apply sk; exact wnt_u rfl rfl rfl; apply sk; exact wnt_u rfl rfl rfl; apply sk; exact wnt_g rfl rfl rfl rfl; apply t0; exact s_pick_t rfl rfl rfl; dsimp only [reduceAdd, reduceMul]
       exact dn; exact rfl)
      refine Gol.cond_t rfl (by first | rfl | assumption) ?_
      (apply Gol.sr; apply t0; exact s_assign rfl; apply t0; exact s_assign rfl; dsimp only [reduceAdd, reduceMul]; exact dn; exact rfl; refine Gol.ret ?_
       refine thn_r ?_; refine inBlk_r ?_; refine thn_r ?_; refine rnd_r ?_; refine inBlk_r ?_
       refine thn_r ?_)
      dsimp only [rowV, rowH]
      (apply RetA.mk [0, 1] (by first | exact .inr rfl | exact .inl rfl); apply res_2 rfl; exact res_tmp rfl; exact res_tmp rfl; exact rfl; exact rfl; exact rfl
       apply OAs.gone; apply OAs.gone; exact OAs.nil; exact Ren.clo inferInstance)
    | some z =>
      have hiz := item_yes l f n z hl ho
      rw [ho] at hC
      dsimp only at hC
      have hsig := signed_ok S hS l vs f K n hl hsm hK s
      have hK2 := knOk_next S hK n
      generalize knF S l vs K n = K2 at hsig hK2
      by_cases h1 : z.k = 3
      rotate_left
      · have d1 : (!decide (z.k = 3)) = true := by simp [h1]
        rw [if_neg (fun h => h1 h.1)] at hC
        subst hC
        (refine Gol.skip ?_; refine thn_n ?_; refine Gol.seq ?_; refine Gol.block ?_; refine Gol.seq ?_
         apply Gol.any; kernel_rfl; apply t0; exact s_fieldAddr rfl; apply t0; exact s_load rfl rfl rfl; dsimp only [reduceAdd, reduceMul, reduceSub, na, ca, nbk, mc, ml]
         apply tq; apply s_acts (f := 117) [0, 1] rfl inferInstance; exact graph_ok l vs f K; apply evs.cons rfl
         exact evs.nil; exact rfl; apply ABs.cons; exact rfl; exact rfl; exact rfl; apply RenL.cons; exact Ren.clo inferInstance; apply RenL.cons; exact Ren.clo inferInstance
         apply RenL.cons; exact Ren.clo inferInstance; apply RenL.cons; exact Ren.clo inferInstance; apply RenL.cons; apply Ren.mp; exact CaR.old rfl; exact RenL.nil
         apply ABs.cons; exact rfl; exact rfl; exact rfl; exact RenL.clo; exact ABs.nil; dsimp only [List.cons_append, List.nil_append, List.append_nil]; apply RenL.cons
         apply Ren.pt; exact CaR.old rfl; exact RenL.nil; exact Ren.clo inferInstance; apply HRen.kept; exact CaR.old rfl; apply RenL.cons; exact Ren.clo inferInstance
         apply RenL.cons; exact Ren.clo inferInstance; apply RenL.cons; exact Ren.clo inferInstance; apply RenL.cons; exact Ren.clo inferInstance; apply RenL.cons
         apply Ren.mp; exact CaR.old rfl; exact RenL.nil; apply HRen.kept; exact CaR.old rfl; exact RenL.clo; exact HRen.nil; exact lb rfl; dsimp only [reduceAdd, reduceMul, reduceSub, na, ca, nbk, nones, mc, ml]
         apply t0; exact s_loadW rfl rfl rfl (agu_cuv _); dsimp only [reduceAdd, reduceMul, reduceSub, na, ca, nbk, mc, ml]
         apply tq; apply s_acts (f := 61) [] rfl inferInstance; exact hiz; apply evs.cons rfl; apply evs.cons rfl
         exact evs.nil; exact rfl; exact ABs.nil; dsimp only [List.cons_append, List.nil_append, List.append_nil]; exact RenL.clo; exact Ren.clo inferInstance
         exact HRen.nil; exact lb rfl; dsimp only [reduceAdd, reduceMul, reduceSub, na, ca, nbk, nones, mc, ml]
         apply t0; exact s_move rfl; apply t0; exact s_extract rfl rfl; apply t0; exact s_extract rfl rfl; apply t1; exact s_alloc; apply n1; exact s_storeW rfl rfl rfl rfl rfl rfl
         apply t0; exact s_assign rfl; dsimp only [reduceAdd, reduceMul]; exact dn; kernel_rfl; exact rfl; refine thn_n ?_; refine Gol.seq ?_
         apply Gol.sr; apply t0; exact s_move rfl; apply t0; exact s_not rfl; apply t0; exact s_move rfl; apply g0; exact wnt_g rfl rfl rfl rfl; exact s_fieldAddr rfl
         apply g0; exact wnt_g rfl rfl rfl rfl; exact s_load rfl rfl rfl; apply g0; exact wnt_g rfl rfl rfl rfl; exact s_ne rfl rfl; apply t0; exact s_pick_f rfl rfl rfl
         apply t0; exact s_move rfl; apply sk; exact wnt_g rfl rfl rfl (by focus (simp only [*]; rfl)); apply sk; exact wnt_g rfl rfl rfl (by focus (simp only [*]; rfl))
         apply sk; exact wnt_g rfl rfl rfl (by focus (simp only [*]; rfl)); apply t0; exact s_pick_t rfl (by assumption) rfl; apply t0; exact s_move rfl; apply sk
         exact wnt_g rfl rfl rfl rfl; apply sk; exact wnt_g rfl rfl rfl rfl; apply sk; exact wnt_g rfl rfl rfl rfl; apply sk; exact wnt_g rfl rfl rfl rfl; apply sk
         exact wnt_g rfl rfl rfl rfl; apply t0; exact s_pick_t rfl rfl rfl; apply t0; exact s_move rfl; apply sk; exact wnt_g rfl rfl rfl rfl; apply sk; exact wnt_g rfl rfl rfl rfl
         apply sk; exact wnt_g rfl rfl rfl rfl; apply sk; exact wnt_g rfl rfl rfl rfl; apply sk; exact wnt_u rfl rfl rfl; apply sk; exact wnt_u rfl rfl rfl; apply sk
         exact wnt_u rfl rfl rfl; apply sk; exact wnt_u rfl rfl rfl; apply sk; exact wnt_u rfl rfl rfl; apply sk; exact wnt_g rfl rfl rfl rfl; apply t0; exact s_pick_t rfl rfl rfl
         dsimp only [reduceAdd, reduceMul]; exact dn; exact rfl)
        refine Gol.cond_t rfl (by first | rfl | assumption) ?_
        (apply Gol.sr; apply t0; exact s_assign rfl; apply t0; exact s_assign rfl; dsimp only [reduceAdd, reduceMul]; exact dn; exact rfl; refine Gol.ret ?_
         refine thn_r ?_; refine inBlk_r ?_; refine thn_r ?_; refine rnd_r ?_; refine inBlk_r ?_
         refine thn_r ?_)
        dsimp only [rowV, rowH]
        (apply RetA.mk [0, 1] (by first | exact .inr rfl | exact .inl rfl); apply res_2 rfl; exact res_tmp rfl; exact res_tmp rfl; exact rfl; exact rfl; exact rfl
         apply OAs.gone; apply OAs.gone; exact OAs.nil; exact Ren.clo inferInstance)
      have d1 : (!decide (z.k = 3)) = false := by simp [h1]
      by_cases h3 : (out.any fun a => n == a) = true
      · rw [if_neg (fun h => by rw [h3] at h; simp at h)] at hC
        subst hC
        rw [h3] at hcon
        (refine Gol.skip ?_; refine thn_n ?_; refine Gol.seq ?_; refine Gol.block ?_; refine Gol.seq ?_
         apply Gol.any; kernel_rfl; apply t0; exact s_fieldAddr rfl; apply t0; exact s_load rfl rfl rfl; dsimp only [reduceAdd, reduceMul, reduceSub, na, ca, nbk, mc, ml]
         apply tq; apply s_acts (f := 117) [0, 1] rfl inferInstance; exact graph_ok l vs f K; apply evs.cons rfl
         exact evs.nil; exact rfl; apply ABs.cons; exact rfl; exact rfl; exact rfl; apply RenL.cons; exact Ren.clo inferInstance; apply RenL.cons; exact Ren.clo inferInstance
         apply RenL.cons; exact Ren.clo inferInstance; apply RenL.cons; exact Ren.clo inferInstance; apply RenL.cons; apply Ren.mp; exact CaR.old rfl; exact RenL.nil
         apply ABs.cons; exact rfl; exact rfl; exact rfl; exact RenL.clo; exact ABs.nil; dsimp only [List.cons_append, List.nil_append, List.append_nil]; apply RenL.cons
         apply Ren.pt; exact CaR.old rfl; exact RenL.nil; exact Ren.clo inferInstance; apply HRen.kept; exact CaR.old rfl; apply RenL.cons; exact Ren.clo inferInstance
         apply RenL.cons; exact Ren.clo inferInstance; apply RenL.cons; exact Ren.clo inferInstance; apply RenL.cons; exact Ren.clo inferInstance; apply RenL.cons
         apply Ren.mp; exact CaR.old rfl; exact RenL.nil; apply HRen.kept; exact CaR.old rfl; exact RenL.clo; exact HRen.nil; exact lb rfl; dsimp only [reduceAdd, reduceMul, reduceSub, na, ca, nbk, nones, mc, ml]
         apply t0; exact s_loadW rfl rfl rfl (agu_cuv _); dsimp only [reduceAdd, reduceMul, reduceSub, na, ca, nbk, mc, ml]
         apply tq; apply s_acts (f := 61) [] rfl inferInstance; exact hiz; apply evs.cons rfl; apply evs.cons rfl
         exact evs.nil; exact rfl; exact ABs.nil; dsimp only [List.cons_append, List.nil_append, List.append_nil]; exact RenL.clo; exact Ren.clo inferInstance
         exact HRen.nil; exact lb rfl; dsimp only [reduceAdd, reduceMul, reduceSub, na, ca, nbk, nones, mc, ml]
         apply t0; exact s_move rfl; apply t0; exact s_extract rfl rfl; apply t0; exact s_extract rfl rfl; apply t1; exact s_alloc; apply n1; exact s_storeW rfl rfl rfl rfl rfl rfl
         apply t0; exact s_assign rfl; dsimp only [reduceAdd, reduceMul]; exact dn; kernel_rfl; exact rfl; refine thn_n ?_; refine Gol.seq ?_
         apply Gol.sr; apply t0; exact s_move rfl; apply t0; exact s_not rfl; apply t0; exact s_move rfl; apply g0; exact wnt_g rfl rfl rfl rfl; exact s_fieldAddr rfl
         apply g0; exact wnt_g rfl rfl rfl rfl; exact s_load rfl rfl rfl; apply g0; exact wnt_g rfl rfl rfl rfl; exact s_ne rfl rfl; apply t0; exact s_pick_f rfl rfl rfl
         apply t0; exact s_move rfl; apply g0; exact wnt_g rfl rfl rfl (by focus (simp only [*]; rfl)); exact s_move rfl; apply g0; exact wnt_g rfl rfl rfl (by focus (simp only [*]; rfl))
         exact s_loadW rfl rfl rfl (agu_cuv _); apply gq; exact wnt_g rfl rfl rfl (by focus (simp only [*]; rfl)); exact s_call (f := 120) rfl (evs.cons rfl (evs.cons rfl evs.nil)) (ArgL.cons (arg_sl rfl) (ArgL.cons arg_clo ArgL.nil)) hcon (lb rfl)
         dsimp only [reduceAdd, reduceMul, reduceSub, na, ca, nbk, mc, ml]; apply t0; exact s_pick_f rfl (by assumption) rfl
         apply t0; exact s_move rfl; apply sk; exact wnt_g rfl rfl rfl rfl; apply sk; exact wnt_g rfl rfl rfl rfl; apply sk; exact wnt_g rfl rfl rfl rfl; apply sk
         exact wnt_g rfl rfl rfl rfl; apply sk; exact wnt_g rfl rfl rfl rfl; apply t0; exact s_pick_t rfl rfl rfl; apply t0; exact s_move rfl; apply sk; exact wnt_g rfl rfl rfl rfl
         apply sk; exact wnt_g rfl rfl rfl rfl; apply sk; exact wnt_g rfl rfl rfl rfl; apply sk; exact wnt_g rfl rfl rfl rfl; apply sk; exact wnt_u rfl rfl rfl
         apply sk; exact wnt_u rfl rfl rfl; apply sk; exact wnt_u rfl rfl rfl; apply sk; exact wnt_u rfl rfl rfl; apply sk; exact wnt_u rfl rfl rfl; apply sk; exact wnt_g rfl rfl rfl rfl
         apply t0; exact s_pick_t rfl rfl rfl; dsimp only [reduceAdd, reduceMul]; exact dn; exact rfl)
        refine Gol.cond_t rfl (by first | rfl | assumption) ?_
        (apply Gol.sr; apply t0; exact s_assign rfl; apply t0; exact s_assign rfl; dsimp only [reduceAdd, reduceMul]; exact dn; exact rfl; refine Gol.ret ?_
         refine thn_r ?_; refine inBlk_r ?_; refine thn_r ?_; refine rnd_r ?_; refine inBlk_r ?_
         refine thn_r ?_)
        dsimp only [rowV, rowH]
        (apply RetA.mk [0, 1] (by first | exact .inr rfl | exact .inl rfl); apply res_2 rfl; exact res_tmp rfl; exact res_tmp rfl; exact rfl; exact rfl; exact rfl
         apply OAs.gone; apply OAs.gone; exact OAs.nil; exact Ren.clo inferInstance)
      have h3 : (out.any fun a => n == a) = false := (Bool.not_eq_true _).mp h3
      rw [h3] at hcon
      by_cases h4 : hasB (stqN S l vs n).s s = true
      rotate_left
      · rw [if_neg (fun h => h4 h.2.2.1)] at hC
        subst hC
        have h4 : hasB (stqN S l vs n).s s = false := (Bool.not_eq_true _).mp h4
        rw [h4] at hsig
        (refine Gol.skip ?_; refine thn_n ?_; refine Gol.seq ?_; refine Gol.block ?_; refine Gol.seq ?_
         apply Gol.any; kernel_rfl; apply t0; exact s_fieldAddr rfl; apply t0; exact s_load rfl rfl rfl; dsimp only [reduceAdd, reduceMul, reduceSub, na, ca, nbk, mc, ml]
         apply tq; apply s_acts (f := 117) [0, 1] rfl inferInstance; exact graph_ok l vs f K; apply evs.cons rfl
         exact evs.nil; exact rfl; apply ABs.cons; exact rfl; exact rfl; exact rfl; apply RenL.cons; exact Ren.clo inferInstance; apply RenL.cons; exact Ren.clo inferInstance
         apply RenL.cons; exact Ren.clo inferInstance; apply RenL.cons; exact Ren.clo inferInstance; apply RenL.cons; apply Ren.mp; exact CaR.old rfl; exact RenL.nil
         apply ABs.cons; exact rfl; exact rfl; exact rfl; exact RenL.clo; exact ABs.nil; dsimp only [List.cons_append, List.nil_append, List.append_nil]; apply RenL.cons
         apply Ren.pt; exact CaR.old rfl; exact RenL.nil; exact Ren.clo inferInstance; apply HRen.kept; exact CaR.old rfl; apply RenL.cons; exact Ren.clo inferInstance
         apply RenL.cons; exact Ren.clo inferInstance; apply RenL.cons; exact Ren.clo inferInstance; apply RenL.cons; exact Ren.clo inferInstance; apply RenL.cons
         apply Ren.mp; exact CaR.old rfl; exact RenL.nil; apply HRen.kept; exact CaR.old rfl; exact RenL.clo; exact HRen.nil; exact lb rfl; dsimp only [reduceAdd, reduceMul, reduceSub, na, ca, nbk, nones, mc, ml]
         apply t0; exact s_loadW rfl rfl rfl (agu_cuv _); dsimp only [reduceAdd, reduceMul, reduceSub, na, ca, nbk, mc, ml]
         apply tq; apply s_acts (f := 61) [] rfl inferInstance; exact hiz; apply evs.cons rfl; apply evs.cons rfl
         exact evs.nil; exact rfl; exact ABs.nil; dsimp only [List.cons_append, List.nil_append, List.append_nil]; exact RenL.clo; exact Ren.clo inferInstance
         exact HRen.nil; exact lb rfl; dsimp only [reduceAdd, reduceMul, reduceSub, na, ca, nbk, nones, mc, ml]
         apply t0; exact s_move rfl; apply t0; exact s_extract rfl rfl; apply t0; exact s_extract rfl rfl; apply t1; exact s_alloc; apply n1; exact s_storeW rfl rfl rfl rfl rfl rfl
         apply t0; exact s_assign rfl; dsimp only [reduceAdd, reduceMul]; exact dn; kernel_rfl; exact rfl; refine thn_n ?_; refine Gol.seq ?_
         apply Gol.sr; apply t0; exact s_move rfl; apply t0; exact s_not rfl; apply t0; exact s_move rfl; apply g0; exact wnt_g rfl rfl rfl rfl; exact s_fieldAddr rfl
         apply g0; exact wnt_g rfl rfl rfl rfl; exact s_load rfl rfl rfl; apply g0; exact wnt_g rfl rfl rfl rfl; exact s_ne rfl rfl; apply t0; exact s_pick_f rfl rfl rfl
         apply t0; exact s_move rfl; apply g0; exact wnt_g rfl rfl rfl (by focus (simp only [*]; rfl)); exact s_move rfl; apply g0; exact wnt_g rfl rfl rfl (by focus (simp only [*]; rfl))
         exact s_loadW rfl rfl rfl (agu_cuv _); apply gq; exact wnt_g rfl rfl rfl (by focus (simp only [*]; rfl)); exact s_call (f := 120) rfl (evs.cons rfl (evs.cons rfl evs.nil)) (ArgL.cons (arg_sl rfl) (ArgL.cons arg_clo ArgL.nil)) hcon (lb rfl)
         dsimp only [reduceAdd, reduceMul, reduceSub, na, ca, nbk, mc, ml]; apply t0; exact s_pick_f rfl (by assumption) rfl
         apply t0; exact s_move rfl; apply g0; exact wnt_g rfl rfl rfl rfl; exact s_loadW rfl rfl rfl (agu_cua _); apply g0; exact wnt_g rfl rfl rfl rfl; exact s_loadW rfl rfl rfl (agu_cuv _)
         apply g0; exact wnt_g rfl rfl rfl rfl; exact s_move rfl; dsimp only [reduceAdd, reduceMul, reduceSub, na, ca, nbk, mc, ml]
         apply Trc.step rfl rfl; apply wnt_g; exact rfl; exact rfl; exact rfl; rfl; apply s_acts (f := 121) [0, 1] rfl inferInstance
         exact hsig; apply evs.cons rfl; apply evs.cons rfl; apply evs.cons rfl; exact evs.nil; exact rfl; apply ABs.cons; exact rfl; exact rfl; exact rfl; apply RenL.cons
         exact Ren.clo inferInstance; apply RenL.cons; exact Ren.clo inferInstance; apply RenL.cons; exact Ren.clo inferInstance; apply RenL.cons; exact Ren.clo inferInstance
         apply RenL.cons; apply Ren.mp; exact CaR.old rfl; exact RenL.nil; apply ABs.cons; exact rfl; exact rfl; exact rfl; exact RenL.clo; exact ABs.nil; dsimp only [List.cons_append, List.nil_append, List.append_nil]
         apply RenL.cons; apply Ren.agL; apply RenL.cons; apply Ren.pt; exact CaR.old rfl; exact RenL.nil; apply RenL.cons; exact Ren.clo inferInstance; apply RenL.cons
         exact Ren.clo inferInstance; exact RenL.nil; exact Ren.clo inferInstance; apply HRen.kept; exact CaR.old rfl; apply RenL.cons; exact Ren.clo inferInstance
         apply RenL.cons; exact Ren.clo inferInstance; apply RenL.cons; exact Ren.clo inferInstance; apply RenL.cons; exact Ren.clo inferInstance; apply RenL.cons
         apply Ren.mp; exact CaR.old rfl; exact RenL.nil; apply HRen.kept; exact CaR.old rfl; exact RenL.clo; exact HRen.nil; exact lb rfl; dsimp only [reduceAdd, reduceMul, reduceSub, na, ca, nbk, nones, mc, ml]
         apply g0; exact wnt_g rfl rfl rfl rfl; exact s_not rfl; apply t0; exact s_pick_f rfl rfl rfl; apply t0; exact s_move rfl; apply sk; exact wnt_g rfl rfl rfl rfl
         apply sk; exact wnt_g rfl rfl rfl rfl; apply sk; exact wnt_g rfl rfl rfl rfl; apply sk; exact wnt_g rfl rfl rfl rfl; apply sk; exact wnt_u rfl rfl rfl
         apply sk; exact wnt_u rfl rfl rfl; apply sk; exact wnt_u rfl rfl rfl; apply sk; exact wnt_u rfl rfl rfl; apply sk; exact wnt_u rfl rfl rfl; apply sk; exact wnt_g rfl rfl rfl rfl
         apply t0; exact s_pick_t rfl rfl rfl; dsimp only [reduceAdd, reduceMul]; exact dn; exact rfl)
        refine Gol.cond_t rfl (by first | rfl | assumption) ?_
        (apply Gol.sr; apply t0; exact s_assign rfl; apply t0; exact s_assign rfl; dsimp only [reduceAdd, reduceMul]; exact dn; exact rfl; refine Gol.ret ?_
         refine thn_r ?_; refine inBlk_r ?_; refine thn_r ?_; refine rnd_r ?_; refine inBlk_r ?_
         refine thn_r ?_)
        dsimp only [rowV, rowH]
        (apply RetA.mk [0, 1] (by first | exact .inr rfl | exact .inl rfl); apply res_2 rfl; exact res_tmp rfl; exact res_tmp rfl; exact rfl; exact rfl; exact rfl
         apply OAs.gone; apply OAs.gone; exact OAs.nil; exact Ren.clo inferInstance)
      have hsig := hsig
      rw [h4] at hsig
      · have d6 : (n == e) = false := by
          rw [beq_eq_false_iff_ne]
          intro h
          have := List.any_eq_false.1 h3 e (he2 h0)
          rw [h] at this
          simp at this
        by_cases h5 : z.cm = y.cm
        · have d5 : (!decide (z.cm = y.cm)) = false := by simp [h5]
          rw [if_pos ⟨h1, h3, h4, .inr h5⟩] at hC
          (refine Gol.skip ?_; refine thn_n ?_; refine Gol.seq ?_; refine Gol.block ?_; refine Gol.seq ?_
           apply Gol.any; kernel_rfl; apply t0; exact s_fieldAddr rfl; apply t0; exact s_load rfl rfl rfl; dsimp only [reduceAdd, reduceMul, reduceSub, na, ca, nbk, mc, ml]
           apply tq; apply s_acts (f := 117) [0, 1] rfl inferInstance; exact graph_ok l vs f K; apply evs.cons rfl
           exact evs.nil; exact rfl; apply ABs.cons; exact rfl; exact rfl; exact rfl; apply RenL.cons; exact Ren.clo inferInstance; apply RenL.cons; exact Ren.clo inferInstance
           apply RenL.cons; exact Ren.clo inferInstance; apply RenL.cons; exact Ren.clo inferInstance; apply RenL.cons; apply Ren.mp; exact CaR.old rfl; exact RenL.nil
           apply ABs.cons; exact rfl; exact rfl; exact rfl; exact RenL.clo; exact ABs.nil; dsimp only [List.cons_append, List.nil_append, List.append_nil]; apply RenL.cons
           apply Ren.pt; exact CaR.old rfl; exact RenL.nil; exact Ren.clo inferInstance; apply HRen.kept; exact CaR.old rfl; apply RenL.cons; exact Ren.clo inferInstance
           apply RenL.cons; exact Ren.clo inferInstance; apply RenL.cons; exact Ren.clo inferInstance; apply RenL.cons; exact Ren.clo inferInstance; apply RenL.cons
           apply Ren.mp; exact CaR.old rfl; exact RenL.nil; apply HRen.kept; exact CaR.old rfl; exact RenL.clo; exact HRen.nil; exact lb rfl; dsimp only [reduceAdd, reduceMul, reduceSub, na, ca, nbk, nones, mc, ml]
           apply t0; exact s_loadW rfl rfl rfl (agu_cuv _); dsimp only [reduceAdd, reduceMul, reduceSub, na, ca, nbk, mc, ml]
           apply tq; apply s_acts (f := 61) [] rfl inferInstance; exact hiz; apply evs.cons rfl; apply evs.cons rfl
           exact evs.nil; exact rfl; exact ABs.nil; dsimp only [List.cons_append, List.nil_append, List.append_nil]; exact RenL.clo; exact Ren.clo inferInstance
           exact HRen.nil; exact lb rfl; dsimp only [reduceAdd, reduceMul, reduceSub, na, ca, nbk, nones, mc, ml]
           apply t0; exact s_move rfl; apply t0; exact s_extract rfl rfl; apply t0; exact s_extract rfl rfl; apply t1; exact s_alloc; apply n1; exact s_storeW rfl rfl rfl rfl rfl rfl
           apply t0; exact s_assign rfl; dsimp only [reduceAdd, reduceMul]; exact dn; kernel_rfl; exact rfl; refine thn_n ?_; refine Gol.seq ?_
           apply Gol.sr; apply t0; exact s_move rfl; apply t0; exact s_not rfl; apply t0; exact s_move rfl; apply g0; exact wnt_g rfl rfl rfl rfl; exact s_fieldAddr rfl
           apply g0; exact wnt_g rfl rfl rfl rfl; exact s_load rfl rfl rfl; apply g0; exact wnt_g rfl rfl rfl rfl; exact s_ne rfl rfl; apply t0; exact s_pick_f rfl rfl rfl
           apply t0; exact s_move rfl; apply g0; exact wnt_g rfl rfl rfl (by focus (simp only [*]; rfl)); exact s_move rfl; apply g0; exact wnt_g rfl rfl rfl (by focus (simp only [*]; rfl))
           exact s_loadW rfl rfl rfl (agu_cuv _); apply gq; exact wnt_g rfl rfl rfl (by focus (simp only [*]; rfl)); exact s_call (f := 120) rfl (evs.cons rfl (evs.cons rfl evs.nil)) (ArgL.cons (arg_sl rfl) (ArgL.cons arg_clo ArgL.nil)) hcon (lb rfl)
           dsimp only [reduceAdd, reduceMul, reduceSub, na, ca, nbk, mc, ml]; apply t0; exact s_pick_f rfl (by assumption) rfl
           apply t0; exact s_move rfl; apply g0; exact wnt_g rfl rfl rfl rfl; exact s_loadW rfl rfl rfl (agu_cua _); apply g0; exact wnt_g rfl rfl rfl rfl; exact s_loadW rfl rfl rfl (agu_cuv _)
           apply g0; exact wnt_g rfl rfl rfl rfl; exact s_move rfl; dsimp only [reduceAdd, reduceMul, reduceSub, na, ca, nbk, mc, ml]
           apply Trc.step rfl rfl; apply wnt_g; exact rfl; exact rfl; exact rfl; rfl; apply s_acts (f := 121) [0, 1] rfl inferInstance
           exact hsig; apply evs.cons rfl; apply evs.cons rfl; apply evs.cons rfl; exact evs.nil; exact rfl; apply ABs.cons; exact rfl; exact rfl; exact rfl; apply RenL.cons
           exact Ren.clo inferInstance; apply RenL.cons; exact Ren.clo inferInstance; apply RenL.cons; exact Ren.clo inferInstance; apply RenL.cons; exact Ren.clo inferInstance
           apply RenL.cons; apply Ren.mp; exact CaR.old rfl; exact RenL.nil; apply ABs.cons; exact rfl; exact rfl; exact rfl; exact RenL.clo; exact ABs.nil; dsimp only [List.cons_append, List.nil_append, List.append_nil]
           apply RenL.cons; apply Ren.agL; apply RenL.cons; apply Ren.pt; exact CaR.old rfl; exact RenL.nil; apply RenL.cons; exact Ren.clo inferInstance; apply RenL.cons
           exact Ren.clo inferInstance; exact RenL.nil; exact Ren.clo inferInstance; apply HRen.kept; exact CaR.old rfl; apply RenL.cons; exact Ren.clo inferInstance
           apply RenL.cons; exact Ren.clo inferInstance; apply RenL.cons; exact Ren.clo inferInstance; apply RenL.cons; exact Ren.clo inferInstance; apply RenL.cons
           apply Ren.mp; exact CaR.old rfl; exact RenL.nil; apply HRen.kept; exact CaR.old rfl; exact RenL.clo; exact HRen.nil; exact lb rfl; dsimp only [reduceAdd, reduceMul, reduceSub, na, ca, nbk, nones, mc, ml]
           apply g0; exact wnt_g rfl rfl rfl rfl; exact s_not rfl; apply t0; exact s_pick_f rfl rfl rfl; apply t0; exact s_move rfl; apply g0; exact wnt_g rfl rfl rfl rfl
           exact s_loadW rfl rfl rfl (agu_cuv _); apply g0; exact wnt_g rfl rfl rfl rfl; exact s_loadW rfl rfl rfl (agu_cuv _); apply g0; exact wnt_g rfl rfl rfl rfl
           exact s_neN rfl rfl; apply g0; exact wnt_g rfl rfl rfl rfl; exact s_move rfl; apply g0; exact wnt_g rfl rfl rfl (by focus (simp only [*]; rfl)); exact s_fieldAddr rfl
           apply g0; exact wnt_g rfl rfl rfl (by focus (simp only [*]; rfl)); exact s_load rfl rfl rfl; apply g0; exact wnt_g rfl rfl rfl (by focus (simp only [*]; rfl))
           exact s_fieldAddr rfl; apply g0; exact wnt_g rfl rfl rfl (by focus (simp only [*]; rfl)); exact s_load rfl rfl rfl; apply g0; exact wnt_g rfl rfl rfl (by focus (simp only [*]; rfl))
           exact s_ne rfl rfl; apply g0; exact wnt_g rfl rfl rfl rfl; exact s_pick_t rfl (by focus (simp only [*]; rfl)) rfl; apply t0; exact s_pick_f rfl rfl rfl
           dsimp only [reduceAdd, reduceMul]; exact dn; exact rfl)
          refine Gol.cond_f rfl (by simp [*]) ?_
          (refine Gol.skip ?_; refine thn_n ?_; apply Gol.sr; apply t0; exact s_move rfl; apply t0; exact s_loadW rfl rfl rfl (agu_cuv _)
           apply t1; exact s_lit (PA.cons rfl rfl rfl PA.nil) rfl (by first | omega | exact lb rfl | decide | (simp <;> omega) | (dsimp <;> omega)); apply tq; exact s_app rfl rfl rfl (rd_sl rfl rfl) (by simp only [byA_length, List.length_append, List.length_cons, List.length_nil, List.length_take, List.length_drop, List.length_replicate, List.length_map, Nat.mul_one, nameB_length, flat_length, List.length_set, inA_length, dsA_length, lsA_length, dA_length, lA_length, itsA_length, vtsA_length, rcsA_length] <;> omega) rfl rfl rfl (by omega)
           dsimp only [reduceAdd, reduceMul, reduceSub, na, ca, nbk, mc, ml]; apply t0; exact s_assign rfl
           dsimp only [reduceAdd, reduceMul]; exact dn; exact rfl; apply Gol.region; apply t0; exact s_fieldAddr rfl; apply t0; exact s_loadN rfl rfl (lb rfl) (agu_nm8 rfl)
           apply n1; exact s_storeW rfl rfl rfl rfl rfl rfl; dsimp only [reduceAdd, reduceMul]; exact dn; exact rfl; refine inBlk_n ?_; refine thn_n ?_
           apply Gol.sr; apply t0; exact s_loadW rfl rfl rfl (agu_cuv _); dsimp only [reduceAdd, reduceMul]; exact dn; exact rfl; apply Gol.region
           apply t1; exact s_alloc; apply n1; exact s_storeW rfl rfl rfl rfl rfl rfl; dsimp only [reduceAdd, reduceMul]; exact dn; exact rfl)
          have hzl : z ∈ l := by obtain ⟨j, _, hj, _⟩ := fnd_some ho; exact List.mem_of_getElem? hj
          have hzn : z.n = n := by obtain ⟨j, _, hj, hm⟩ := fnd_some ho; exact hm
          have hnin : n ∉ out := fun hm => by
            have := List.any_eq_false.1 h3 n hm
            simp at this
          have hnd2 : (out ++ [n]).Nodup := by
            rw [List.nodup_append]
            refine ⟨hnd, by simp, fun a ha b hb e => ?_⟩
            simp only [List.mem_singleton] at hb
            exact hnin (by rw [← hb, ← e]; exact ha)
          have hsub2 : ∀ a ∈ out ++ [n], a ∈ l.map (·.n) := fun a ha => by
            rcases List.mem_append.1 ha with ha | ha
            · exact hsub a ha
            · simp only [List.mem_singleton] at ha
              rw [ha]; exact List.mem_map.2 ⟨z, hzl, hzn⟩
          have hol2 : (out ++ [n]).length ≤ l.length := by have := nd_len2 (out ++ [n]) (l.map (·.n)) hnd2 hsub2; rwa [List.length_map] at this
          have hlo : (out ++ [n]).length = out.length + 1 := by simp
          refine rnd_n (out ++ [n], z.p, K2) ⟨hK2, hnd2, hsub2, ?_, fun h => by simp at h, fun _ => hein⟩ (by dsimp only; omega) ?_
          · dsimp only
            rw [hlo, show l.length + 1 - (out.length + 1) = l.length - out.length by omega]
            exact hC
          · dsimp only
            rw [hlo]
            (apply Le.mk3' [(97, 872), (98, 824)]; apply RnT3.c; exact rfl; apply Rn3.r; exact Rn.v rfl; apply RnT3.c; exact rfl; apply Rn3.r; exact Rn.pt rfl rfl
             apply RnT3.c; exact rfl; apply Rn3.r; exact Rn.pt rfl rfl; apply RnT3.c; exact rfl; apply Rn3.r; exact Rn.pt rfl rfl; apply RnT3.c; exact rfl; apply Rn3.r
             exact Rn.pt rfl rfl; apply RnT3.c; exact rfl; apply Rn3.r; exact Rn.pt rfl rfl; apply RnT3.c; exact rfl; apply Rn3.r; exact Rn.sl rfl rfl; apply RnT3.c
             exact rfl; apply Rn3.r; exact Rn.v rfl; apply RnT3.c; exact rfl; apply Rn3.r; exact Rn.v rfl; exact RnT3.n; apply RnH3.c; exact rfl; exact rfl; apply RnC.l
             apply Rn3L.cons; apply Rn3.r; exact Rn.clo inferInstance rfl; apply Rn3L.cons; apply Rn3.r; exact Rn.clo inferInstance rfl; apply Rn3L.cons; apply Rn3.r
             exact Rn.clo inferInstance rfl; apply Rn3L.cons; apply Rn3.r; exact Rn.clo inferInstance rfl; apply Rn3L.cons; apply Rn3.r; exact Rn.mp rfl; exact Rn3L.nil
             exact rfl; exact rfl; apply RnH3.c; exact rfl; exact rfl; apply RnC.cl; rfl; exact inferInstance; exact rfl; exact rfl; apply RnH3.c; exact rfl; exact rfl
             apply RnC.l; apply Rn3L.cons; apply Rn3.r; exact Rn.pt rfl rfl; exact Rn3L.nil; exact rfl; exact rfl; apply RnH3.c; exact rfl; exact rfl; apply RnC.cl
             rfl; exact inferInstance; exact rfl; exact rfl; apply RnH3.c; exact rfl; exact rfl; apply RnC.cl; rfl; exact inferInstance; exact rfl; exact rfl; apply RnH3.c
             exact rfl; exact rfl; apply RnC.cl; rfl; exact inferInstance; exact rfl; exact rfl; apply RnH3.c; exact rfl; exact rfl; apply RnC.cl; rfl; exact inferInstance
             exact rfl; exact rfl; apply RnH3.c; exact rfl; exact rfl; apply RnC.cl; exact nm_next2 out n; exact inferInstance; exact rfl; exact rfl; exact RnH3.n
             exact rfl; exact rfl)
        · have d5 : (!decide (z.cm = y.cm)) = true := by simp [h5]
          rw [if_neg (fun h => h.2.2.2.elim h0 h5)] at hC
          subst hC
          (refine Gol.skip ?_; refine thn_n ?_; refine Gol.seq ?_; refine Gol.block ?_; refine Gol.seq ?_
           apply Gol.any; kernel_rfl; apply t0; exact s_fieldAddr rfl; apply t0; exact s_load rfl rfl rfl; dsimp only [reduceAdd, reduceMul, reduceSub, na, ca, nbk, mc, ml]
           apply tq; apply s_acts (f := 117) [0, 1] rfl inferInstance; exact graph_ok l vs f K; apply evs.cons rfl
           exact evs.nil; exact rfl; apply ABs.cons; exact rfl; exact rfl; exact rfl; apply RenL.cons; exact Ren.clo inferInstance; apply RenL.cons; exact Ren.clo inferInstance
           apply RenL.cons; exact Ren.clo inferInstance; apply RenL.cons; exact Ren.clo inferInstance; apply RenL.cons; apply Ren.mp; exact CaR.old rfl; exact RenL.nil
           apply ABs.cons; exact rfl; exact rfl; exact rfl; exact RenL.clo; exact ABs.nil; dsimp only [List.cons_append, List.nil_append, List.append_nil]; apply RenL.cons
           apply Ren.pt; exact CaR.old rfl; exact RenL.nil; exact Ren.clo inferInstance; apply HRen.kept; exact CaR.old rfl; apply RenL.cons; exact Ren.clo inferInstance
           apply RenL.cons; exact Ren.clo inferInstance; apply RenL.cons; exact Ren.clo inferInstance; apply RenL.cons; exact Ren.clo inferInstance; apply RenL.cons
           apply Ren.mp; exact CaR.old rfl; exact RenL.nil; apply HRen.kept; exact CaR.old rfl; exact RenL.clo; exact HRen.nil; exact lb rfl; dsimp only [reduceAdd, reduceMul, reduceSub, na, ca, nbk, nones, mc, ml]
           apply t0; exact s_loadW rfl rfl rfl (agu_cuv _); dsimp only [reduceAdd, reduceMul, reduceSub, na, ca, nbk, mc, ml]
           apply tq; apply s_acts (f := 61) [] rfl inferInstance; exact hiz; apply evs.cons rfl; apply evs.cons rfl
           exact evs.nil; exact rfl; exact ABs.nil; dsimp only [List.cons_append, List.nil_append, List.append_nil]; exact RenL.clo; exact Ren.clo inferInstance
           exact HRen.nil; exact lb rfl; dsimp only [reduceAdd, reduceMul, reduceSub, na, ca, nbk, nones, mc, ml]
           apply t0; exact s_move rfl; apply t0; exact s_extract rfl rfl; apply t0; exact s_extract rfl rfl; apply t1; exact s_alloc; apply n1; exact s_storeW rfl rfl rfl rfl rfl rfl
           apply t0; exact s_assign rfl; dsimp only [reduceAdd, reduceMul]; exact dn; kernel_rfl; exact rfl; refine thn_n ?_; refine Gol.seq ?_
           apply Gol.sr; apply t0; exact s_move rfl; apply t0; exact s_not rfl; apply t0; exact s_move rfl; apply g0; exact wnt_g rfl rfl rfl rfl; exact s_fieldAddr rfl
           apply g0; exact wnt_g rfl rfl rfl rfl; exact s_load rfl rfl rfl; apply g0; exact wnt_g rfl rfl rfl rfl; exact s_ne rfl rfl; apply t0; exact s_pick_f rfl rfl rfl
           apply t0; exact s_move rfl; apply g0; exact wnt_g rfl rfl rfl (by focus (simp only [*]; rfl)); exact s_move rfl; apply g0; exact wnt_g rfl rfl rfl (by focus (simp only [*]; rfl))
           exact s_loadW rfl rfl rfl (agu_cuv _); apply gq; exact wnt_g rfl rfl rfl (by focus (simp only [*]; rfl)); exact s_call (f := 120) rfl (evs.cons rfl (evs.cons rfl evs.nil)) (ArgL.cons (arg_sl rfl) (ArgL.cons arg_clo ArgL.nil)) hcon (lb rfl)
           dsimp only [reduceAdd, reduceMul, reduceSub, na, ca, nbk, mc, ml]; apply t0; exact s_pick_f rfl (by assumption) rfl
           apply t0; exact s_move rfl; apply g0; exact wnt_g rfl rfl rfl rfl; exact s_loadW rfl rfl rfl (agu_cua _); apply g0; exact wnt_g rfl rfl rfl rfl; exact s_loadW rfl rfl rfl (agu_cuv _)
           apply g0; exact wnt_g rfl rfl rfl rfl; exact s_move rfl; dsimp only [reduceAdd, reduceMul, reduceSub, na, ca, nbk, mc, ml]
           apply Trc.step rfl rfl; apply wnt_g; exact rfl; exact rfl; exact rfl; rfl; apply s_acts (f := 121) [0, 1] rfl inferInstance
           exact hsig; apply evs.cons rfl; apply evs.cons rfl; apply evs.cons rfl; exact evs.nil; exact rfl; apply ABs.cons; exact rfl; exact rfl; exact rfl; apply RenL.cons
           exact Ren.clo inferInstance; apply RenL.cons; exact Ren.clo inferInstance; apply RenL.cons; exact Ren.clo inferInstance; apply RenL.cons; exact Ren.clo inferInstance
           apply RenL.cons; apply Ren.mp; exact CaR.old rfl; exact RenL.nil; apply ABs.cons; exact rfl; exact rfl; exact rfl; exact RenL.clo; exact ABs.nil; dsimp only [List.cons_append, List.nil_append, List.append_nil]
           apply RenL.cons; apply Ren.agL; apply RenL.cons; apply Ren.pt; exact CaR.old rfl; exact RenL.nil; apply RenL.cons; exact Ren.clo inferInstance; apply RenL.cons
           exact Ren.clo inferInstance; exact RenL.nil; exact Ren.clo inferInstance; apply HRen.kept; exact CaR.old rfl; apply RenL.cons; exact Ren.clo inferInstance
           apply RenL.cons; exact Ren.clo inferInstance; apply RenL.cons; exact Ren.clo inferInstance; apply RenL.cons; exact Ren.clo inferInstance; apply RenL.cons
           apply Ren.mp; exact CaR.old rfl; exact RenL.nil; apply HRen.kept; exact CaR.old rfl; exact RenL.clo; exact HRen.nil; exact lb rfl; dsimp only [reduceAdd, reduceMul, reduceSub, na, ca, nbk, nones, mc, ml]
           apply g0; exact wnt_g rfl rfl rfl rfl; exact s_not rfl; apply t0; exact s_pick_f rfl rfl rfl; apply t0; exact s_move rfl; apply g0; exact wnt_g rfl rfl rfl rfl
           exact s_loadW rfl rfl rfl (agu_cuv _); apply g0; exact wnt_g rfl rfl rfl rfl; exact s_loadW rfl rfl rfl (agu_cuv _); apply g0; exact wnt_g rfl rfl rfl rfl
           exact s_neN rfl rfl; apply g0; exact wnt_g rfl rfl rfl rfl; exact s_move rfl; apply g0; exact wnt_g rfl rfl rfl (by focus (simp only [*]; rfl)); exact s_fieldAddr rfl
           apply g0; exact wnt_g rfl rfl rfl (by focus (simp only [*]; rfl)); exact s_load rfl rfl rfl; apply g0; exact wnt_g rfl rfl rfl (by focus (simp only [*]; rfl))
           exact s_fieldAddr rfl; apply g0; exact wnt_g rfl rfl rfl (by focus (simp only [*]; rfl)); exact s_load rfl rfl rfl; apply g0; exact wnt_g rfl rfl rfl (by focus (simp only [*]; rfl))
           exact s_ne rfl rfl; apply g0; exact wnt_g rfl rfl rfl rfl; exact s_pick_t rfl (by focus (simp only [*]; rfl)) rfl; apply t0; exact s_pick_f rfl rfl rfl
           dsimp only [reduceAdd, reduceMul]; exact dn; exact rfl)
          refine Gol.cond_t rfl (by first | rfl | assumption) ?_
          (apply Gol.sr; apply t0; exact s_assign rfl; apply t0; exact s_assign rfl; dsimp only [reduceAdd, reduceMul]; exact dn; exact rfl; refine Gol.ret ?_
           refine thn_r ?_; refine inBlk_r ?_; refine thn_r ?_; refine rnd_r ?_; refine inBlk_r ?_
           refine thn_r ?_)
          dsimp only [rowV, rowH]
          (apply RetA.mk [0, 1] (by first | exact .inr rfl | exact .inl rfl); apply res_2 rfl; exact res_tmp rfl; exact res_tmp rfl; exact rfl; exact rfl; exact rfl
           apply OAs.gone; apply OAs.gone; exact OAs.nil; exact Ren.clo inferInstance)
end
end Go.Proofs.YtneeclacmhhblaaGreat


/-
  Layer 27, cover: rows, in all cases. Conditions: lengths below 2^20, states of at most 100000 entries each.
-/
namespace Go.Proofs.YtneeclacmhhblaaGreat
open Go.RowKit
open Nat (reduceAdd reduceMul reduceSub)

def rowV0 (r : Option (List UInt64)) : AV := match r with | none => .tp [.v (.slice none 0 0), .v (.bool false)] | some o => .tp [.sl 0 o.length, .v (.bool true)]
def rowH0 (r : Option (List UInt64)) : List (Option ABlk) := match r with | none => [] | some o => [some ⟨byA (flat o.reverse), 23, 8⟩]
section
variable (S : List UInt8 → UInt64) (hS : HashF S)
include hS
theorem crow_no (l : List It) (vs : List Vt) (f : Bool) (K : List (UInt64 × Stu)) (x : UInt64) (s : Int) (e : UInt64) (hl : l.length ≤ 1000000) (h : ∀ y, itOf l x = some y → hasB y.cm s = false) :
    Acts Tryz.prog 85 [bookB l vs f, knB K] [.ag [.pt 0 0], .v (.agg (nameC x)), .v (.int .i64 s), .v (.agg (nameC e))] (.tp [.v (.slice none 0 0), .v (.bool false)]) [none, none] := by
  have hgr := graph_ok l vs f K
  cases hy : itOf l x with
  | none =>
    have hit := item_no l f x hl hy
    refine Acts.of (fn := Tryz.f85) Tryz.func85 rfl (lb rfl) (lb rfl) fun w bl hid loc => ?_
    (apply Gol.sr; apply t1; exact s_box rfl rfl; apply t1; exact s_box rfl rfl; apply t1; exact s_box rfl rfl; apply t0; exact s_assign rfl; apply t0; exact s_assign rfl
     dsimp only [reduceAdd, reduceMul]; exact dn; exact rfl; refine Gol.seq ?_; apply Gol.any; kernel_rfl; apply t0
     exact s_fieldAddr rfl; apply t0; exact s_load rfl rfl rfl; dsimp only [reduceAdd, reduceMul, reduceSub, na, ca, nbk, mc, ml]
     apply tq; apply s_acts (f := 117) [0, 1] rfl inferInstance; exact hgr; apply evs.cons rfl
     exact evs.nil; exact rfl; apply ABs.cons; exact rfl; exact rfl; exact rfl; apply RenL.cons; exact Ren.clo inferInstance; apply RenL.cons; exact Ren.clo inferInstance
     apply RenL.cons; exact Ren.clo inferInstance; apply RenL.cons; exact Ren.clo inferInstance; apply RenL.cons; apply Ren.mp; exact CaR.old rfl; exact RenL.nil
     apply ABs.cons; exact rfl; exact rfl; exact rfl; exact RenL.clo; exact ABs.nil; dsimp only [List.cons_append, List.nil_append, List.append_nil]; apply RenL.cons
     apply Ren.pt; exact CaR.old rfl; exact RenL.nil; exact Ren.clo inferInstance; apply HRen.kept; exact CaR.old rfl; apply RenL.cons; exact Ren.clo inferInstance
     apply RenL.cons; exact Ren.clo inferInstance; apply RenL.cons; exact Ren.clo inferInstance; apply RenL.cons; exact Ren.clo inferInstance; apply RenL.cons
     apply Ren.mp; exact CaR.old rfl; exact RenL.nil; apply HRen.kept; exact CaR.old rfl; exact RenL.clo; exact HRen.nil; exact lb rfl; dsimp only [reduceAdd, reduceMul, reduceSub, na, ca, nbk, nones, mc, ml]
     apply t0; exact s_loadW rfl rfl rfl (agu_cuv _); dsimp only [reduceAdd, reduceMul, reduceSub, na, ca, nbk, mc, ml]
     apply tq; apply s_acts (f := 61) [] rfl inferInstance; exact hit; apply evs.cons rfl; apply evs.cons rfl
     exact evs.nil; exact rfl; exact ABs.nil; dsimp only [List.cons_append, List.nil_append, List.append_nil]; exact RenL.clo; exact Ren.clo inferInstance
     exact HRen.nil; exact lb rfl; dsimp only [reduceAdd, reduceMul, reduceSub, na, ca, nbk, nones, mc, ml]
     apply t0; exact s_move rfl; apply t0; exact s_extract rfl rfl; apply t0; exact s_extract rfl rfl; apply t1; exact s_alloc; apply n1; exact s_storeW rfl rfl rfl rfl rfl rfl
     apply t0; exact s_assign rfl; dsimp only [reduceAdd, reduceMul]; exact dn; kernel_rfl; exact rfl; refine thn_n ?_; refine Gol.seq ?_
     apply Gol.sr; apply t0; exact s_move rfl; apply t0; exact s_not rfl; apply t0; exact s_move rfl; apply sk; exact wnt_g rfl rfl rfl rfl; apply sk; exact wnt_g rfl rfl rfl rfl
     apply sk; exact wnt_g rfl rfl rfl rfl; apply sk; exact wnt_g rfl rfl rfl rfl; apply sk; exact wnt_g rfl rfl rfl rfl; apply t0; exact s_pick_t rfl rfl rfl
     dsimp only [reduceAdd, reduceMul]; exact dn; exact rfl)
    refine Gol.cond_t rfl rfl ?_
    (apply Gol.sr; apply t0; exact s_assign rfl; apply t0; exact s_assign rfl; dsimp only [reduceAdd, reduceMul]; exact dn; exact rfl; refine Gol.ret ?_
     refine thn_r ?_)
    change RetA _ _ _ _ _ _ _ _ _
    (apply RetA.mk [0, 1] (by first | exact .inr rfl | exact .inl rfl); apply res_2 rfl; exact res_tmp rfl; exact res_tmp rfl; exact rfl; exact rfl; exact rfl
     apply OAs.gone; apply OAs.gone; exact OAs.nil; exact Ren.clo inferInstance)
  | some y =>
    have hit := item_yes l f x y hl hy
    have hhas := has_ok y.cm s
    rw [h y hy] at hhas
    refine Acts.of (fn := Tryz.f85) Tryz.func85 rfl (lb rfl) (lb rfl) fun w bl hid loc => ?_
    (apply Gol.sr; apply t1; exact s_box rfl rfl; apply t1; exact s_box rfl rfl; apply t1; exact s_box rfl rfl; apply t0; exact s_assign rfl; apply t0; exact s_assign rfl
     dsimp only [reduceAdd, reduceMul]; exact dn; exact rfl; refine Gol.seq ?_; apply Gol.any; kernel_rfl; apply t0
     exact s_fieldAddr rfl; apply t0; exact s_load rfl rfl rfl; dsimp only [reduceAdd, reduceMul, reduceSub, na, ca, nbk, mc, ml]
     apply tq; apply s_acts (f := 117) [0, 1] rfl inferInstance; exact hgr; apply evs.cons rfl
     exact evs.nil; exact rfl; apply ABs.cons; exact rfl; exact rfl; exact rfl; apply RenL.cons; exact Ren.clo inferInstance; apply RenL.cons; exact Ren.clo inferInstance
     apply RenL.cons; exact Ren.clo inferInstance; apply RenL.cons; exact Ren.clo inferInstance; apply RenL.cons; apply Ren.mp; exact CaR.old rfl; exact RenL.nil
     apply ABs.cons; exact rfl; exact rfl; exact rfl; exact RenL.clo; exact ABs.nil; dsimp only [List.cons_append, List.nil_append, List.append_nil]; apply RenL.cons
     apply Ren.pt; exact CaR.old rfl; exact RenL.nil; exact Ren.clo inferInstance; apply HRen.kept; exact CaR.old rfl; apply RenL.cons; exact Ren.clo inferInstance
     apply RenL.cons; exact Ren.clo inferInstance; apply RenL.cons; exact Ren.clo inferInstance; apply RenL.cons; exact Ren.clo inferInstance; apply RenL.cons
     apply Ren.mp; exact CaR.old rfl; exact RenL.nil; apply HRen.kept; exact CaR.old rfl; exact RenL.clo; exact HRen.nil; exact lb rfl; dsimp only [reduceAdd, reduceMul, reduceSub, na, ca, nbk, nones, mc, ml]
     apply t0; exact s_loadW rfl rfl rfl (agu_cuv _); dsimp only [reduceAdd, reduceMul, reduceSub, na, ca, nbk, mc, ml]
     apply tq; apply s_acts (f := 61) [] rfl inferInstance; exact hit; apply evs.cons rfl; apply evs.cons rfl
     exact evs.nil; exact rfl; exact ABs.nil; dsimp only [List.cons_append, List.nil_append, List.append_nil]; exact RenL.clo; exact Ren.clo inferInstance
     exact HRen.nil; exact lb rfl; dsimp only [reduceAdd, reduceMul, reduceSub, na, ca, nbk, nones, mc, ml]
     apply t0; exact s_move rfl; apply t0; exact s_extract rfl rfl; apply t0; exact s_extract rfl rfl; apply t1; exact s_alloc; apply n1; exact s_storeW rfl rfl rfl rfl rfl rfl
     apply t0; exact s_assign rfl; dsimp only [reduceAdd, reduceMul]; exact dn; kernel_rfl; exact rfl; refine thn_n ?_; refine Gol.seq ?_
     apply Gol.sr; apply t0; exact s_move rfl; apply t0; exact s_not rfl; apply t0; exact s_move rfl; apply g0; exact wnt_g rfl rfl rfl rfl; exact s_fieldAddr rfl
     apply g0; exact wnt_g rfl rfl rfl rfl; exact s_load rfl rfl rfl; apply g0; exact wnt_g rfl rfl rfl rfl; exact s_move rfl; apply gq; exact wnt_g rfl rfl rfl rfl
     exact s_call (f := 118) rfl (evs.cons rfl (evs.cons rfl evs.nil)) (ArgL.cons arg_clo (ArgL.cons arg_clo ArgL.nil)) hhas (lb rfl)
     dsimp only [reduceAdd, reduceMul, reduceSub, na, ca, nbk, mc, ml]; apply g0; exact wnt_g rfl rfl rfl rfl
     exact s_not rfl; apply t0; exact s_pick_f rfl rfl rfl; dsimp only [reduceAdd, reduceMul]; exact dn; exact rfl)
    refine Gol.cond_t rfl rfl ?_
    (apply Gol.sr; apply t0; exact s_assign rfl; apply t0; exact s_assign rfl; dsimp only [reduceAdd, reduceMul]; exact dn; exact rfl; refine Gol.ret ?_
     refine thn_r ?_)
    change RetA _ _ _ _ _ _ _ _ _
    (apply RetA.mk [0, 1] (by first | exact .inr rfl | exact .inl rfl); apply res_2 rfl; exact res_tmp rfl; exact res_tmp rfl; exact rfl; exact rfl; exact rfl
     apply OAs.gone; apply OAs.gone; exact OAs.nil; exact Ren.clo inferInstance)
theorem crow_all (l : List It) (vs : List Vt) (f : Bool) (K : List (UInt64 × Stu)) (x : UInt64) (s : Int) (e : UInt64) (hl : l.length ≤ 1000000) (hsm : ∀ x ∈ l, Sm x.st) (hK : KnOk S l vs K) :
    Acts Tryz.prog 85 [bookB l vs f, knB K] [.ag [.pt 0 0], .v (.agg (nameC x)), .v (.int .i64 s), .v (.agg (nameC e))] (rowV (rowF S l vs x s e)) (rowH (rowF S l vs x s e)) := by
  unfold rowF
  cases hy : itOf l x with
  | none => exact crow_no S hS l vs f K x s e hl (fun y h => by rw [hy] at h; cases h)
  | some y =>
    dsimp only
    by_cases hc : hasB y.cm s = true
    · rw [if_pos hc]; exact crow_ok S hS l vs f K x s e hl hsm hK y hy hc
    · rw [if_neg hc]
      exact crow_no S hS l vs f K x s e hl (fun y' h => by rw [hy] at h; injection h with h; subst h; simpa using hc)
theorem row_ok (l : List It) (vs : List Vt) (f f2 : Bool) (x : UInt64) (s : Int) (e : UInt64) (hl : l.length ≤ 1000000) (hv : vs.length ≤ 1000000) (hsm : ∀ x ∈ l, Sm x.st) :
    Acts Tryz.prog 51 [] [.ex l.length f (itsA l), .ex vs.length f2 (vtsA vs), .v (.agg (nameC x)), .v (.int .i64 s), .v (.agg (nameC e))] (rowV0 (rowF S l vs x s e)) (rowH0 (rowF S l vs x s e)) := by
  have ho := open_ok l vs f f2 hl hv
  have hc := crow_all S hS l vs f [] x s e hl hsm (knOk_nil S l vs)
  cases hR : rowF S l vs x s e with
  | none =>
    rw [hR] at hc
    dsimp only [rowV, rowH, rowV0, rowH0] at hc ⊢
    refine Acts.of (fn := Tryz.f51) Tryz.func51 rfl (lb rfl) (lb rfl) fun w bl hid loc => ?_
    (apply Gol.sr; apply t1; exact s_box rfl rfl; apply t1; exact s_box rfl rfl; apply t0; exact s_assign rfl; apply t0; exact s_assign rfl; dsimp only [reduceAdd, reduceMul]
     exact dn; exact rfl; refine Gol.seq ?_; apply Gol.any; kernel_rfl; apply t0; exact s_move rfl; apply t0; exact s_move rfl
     dsimp only [reduceAdd, reduceMul, reduceSub, na, ca, nbk, mc, ml]; apply tq; apply s_acts (f := 45) [] rfl inferInstance; exact ho; apply evs.cons rfl; apply evs.cons rfl; exact evs.nil; exact rfl
     exact ABs.nil; dsimp only [List.cons_append, List.nil_append, List.append_nil]; exact RenL.clo; apply Ren.pt; exact CaR.new 0 rfl rfl; apply HRen.kept
     exact CaR.new 0 rfl rfl; apply RenL.cons; exact Ren.clo inferInstance; apply RenL.cons; exact Ren.clo inferInstance; apply RenL.cons; exact Ren.clo inferInstance
     apply RenL.cons; exact Ren.clo inferInstance; apply RenL.cons; apply Ren.mp; exact CaR.new 1 rfl rfl; exact RenL.nil; apply HRen.kept; exact CaR.new 1 rfl rfl
     exact RenL.clo; exact HRen.nil; exact lb rfl; dsimp only [reduceAdd, reduceMul, reduceSub, na, ca, nbk, nones, mc, ml]
     apply tq; apply s_bld; exact rfl; (focus (dsimp only [splB, cuB, spl, cu, Value.cells, nameC, List.map, List.take, List.drop, List.append, List.length, List.cons_append, List.nil_append, Nat.reduceAdd, List.take_succ_cons, List.take_zero, List.drop_succ_cons, List.drop_zero, List.take_nil, List.drop_nil, List.append_nil, List.length_cons, List.length_nil]; done))
     dsimp only [reduceAdd, reduceMul, reduceSub, na, ca, nbk, mc, ml]; apply t0; exact s_loadW rfl rfl rfl (agu_cuv _)
     apply t0; exact s_move rfl; apply t0; exact s_loadW rfl rfl rfl (agu_cuv _); dsimp only [reduceAdd, reduceMul, reduceSub, na, ca, nbk, mc, ml]
     apply tq; apply s_acts (f := 85) [56, 57] rfl inferInstance; exact hc; apply evs.cons rfl
     apply evs.cons rfl; apply evs.cons rfl; apply evs.cons rfl; exact evs.nil; exact rfl; apply ABs.cons; exact rfl; exact rfl; exact rfl; apply RenL.cons
     exact Ren.clo inferInstance; apply RenL.cons; exact Ren.clo inferInstance; apply RenL.cons; exact Ren.clo inferInstance; apply RenL.cons; exact Ren.clo inferInstance
     apply RenL.cons; apply Ren.mp; exact CaR.old rfl; exact RenL.nil; apply ABs.cons; exact rfl; exact rfl; exact rfl; exact RenL.clo; exact ABs.nil; dsimp only [List.cons_append, List.nil_append, List.append_nil]
     apply RenL.cons; apply Ren.agL; apply RenL.cons; apply Ren.pt; exact CaR.old rfl; exact RenL.nil; apply RenL.cons; exact Ren.clo inferInstance; apply RenL.cons
     exact Ren.clo inferInstance; apply RenL.cons; exact Ren.clo inferInstance; exact RenL.nil; exact Ren.clo inferInstance; apply HRen.gone; exact CaR.old rfl
     apply HRen.gone; exact CaR.old rfl; exact HRen.nil; exact lb rfl; dsimp only [reduceAdd, reduceMul, reduceSub, na, ca, nbk, nones, mc, ml]
     apply t0; exact s_extract rfl rfl; apply t0; exact s_extract rfl rfl; apply t0; exact s_assign rfl; apply t0; exact s_assign rfl; dsimp only [reduceAdd, reduceMul]
     exact dn; kernel_rfl; exact rfl; refine thn_n ?_; refine Gol.ret ?_)
    (apply RetA.mk [] (by first | exact .inr rfl | exact .inl rfl); apply res_2 rfl; exact res_tmp rfl; exact res_tmp rfl; exact rfl; exact rfl; exact rfl
     exact OAs.nil; exact Ren.clo inferInstance)
  | some o =>
    rw [hR] at hc
    dsimp only [rowV, rowH, rowV0, rowH0] at hc ⊢
    refine Acts.of (fn := Tryz.f51) Tryz.func51 rfl (lb rfl) (lb rfl) fun w bl hid loc => ?_
    (apply Gol.sr; apply t1; exact s_box rfl rfl; apply t1; exact s_box rfl rfl; apply t0; exact s_assign rfl; apply t0; exact s_assign rfl; dsimp only [reduceAdd, reduceMul]
     exact dn; exact rfl; refine Gol.seq ?_; apply Gol.any; kernel_rfl; apply t0; exact s_move rfl; apply t0; exact s_move rfl
     dsimp only [reduceAdd, reduceMul, reduceSub, na, ca, nbk, mc, ml]; apply tq; apply s_acts (f := 45) [] rfl inferInstance; exact ho; apply evs.cons rfl; apply evs.cons rfl; exact evs.nil; exact rfl
     exact ABs.nil; dsimp only [List.cons_append, List.nil_append, List.append_nil]; exact RenL.clo; apply Ren.pt; exact CaR.new 0 rfl rfl; apply HRen.kept
     exact CaR.new 0 rfl rfl; apply RenL.cons; exact Ren.clo inferInstance; apply RenL.cons; exact Ren.clo inferInstance; apply RenL.cons; exact Ren.clo inferInstance
     apply RenL.cons; exact Ren.clo inferInstance; apply RenL.cons; apply Ren.mp; exact CaR.new 1 rfl rfl; exact RenL.nil; apply HRen.kept; exact CaR.new 1 rfl rfl
     exact RenL.clo; exact HRen.nil; exact lb rfl; dsimp only [reduceAdd, reduceMul, reduceSub, na, ca, nbk, nones, mc, ml]
     apply tq; apply s_bld; exact rfl; (focus (dsimp only [splB, cuB, spl, cu, Value.cells, nameC, List.map, List.take, List.drop, List.append, List.length, List.cons_append, List.nil_append, Nat.reduceAdd, List.take_succ_cons, List.take_zero, List.drop_succ_cons, List.drop_zero, List.take_nil, List.drop_nil, List.append_nil, List.length_cons, List.length_nil]; done))
     dsimp only [reduceAdd, reduceMul, reduceSub, na, ca, nbk, mc, ml]; apply t0; exact s_loadW rfl rfl rfl (agu_cuv _)
     apply t0; exact s_move rfl; apply t0; exact s_loadW rfl rfl rfl (agu_cuv _); dsimp only [reduceAdd, reduceMul, reduceSub, na, ca, nbk, mc, ml]
     apply tq; apply s_acts (f := 85) [56, 57] rfl inferInstance; exact hc; apply evs.cons rfl
     apply evs.cons rfl; apply evs.cons rfl; apply evs.cons rfl; exact evs.nil; exact rfl; apply ABs.cons; exact rfl; exact rfl; exact rfl; apply RenL.cons
     exact Ren.clo inferInstance; apply RenL.cons; exact Ren.clo inferInstance; apply RenL.cons; exact Ren.clo inferInstance; apply RenL.cons; exact Ren.clo inferInstance
     apply RenL.cons; apply Ren.mp; exact CaR.old rfl; exact RenL.nil; apply ABs.cons; exact rfl; exact rfl; exact rfl; exact RenL.clo; exact ABs.nil; dsimp only [List.cons_append, List.nil_append, List.append_nil]
     apply RenL.cons; apply Ren.agL; apply RenL.cons; apply Ren.pt; exact CaR.old rfl; exact RenL.nil; apply RenL.cons; exact Ren.clo inferInstance; apply RenL.cons
     exact Ren.clo inferInstance; apply RenL.cons; exact Ren.clo inferInstance; exact RenL.nil; apply Ren.tpL; apply RenL.cons; apply Ren.sl; exact CaR.new 0 rfl rfl
     apply RenL.cons; exact Ren.clo inferInstance; exact RenL.nil; apply HRen.gone; exact CaR.old rfl; apply HRen.gone; exact CaR.old rfl; apply HRen.kept
     exact CaR.new 0 rfl rfl; exact RenL.clo; exact HRen.nil; exact lb rfl; dsimp only [reduceAdd, reduceMul, reduceSub, na, ca, nbk, nones, mc, ml]
     apply t0; exact s_extract rfl rfl; apply t0; exact s_extract rfl rfl; apply t0; exact s_assign rfl; apply t0; exact s_assign rfl; dsimp only [reduceAdd, reduceMul]
     exact dn; kernel_rfl; exact rfl; refine thn_n ?_; refine Gol.ret ?_)
    (apply RetA.mk [96] (by first | exact .inr rfl | exact .inl rfl); apply res_2 rfl; exact res_tmp rfl; exact res_tmp rfl; exact rfl; exact rfl; exact rfl
     apply OAs.kept; exact rfl; exact rfl; exact rfl; exact RenL.clo; exact OAs.nil; apply Ren.tpL; apply RenL.cons; apply Ren.sl; exact IdR.mk rfl; apply RenL.cons
     exact Ren.clo inferInstance; exact RenL.nil)
end
end Go.Proofs.YtneeclacmhhblaaGreat


/-
  The plain law of CoverBound: what the limits cover. Conditions as in the statement.
-/
namespace Go.Proofs.YtneeclacmhhblaaGreat
open Go.RowKit
theorem third_vals (q : Nat) (h1 : 1 ≤ q) (h7 : q ≤ 7) : (q = 1 ∧ thirdN q = 1) ∨ (q = 2 ∧ thirdN q = 1) ∨ (q = 3 ∧ thirdN q = 1) ∨ (q = 4 ∧ thirdN q = 2) ∨ (q = 5 ∧ thirdN q = 2) ∨ (q = 6 ∧ thirdN q = 2) ∨ (q = 7 ∧ thirdN q = 3) := by
  have : q = 1 ∨ q = 2 ∨ q = 3 ∨ q = 4 ∨ q = 5 ∨ q = 6 ∨ q = 7 := by omega
  rcases this with e | e | e | e | e | e | e <;> subst e <;> decide
theorem bound_few (n stake : Int) (h1 : 1 ≤ n) (h7 : n ≤ 7) (h0 : 0 ≤ stake) (ho : n - (thirdN n.toNat : Int) - 1 < 1) : limN n stake = 1125899906842624 := by
  have hv := third_vals n.toNat (by omega) (by omega)
  unfold limN
  rw [if_neg (by omega), if_pos (by omega)]
theorem bound_many (n stake : Int) (h1 : 1 ≤ n) (h7 : n ≤ 7) (h0 : 0 ≤ stake) (hm : stake ≤ 1099511627776) (ho : ¬ n - (thirdN n.toNat : Int) - 1 < 1) :
    0 ≤ limN n stake ∧ limN n stake ≤ 3298534883328 ∧ (n - (thirdN n.toNat : Int) - 1) * limN n stake ≤ (thirdN n.toNat : Int) * stake ∧ (thirdN n.toNat : Int) * stake < (n - (thirdN n.toNat : Int) - 1) * (limN n stake + 1) := by
  obtain ⟨s, rfl⟩ := Int.eq_ofNat_of_zero_le h0
  obtain ⟨q, rfl⟩ := Int.eq_ofNat_of_zero_le (a := n) (by omega)
  have e : (min (q : Int) 7).toNat = q := by omega
  unfold limN
  rw [e, Int.toNat_natCast, Int.toNat_natCast] at *
  have hs : min s 1125899906842624 = s := Nat.min_eq_left (by omega)
  rw [hs]
  have hv := third_vals q (by omega) (by omega)
  rcases hv with ⟨rfl, ht⟩ | ⟨rfl, ht⟩ | ⟨rfl, ht⟩ | ⟨rfl, ht⟩ | ⟨rfl, ht⟩ | ⟨rfl, ht⟩ | ⟨rfl, ht⟩ <;> rw [ht] at ho ⊢ <;> first | omega | (rw [if_neg (by omega), if_neg (by omega)]; omega)
end Go.Proofs.YtneeclacmhhblaaGreat


/-
  The reference's voters and the book's masks of votes are the same. No condition.
-/
namespace Go.Proofs.YtneeclacmhhblaaGreat
open Go.RowKit
end Go.Proofs.YtneeclacmhhblaaGreat


/-
  The sanity checks of layers 26 and 27: what the books know of a genesis and one block above it. Conditions: the two are named unlike; the block's value is not zero.
-/
namespace Go.Proofs.YtneeclacmhhblaaGreat
open Go.RowKit
def n7 : UInt64 := 504403158265495552
def X7 (p : UInt64) (rc : List Rc) : It := ⟨n7, 3, 1, p, 0, 0, 15, ⟨[], [], [], [], 0⟩, 0, rc⟩
theorem it_two_g (G X : It) : itOf [G, X] G.n = some G := by simp [itOf, fnd, List.findIdx?_cons]
theorem it_two_x {G X : It} (h : G.n ≠ X.n) : itOf [G, X] X.n = some X := by simp [itOf, fnd, List.findIdx?_cons, h]
theorem validB_sg {X : It} {val : UInt64} {k s : Int} (hk : k = 5 ∨ k = 7) (hs : 0 ≤ s ∧ s ≤ 9) (hv : val ≠ 0) : validB (sgV k X val s) = true := by
  have h1 : decide (0 ≤ s ∧ s ≤ 9) = true := decide_eq_true hs
  have h2 : (val == 0) = false := by simpa using hv
  have h3 : decide (andNotI 0 1023 = 0) = true := by decide
  rcases hk with rfl | rfl
  · unfold validB kindB signB clashB tailB sgV
    dsimp only
    rw [h1, h2, h3]
    rfl
  · unfold validB kindB signB clashB tailB sgV
    dsimp only
    rw [h1, h2, h3]
    rfl
theorem vstep_sg {X : It} {val : UInt64} {k s : Int} (m : List (Ky × Int)) (hk : k = 5 ∨ k = 7) (hs : 0 ≤ s ∧ s ≤ 9) (hv : val ≠ 0) :
    vstep m (sgV k X val s) = aput m ⟨k, if k = 5 then X.p else X.n, val⟩ (orI ((alk m ⟨k, if k = 5 then X.p else X.n, val⟩).getD 0) (shlI 1 s.toNat)) := by
  unfold vstep
  rw [if_pos ⟨validB_sg hk hs hv, by unfold sgV; rcases hk with rfl | rfl; exact (by decide : (5 : Int) ≤ 5); exact (by decide : (5 : Int) ≤ 7)⟩]
  rfl
section
variable (S : List UInt8 → UInt64)
theorem stq_x {G : It} (rc : List Rc) (vs : List Vt) (h : G.n ≠ n7) (hc : G.cm = 15) : stqN S [G, X7 G.n rc] vs n7 = ⟨15, andI 15 (votN vs ⟨5, G.n, valN S (X7 G.n rc)⟩), andI 15 (votN vs ⟨7, n7, valN S (X7 G.n rc)⟩), false⟩ := by
  unfold stqN
  rw [show itOf [G, X7 G.n rc] n7 = some (X7 G.n rc) from it_two_x (X := X7 G.n rc) h]
  dsimp only
  have e : cmOf [G, X7 G.n rc] (X7 G.n rc) = 15 := by
    unfold cmOf
    rw [if_pos (show (X7 G.n rc).k = 3 from rfl), show (X7 G.n rc).p = G.n from rfl, it_two_g]
    exact hc
  unfold stuN
  rw [if_neg (show ¬ (X7 G.n rc).k = 1 by show ¬ (3 : Int) = 1; decide), e, if_pos (show (X7 G.n rc).k = 3 from rfl)]
  rfl
theorem vot_one {G : It} (rc : List Rc) {val : UInt64} (hv : val ≠ 0) : votN [sgV 5 (X7 G.n rc) val 1] ⟨5, G.n, val⟩ = 2 := by
  unfold votN votM
  rw [List.foldl_cons, List.foldl_nil, vstep_sg _ (.inl rfl) (by decide) hv, alk_aput, if_pos (show (5 : Int) = 5 from rfl), if_pos (show (⟨5, G.n, val⟩ : Ky) = ⟨5, (X7 G.n rc).p, val⟩ from rfl)]
  rw [Option.getD_some, show alk ([] : List (Ky × Int)) (⟨5, (X7 G.n rc).p, val⟩ : Ky) = none from rfl]
  decide
end
end Go.Proofs.YtneeclacmhhblaaGreat


/-
  The program logic: own blocks told anew, with their type and size by name. No condition.
-/
namespace Go.Proofs.YtneeclacmhhblaaGreat
open Go.RowKit
theorem Le.tell {M : Mod} {k : Nat} {H : AH} {T : AT} {B : Nat} {cells : List AV} (cs : List AV) (e : TypeId) (sz : Nat) (hB : hk H B = some ⟨cells, e, sz⟩) (hsz : Nat.blt 0 sz = true) (hw : WkL cells cs) : Le M k H T k ((B, some ⟨cs, e, sz⟩) :: H) T :=
  Le.cells (blkB := ⟨cells, e, sz⟩) cs hB hsz hw
theorem Le.giveT {M : Mod} {k : Nat} {H : AH} {T : AT} {B b n : Nat} {cells us : List AV} {blk : ABlk} (j : Nat) (cs : List AV) (e : TypeId) (sz : Nat) (hB : hk H B = some ⟨cells, e, sz⟩) (hj : cells[j]? = some (.sl b n)) (hb : hk H b = some blk) (hne : Nat.beq b B = false) (hsz : Nat.blt 0 sz = true) (hc : blk.cells = cs) (hw : WkL (cells.set j (.ex n false cs)) us) :
    Le M k H T k ((B, some ⟨us, e, sz⟩) :: (b, none) :: H) T := by
  have h1 := Le.giveSC (M := M) (k := k) (T := T) (blkB := ⟨cells, e, sz⟩) j hB hj hb hne hsz hc
  have h2 := Le.tell (M := M) (k := k) (T := T) (B := B) (H := (B, some ⟨cells.set j (.ex n false cs), e, sz⟩) :: (b, none) :: H) us e sz (by rw [hk_cons, if_pos rfl]) hsz hw
  intro m w0 a w hs
  obtain ⟨E, e1, e2, e3, e4, e5, e6⟩ := h2 m w0 a w (h1 m w0 a w hs)
  refine ⟨E, e1, ⟨e2.os, e2.tape, e2.output, e2.size, e2.frame, fun g' => ?_, fun b' blk' hb' => ?_, fun b1 b2 k1 k2 g' q1 q2 x1 x2 => ?_, e2.hid, e2.pin⟩, e3, e4, e5, e6⟩
  · rw [e2.seq g']
    have key : ∀ b', hk ((B, some ⟨us, e, sz⟩) :: (B, some ⟨cells.set j (.ex n false cs), e, sz⟩) :: (b, none) :: H) b' = hk ((B, some (⟨us, e, sz⟩ : ABlk)) :: (b, none) :: H) b' := fun b' => by
      rw [hk_cons, hk_cons B, hk_cons B]; split <;> simp_all
    simp only [key]
  · refine e2.own b' blk' ?_
    rw [hk_cons] at hb' ⊢
    split
    · rename_i h; rw [if_pos h] at hb'; exact hb'
    · rename_i h; rw [if_neg h] at hb'; rw [hk_cons, if_neg h]; exact hb'
  · have key : ∀ b', hk ((B, some ⟨us, e, sz⟩) :: (b, none) :: H) b' = hk ((B, some (⟨us, e, sz⟩ : ABlk)) :: (B, some ⟨cells.set j (.ex n false cs), e, sz⟩) :: (b, none) :: H) b' := fun b' => by
      rw [hk_cons, hk_cons B, hk_cons B]; split <;> simp_all
    rw [key] at q1 q2
    exact e2.inj b1 b2 k1 k2 g' q1 q2 x1 x2
end Go.Proofs.YtneeclacmhhblaaGreat


/-
  Worlds of the statements: items signed by a list in own memory. Conditions: at most 2^20 votes.
-/
namespace Go.Proofs.YtneeclacmhhblaaGreat
open Go.RowKit
open Nat (reduceAdd reduceMul reduceSub)

section
variable (S : List UInt8 → UInt64) (hS : HashF S)
include hS
set_option maxHeartbeats 3200000 in
theorem signO_ok (g1 g2 gu : Int) (a b c t l : AV) [Clo a] [Clo b] [Clo c] [Clo t] [Clo l] (vs : List Vt) (n : Nat) (x : It) (k : Int) (who : List Int) (hn : vs.length = n) (hb : n + who.length ≤ 1000000) (hs : Sm x.st) :
    Acts Tryz.prog 26 [wdB g1 g2 a b c t l n gu, ⟨vtsA vs, 87, 22⟩, ⟨inA who, 3, 1⟩] [.pt 0 0, .ag (itA x), .v (.int .i64 k), .sl 2 who.length] (.tp []) [some ⟨[.v (.int .i64 g1), .v (.int .i64 g2), a, b, c, .sl 3 (n + who.length), .v (.int .i64 gu), t, l], 57, 9⟩, none, none, some ⟨vtsA (vs ++ who.map (sgV k x (valN S x))), 87, 22⟩] := by
  have hv := refValue_ok S hS x hs
  refine Acts.of (fn := Tryz.f26) Tryz.func26 rfl (lb rfl) (lb rfl) fun w bl hid loc => ?_
  refine Gol.le (Le.give (i := 3) (b := 2) (cs := inA who) rfl rfl rfl rfl) ?_
  (apply Gol.sr; apply t1; exact s_box rfl rfl; dsimp only [reduceAdd, reduceMul]; exact dn; exact rfl; refine Gol.seq ?_; apply Gol.any
   kernel_rfl; apply t0; exact s_move rfl; apply t0; exact s_fieldAddr rfl; apply t0; exact s_loadN rfl rfl (lb rfl) (agu_nm8 rfl); apply t0
   exact s_loadW rfl rfl rfl (agu_cua _); apply tq; exact s_call (f := 11) rfl (evs.cons rfl evs.nil) (ArgL.cons arg_clo ArgL.nil) hv (lb rfl)
   dsimp only [reduceAdd, reduceMul, reduceSub, na, ca, nbk, mc, ml]; apply tq; apply s_bld; exact rfl; (focus (dsimp only [splB, cuB, spl, cu, Value.cells, nameC, List.map, List.take, List.drop, List.append, List.length, List.cons_append, List.nil_append, Nat.reduceAdd, List.take_succ_cons, List.take_zero, List.drop_succ_cons, List.drop_zero, List.take_nil, List.drop_nil, List.append_nil, List.length_cons, List.length_nil]; done))
   dsimp only [reduceAdd, reduceMul, reduceSub, na, ca, nbk, mc, ml]; apply t1; exact s_alloc
   apply n1; exact s_storeW rfl rfl rfl rfl rfl rfl; dsimp only [reduceAdd, reduceMul]; exact dn; kernel_rfl; exact rfl; refine thn_n ?_
   refine Gol.seq ?_; apply Gol.sr; apply t0; exact s_move rfl; apply t0; exact s_eq rfl rfl; dsimp only [reduceAdd, reduceMul]
   exact dn; exact rfl)
  refine Gol.cond rfl (fun h => ?_) (fun h => ?_)
  · have e : sgV k x (valN S x) = fun s => (⟨k, 0, 0, 1, s, 0, x.p, valN S x⟩ : Vt) := funext fun s => by unfold sgV; rw [if_pos (of_decide_eq_true h)]
    rw [e]
    clear e hv
    (apply Gol.region; apply t0; exact s_fieldAddr rfl; apply t0; exact s_loadN rfl rfl (lb rfl) (agu_nm8 rfl); apply t0
     exact s_fieldAddr rfl; apply n1; exact s_store rfl rfl rfl rfl rfl (lb rfl); dsimp only [reduceAdd, reduceMul]; exact dn; exact rfl
     refine thn_n ?_; apply Gol.sr; apply t0; exact s_assign rfl; dsimp only [reduceAdd, reduceMul]; exact dn; exact rfl; refine Gol.block ?_)
    generalize valN S x = val
    generalize x.p = par
    refine Gol.loop (ι := Nat × Int) (fun i => i.1 ≤ who.length) (fun i => who.length - i.1) 208
      (fun i => [(0, some ⟨[.v (.int .i64 g1), .v (.int .i64 g2), a, b, c, .sl 200 (n + i.1), .v (.int .i64 gu), t, l], 57, 9⟩), (200, some ⟨vtsA (vs ++ (who.take i.1).map fun s => (⟨k, 0, 0, 1, s, 0, par, val⟩ : Vt)), 87, 22⟩), (64, some ⟨vtA ⟨k, 0, 0, 1, i.2, 0, par, val⟩, 87, 22⟩)])
      (fun i => [(0, .pt 0 0), (3, .ex who.length false (inA who)), (8, .pt 64 0), (9, .v (.int .i64 (i.1 : Int)))]) (0, 0) (Nat.zero_le _) ?_ ?_
    · rw [show vs ++ List.map (fun s => (⟨k, 0, 0, 1, s, 0, par, val⟩ : Vt)) (List.take 0 who) = vs by simp]
      (apply Le.mk3' [(200, 1)]; apply RnT3.c; exact rfl; apply Rn3.r; exact Rn.pt rfl rfl; apply RnT3.c; exact rfl; apply Rn3.r; exact Rn.clo inferInstance rfl
       apply RnT3.c; exact rfl; apply Rn3.r; exact Rn.pt rfl rfl; apply RnT3.c; exact rfl; apply Rn3.r; exact Rn.v rfl; exact RnT3.n; apply RnH3.c; exact rfl
       exact rfl; apply RnC.l; apply Rn3L.cons; apply Rn3.r; exact Rn.v rfl; apply Rn3L.cons; apply Rn3.r; exact Rn.v rfl; apply Rn3L.cons; apply Rn3.r; exact Rn.clo inferInstance rfl
       apply Rn3L.cons; apply Rn3.r; exact Rn.clo inferInstance rfl; apply Rn3L.cons; apply Rn3.r; exact Rn.clo inferInstance rfl; apply Rn3L.cons; apply Rn3.r
       exact Rn.sl rfl rfl; apply Rn3L.cons; apply Rn3.r; exact Rn.v rfl; apply Rn3L.cons; apply Rn3.r; exact Rn.clo inferInstance rfl; apply Rn3L.cons; apply Rn3.r
       exact Rn.clo inferInstance rfl; exact Rn3L.nil; exact rfl; exact rfl; apply RnH3.c; exact rfl; exact rfl; apply RnC.cl; rfl; exact inferInstance; exact rfl
       exact rfl; apply RnH3.c; exact rfl; exact rfl; apply RnC.cl; rfl; exact inferInstance; exact rfl; exact rfl; exact RnH3.n; exact rfl; exact rfl)
    rintro ⟨i, s0⟩ hi
    dsimp only at hi ⊢
    (refine Gol.seq ?_; apply Gol.sr; apply t0; exact s_move rfl; apply t0; exact s_move rfl; apply t0; exact s_len rfl ln_ex; apply t0; exact s_ltn rfl rfl
     dsimp only [reduceAdd, reduceMul]; exact dn; exact rfl)
    refine Gol.cond rfl (fun h => ?_) (fun h => ?_)
    · have hlt : i < who.length := of_decide_eq_true h
      have hne : inA who ≠ [] := fun e => by have := inA_length who; rw [e] at this; simp at this; omega
      have hx : who[i]? = some (who.getD i 0) := by rw [List.getD_eq_getElem?_getD, List.getElem?_eq_getElem hlt]; rfl
      have hcall := vote_ok g1 g2 gu a b c t l (vs ++ (who.take i).map fun s => (⟨k, 0, 0, 1, s, 0, par, val⟩ : Vt)) ⟨k, 0, 0, 1, who.getD i 0, 0, par, val⟩ (n + i) (by simp; omega) (by omega)
      have e : (vs ++ (who.take i).map fun s => (⟨k, 0, 0, 1, s, 0, par, val⟩ : Vt)) ++ [⟨k, 0, 0, 1, who.getD i 0, 0, par, val⟩] = vs ++ (who.take (i + 1)).map fun s => (⟨k, 0, 0, 1, s, 0, par, val⟩ : Vt) := by
        rw [List.append_assoc, map_take hx]
      rw [e] at hcall
      (refine Gol.skip ?_; refine thn_n ?_; refine Gol.seq ?_; refine Gol.block ?_; apply Gol.sr
       apply t0; exact s_move rfl; apply t0; exact s_move rfl; apply t0; exact s_ixe rfl rfl (by omega) (by assumption); apply t0; exact s_loadE rfl (in_get0 (by assumption))
       apply t0; exact s_fieldAddr rfl; apply n1; exact s_store rfl rfl rfl rfl rfl (lb rfl); dsimp only [reduceAdd, reduceMul]; exact dn
       exact rfl; apply Gol.region; apply t0; exact s_move rfl; apply t0; exact s_loadW rfl rfl rfl (agu_cua _); dsimp only [reduceAdd, reduceMul, reduceSub, na, ca, nbk, mc, ml]
       apply tq; apply s_acts (f := 60) [0, 200] rfl inferInstance; exact hcall; apply evs.cons rfl
       apply evs.cons rfl; exact evs.nil; exact rfl; apply ABs.cons; exact rfl; exact rfl; exact rfl; apply RenL.cons; exact Ren.clo inferInstance; apply RenL.cons
       exact Ren.clo inferInstance; apply RenL.cons; exact Ren.clo inferInstance; apply RenL.cons; exact Ren.clo inferInstance; apply RenL.cons; exact Ren.clo inferInstance
       apply RenL.cons; apply Ren.sl; exact CaR.old rfl; apply RenL.cons; exact Ren.clo inferInstance; apply RenL.cons; exact Ren.clo inferInstance; apply RenL.cons
       exact Ren.clo inferInstance; exact RenL.nil; apply ABs.cons; exact rfl; exact rfl; exact rfl; exact RenL.clo; exact ABs.nil; dsimp only [List.cons_append, List.nil_append, List.append_nil]
       apply RenL.cons; apply Ren.pt; exact CaR.old rfl; apply RenL.cons; exact Ren.vag rfl; exact RenL.nil; exact Ren.clo inferInstance; apply HRen.kept; exact CaR.old rfl
       apply RenL.cons; exact Ren.clo inferInstance; apply RenL.cons; exact Ren.clo inferInstance; apply RenL.cons; exact Ren.clo inferInstance; apply RenL.cons
       exact Ren.clo inferInstance; apply RenL.cons; exact Ren.clo inferInstance; apply RenL.cons; apply Ren.sl; exact CaR.new 0 rfl rfl; apply RenL.cons; exact Ren.clo inferInstance
       apply RenL.cons; exact Ren.clo inferInstance; apply RenL.cons; exact Ren.clo inferInstance; exact RenL.nil; apply HRen.gone; exact CaR.old rfl; apply HRen.kept
       exact CaR.new 0 rfl rfl; exact RenL.clo; exact HRen.nil; exact lb rfl; dsimp only [reduceAdd, reduceMul, reduceSub, na, ca, nbk, nones, mc, ml]
       exact dn; exact rfl; refine inBlk_n ?_; refine thn_n ?_; apply Gol.region; apply t0; exact s_move rfl
       apply t0; exact s_addn rfl rfl (by simp <;> omega); apply t0; exact s_assign rfl; dsimp only [reduceAdd, reduceMul]; exact dn; exact rfl)
      refine rnd_n (i + 1, who.getD i 0) hlt (by show who.length - (i + 1) < who.length - i; omega) ?_
      (apply Le.mk3' [(200, 304)]; apply RnT3.c; exact rfl; apply Rn3.r; exact Rn.pt rfl rfl; apply RnT3.c; exact rfl; apply Rn3.r; exact Rn.clo inferInstance rfl
       apply RnT3.c; exact rfl; apply Rn3.r; exact Rn.pt rfl rfl; apply RnT3.c; exact rfl; apply Rn3.r; exact Rn.v rfl; exact RnT3.n; apply RnH3.c; exact rfl
       exact rfl; apply RnC.l; apply Rn3L.cons; apply Rn3.r; exact Rn.v rfl; apply Rn3L.cons; apply Rn3.r; exact Rn.v rfl; apply Rn3L.cons; apply Rn3.r; exact Rn.clo inferInstance rfl
       apply Rn3L.cons; apply Rn3.r; exact Rn.clo inferInstance rfl; apply Rn3L.cons; apply Rn3.r; exact Rn.clo inferInstance rfl; apply Rn3L.cons; apply Rn3.r
       exact Rn.sl rfl rfl; apply Rn3L.cons; apply Rn3.r; exact Rn.v rfl; apply Rn3L.cons; apply Rn3.r; exact Rn.clo inferInstance rfl; apply Rn3L.cons; apply Rn3.r
       exact Rn.clo inferInstance rfl; exact Rn3L.nil; exact rfl; exact rfl; apply RnH3.c; exact rfl; exact rfl; apply RnC.cl; rfl; exact inferInstance; exact rfl
       exact rfl; apply RnH3.c; exact rfl; exact rfl; apply RnC.cl; rfl; exact inferInstance; exact rfl; exact rfl; exact RnH3.n; exact rfl; exact rfl)
    · have hge : ¬ i < who.length := of_decide_eq_false h
      obtain rfl : i = who.length := by omega
      rw [List.take_length]
      (refine Gol.exit ?_; refine thn_x ?_; refine rnd_x ?_; refine inBlk_hit ?_)
      (apply RetA.mk [0, 1, 2, 200] (by first | exact .inr rfl | exact .inl rfl); exact res_0 rfl; exact rfl; exact rfl; exact rfl; apply OAs.kept; exact rfl
       exact rfl; exact rfl; apply RenL.cons; exact Ren.clo inferInstance; apply RenL.cons; exact Ren.clo inferInstance; apply RenL.cons; exact Ren.clo inferInstance
       apply RenL.cons; exact Ren.clo inferInstance; apply RenL.cons; exact Ren.clo inferInstance; apply RenL.cons; apply Ren.sl; exact IdR.mk rfl; apply RenL.cons
       exact Ren.clo inferInstance; apply RenL.cons; exact Ren.clo inferInstance; apply RenL.cons; exact Ren.clo inferInstance; exact RenL.nil; apply OAs.gone
       apply OAs.gone; apply OAs.kept; exact rfl; exact rfl; exact rfl; exact RenL.clo; exact OAs.nil; exact Ren.clo inferInstance)
  · have e : sgV k x (valN S x) = fun s => (⟨k, 0, 0, 1, s, 0, x.n, valN S x⟩ : Vt) := funext fun s => by unfold sgV; rw [if_neg (of_decide_eq_false h)]
    rw [e]
    clear e hv
    (refine Gol.skip ?_; refine thn_n ?_; apply Gol.sr; apply t0; exact s_assign rfl; dsimp only [reduceAdd, reduceMul]
     exact dn; exact rfl; refine Gol.block ?_)
    generalize valN S x = val
    generalize x.n = par
    refine Gol.loop (ι := Nat × Int) (fun i => i.1 ≤ who.length) (fun i => who.length - i.1) 208
      (fun i => [(0, some ⟨[.v (.int .i64 g1), .v (.int .i64 g2), a, b, c, .sl 200 (n + i.1), .v (.int .i64 gu), t, l], 57, 9⟩), (200, some ⟨vtsA (vs ++ (who.take i.1).map fun s => (⟨k, 0, 0, 1, s, 0, par, val⟩ : Vt)), 87, 22⟩), (64, some ⟨vtA ⟨k, 0, 0, 1, i.2, 0, par, val⟩, 87, 22⟩)])
      (fun i => [(0, .pt 0 0), (3, .ex who.length false (inA who)), (8, .pt 64 0), (9, .v (.int .i64 (i.1 : Int)))]) (0, 0) (Nat.zero_le _) ?_ ?_
    · rw [show vs ++ List.map (fun s => (⟨k, 0, 0, 1, s, 0, par, val⟩ : Vt)) (List.take 0 who) = vs by simp]
      (apply Le.mk3' [(200, 1)]; apply RnT3.c; exact rfl; apply Rn3.r; exact Rn.pt rfl rfl; apply RnT3.c; exact rfl; apply Rn3.r; exact Rn.clo inferInstance rfl
       apply RnT3.c; exact rfl; apply Rn3.r; exact Rn.pt rfl rfl; apply RnT3.c; exact rfl; apply Rn3.r; exact Rn.v rfl; exact RnT3.n; apply RnH3.c; exact rfl
       exact rfl; apply RnC.l; apply Rn3L.cons; apply Rn3.r; exact Rn.v rfl; apply Rn3L.cons; apply Rn3.r; exact Rn.v rfl; apply Rn3L.cons; apply Rn3.r; exact Rn.clo inferInstance rfl
       apply Rn3L.cons; apply Rn3.r; exact Rn.clo inferInstance rfl; apply Rn3L.cons; apply Rn3.r; exact Rn.clo inferInstance rfl; apply Rn3L.cons; apply Rn3.r
       exact Rn.sl rfl rfl; apply Rn3L.cons; apply Rn3.r; exact Rn.v rfl; apply Rn3L.cons; apply Rn3.r; exact Rn.clo inferInstance rfl; apply Rn3L.cons; apply Rn3.r
       exact Rn.clo inferInstance rfl; exact Rn3L.nil; exact rfl; exact rfl; apply RnH3.c; exact rfl; exact rfl; apply RnC.cl; rfl; exact inferInstance; exact rfl
       exact rfl; apply RnH3.c; exact rfl; exact rfl; apply RnC.cl; rfl; exact inferInstance; exact rfl; exact rfl; exact RnH3.n; exact rfl; exact rfl)
    rintro ⟨i, s0⟩ hi
    dsimp only at hi ⊢
    (refine Gol.seq ?_; apply Gol.sr; apply t0; exact s_move rfl; apply t0; exact s_move rfl; apply t0; exact s_len rfl ln_ex; apply t0; exact s_ltn rfl rfl
     dsimp only [reduceAdd, reduceMul]; exact dn; exact rfl)
    refine Gol.cond rfl (fun h => ?_) (fun h => ?_)
    · have hlt : i < who.length := of_decide_eq_true h
      have hne : inA who ≠ [] := fun e => by have := inA_length who; rw [e] at this; simp at this; omega
      have hx : who[i]? = some (who.getD i 0) := by rw [List.getD_eq_getElem?_getD, List.getElem?_eq_getElem hlt]; rfl
      have hcall := vote_ok g1 g2 gu a b c t l (vs ++ (who.take i).map fun s => (⟨k, 0, 0, 1, s, 0, par, val⟩ : Vt)) ⟨k, 0, 0, 1, who.getD i 0, 0, par, val⟩ (n + i) (by simp; omega) (by omega)
      have e : (vs ++ (who.take i).map fun s => (⟨k, 0, 0, 1, s, 0, par, val⟩ : Vt)) ++ [⟨k, 0, 0, 1, who.getD i 0, 0, par, val⟩] = vs ++ (who.take (i + 1)).map fun s => (⟨k, 0, 0, 1, s, 0, par, val⟩ : Vt) := by
        rw [List.append_assoc, map_take hx]
      rw [e] at hcall
      (refine Gol.skip ?_; refine thn_n ?_; refine Gol.seq ?_; refine Gol.block ?_; apply Gol.sr
       apply t0; exact s_move rfl; apply t0; exact s_move rfl; apply t0; exact s_ixe rfl rfl (by omega) (by assumption); apply t0; exact s_loadE rfl (in_get0 (by assumption))
       apply t0; exact s_fieldAddr rfl; apply n1; exact s_store rfl rfl rfl rfl rfl (lb rfl); dsimp only [reduceAdd, reduceMul]; exact dn
       exact rfl; apply Gol.region; apply t0; exact s_move rfl; apply t0; exact s_loadW rfl rfl rfl (agu_cua _); dsimp only [reduceAdd, reduceMul, reduceSub, na, ca, nbk, mc, ml]
       apply tq; apply s_acts (f := 60) [0, 200] rfl inferInstance; exact hcall; apply evs.cons rfl
       apply evs.cons rfl; exact evs.nil; exact rfl; apply ABs.cons; exact rfl; exact rfl; exact rfl; apply RenL.cons; exact Ren.clo inferInstance; apply RenL.cons
       exact Ren.clo inferInstance; apply RenL.cons; exact Ren.clo inferInstance; apply RenL.cons; exact Ren.clo inferInstance; apply RenL.cons; exact Ren.clo inferInstance
       apply RenL.cons; apply Ren.sl; exact CaR.old rfl; apply RenL.cons; exact Ren.clo inferInstance; apply RenL.cons; exact Ren.clo inferInstance; apply RenL.cons
       exact Ren.clo inferInstance; exact RenL.nil; apply ABs.cons; exact rfl; exact rfl; exact rfl; exact RenL.clo; exact ABs.nil; dsimp only [List.cons_append, List.nil_append, List.append_nil]
       apply RenL.cons; apply Ren.pt; exact CaR.old rfl; apply RenL.cons; exact Ren.vag rfl; exact RenL.nil; exact Ren.clo inferInstance; apply HRen.kept; exact CaR.old rfl
       apply RenL.cons; exact Ren.clo inferInstance; apply RenL.cons; exact Ren.clo inferInstance; apply RenL.cons; exact Ren.clo inferInstance; apply RenL.cons
       exact Ren.clo inferInstance; apply RenL.cons; exact Ren.clo inferInstance; apply RenL.cons; apply Ren.sl; exact CaR.new 0 rfl rfl; apply RenL.cons; exact Ren.clo inferInstance
       apply RenL.cons; exact Ren.clo inferInstance; apply RenL.cons; exact Ren.clo inferInstance; exact RenL.nil; apply HRen.gone; exact CaR.old rfl; apply HRen.kept
       exact CaR.new 0 rfl rfl; exact RenL.clo; exact HRen.nil; exact lb rfl; dsimp only [reduceAdd, reduceMul, reduceSub, na, ca, nbk, nones, mc, ml]
       exact dn; exact rfl; refine inBlk_n ?_; refine thn_n ?_; apply Gol.region; apply t0; exact s_move rfl
       apply t0; exact s_addn rfl rfl (by simp <;> omega); apply t0; exact s_assign rfl; dsimp only [reduceAdd, reduceMul]; exact dn; exact rfl)
      refine rnd_n (i + 1, who.getD i 0) hlt (by show who.length - (i + 1) < who.length - i; omega) ?_
      (apply Le.mk3' [(200, 304)]; apply RnT3.c; exact rfl; apply Rn3.r; exact Rn.pt rfl rfl; apply RnT3.c; exact rfl; apply Rn3.r; exact Rn.clo inferInstance rfl
       apply RnT3.c; exact rfl; apply Rn3.r; exact Rn.pt rfl rfl; apply RnT3.c; exact rfl; apply Rn3.r; exact Rn.v rfl; exact RnT3.n; apply RnH3.c; exact rfl
       exact rfl; apply RnC.l; apply Rn3L.cons; apply Rn3.r; exact Rn.v rfl; apply Rn3L.cons; apply Rn3.r; exact Rn.v rfl; apply Rn3L.cons; apply Rn3.r; exact Rn.clo inferInstance rfl
       apply Rn3L.cons; apply Rn3.r; exact Rn.clo inferInstance rfl; apply Rn3L.cons; apply Rn3.r; exact Rn.clo inferInstance rfl; apply Rn3L.cons; apply Rn3.r
       exact Rn.sl rfl rfl; apply Rn3L.cons; apply Rn3.r; exact Rn.v rfl; apply Rn3L.cons; apply Rn3.r; exact Rn.clo inferInstance rfl; apply Rn3L.cons; apply Rn3.r
       exact Rn.clo inferInstance rfl; exact Rn3L.nil; exact rfl; exact rfl; apply RnH3.c; exact rfl; exact rfl; apply RnC.cl; rfl; exact inferInstance; exact rfl
       exact rfl; apply RnH3.c; exact rfl; exact rfl; apply RnC.cl; rfl; exact inferInstance; exact rfl; exact rfl; exact RnH3.n; exact rfl; exact rfl)
    · have hge : ¬ i < who.length := of_decide_eq_false h
      obtain rfl : i = who.length := by omega
      rw [List.take_length]
      (refine Gol.exit ?_; refine thn_x ?_; refine rnd_x ?_; refine inBlk_hit ?_)
      (apply RetA.mk [0, 1, 2, 200] (by first | exact .inr rfl | exact .inl rfl); exact res_0 rfl; exact rfl; exact rfl; exact rfl; apply OAs.kept; exact rfl
       exact rfl; exact rfl; apply RenL.cons; exact Ren.clo inferInstance; apply RenL.cons; exact Ren.clo inferInstance; apply RenL.cons; exact Ren.clo inferInstance
       apply RenL.cons; exact Ren.clo inferInstance; apply RenL.cons; exact Ren.clo inferInstance; apply RenL.cons; apply Ren.sl; exact IdR.mk rfl; apply RenL.cons
       exact Ren.clo inferInstance; apply RenL.cons; exact Ren.clo inferInstance; apply RenL.cons; exact Ren.clo inferInstance; exact RenL.nil; apply OAs.gone
       apply OAs.gone; apply OAs.kept; exact rfl; exact rfl; exact rfl; exact RenL.clo; exact OAs.nil; exact Ren.clo inferInstance)
end
end Go.Proofs.YtneeclacmhhblaaGreat


/-
  Layer 27: the sanity check of the laws. Conditions: the genesis item is not named 7.
-/
namespace Go.Proofs.YtneeclacmhhblaaGreat
open Go.RowKit
open Nat (reduceAdd reduceMul reduceSub)

theorem gen0_vl (S : List UInt8 → UInt64) : (gen0 S 0).vs.length = 6 := listF_length _ _
theorem gen0_cm (S : List UInt8 → UInt64) : (genIt S (gen0 S 0)).cm = 15 := by
  show selF (gen0 S 0).n 0 (gen0 S 0).vs.length = 15
  rw [gen0_vl]
  show selF 4 0 6 = 15
  decide +kernel
theorem genSt_sm (g : Gen) (hg : GenOk g) : Sm (genSt g) := by
  have h1 := balL_len g.bl g.bl.length
  have h2 := stkL_len (balL g.bl g.bl.length) g.s g.vs.length
  have h3 := hg.v10
  have h4 := hg.a16
  have h5 := hg.b
  unfold genSt
  refine ⟨?_, ?_, ?_, ?_⟩
  · show (stkL (balL g.bl g.bl.length) g.s g.vs.length).length ≤ 100000
    omega
  · show (List.replicate g.ac.length (0 : Int)).length ≤ 100000
    rw [List.length_replicate]; omega
  · show ([] : List Lk).length ≤ 100000
    decide
  · show ([] : List UInt64).length ≤ 100000
    decide
theorem outN_27 : outN [⟨0, 0, 5, 0⟩, ⟨100, 0, 9, 0⟩] 0 = 5 := by decide
def rc27 : List Rc := [⟨0, 0, 5, 0⟩, ⟨100, 0, 9, 0⟩]
section
variable (S : List UInt8 → UInt64) {G : It} (hk : G.k = 1) (hc : G.cm = 15) (hn : G.n ≠ n7)
theorem has_1 : hasB 2 1 = true := by decide
theorem has_2 : hasB 2 2 = false := by decide
theorem has_15 : hasB 15 1 = true ∧ hasB 15 2 = true := by decide
def vt27 (G : It) (val : UInt64) : Vt := sgV 5 (X7 G.n rc27) val 1
include hn in
theorem it27_g : itOf [G, X7 G.n rc27] G.n = some G := it_two_g _ _
include hn in
theorem it27_x : itOf [G, X7 G.n rc27] n7 = some (X7 G.n rc27) := it_two_x (X := X7 G.n rc27) hn
include hc hn in
theorem stq27 (hv : valN S (X7 G.n rc27) ≠ 0) : (stqN S [G, X7 G.n rc27] [vt27 G (valN S (X7 G.n rc27))] n7).s = 2 := by
  rw [stq_x S rc27 _ hn hc]
  show andI 15 (votN [sgV 5 (X7 G.n rc27) (valN S (X7 G.n rc27)) 1] ⟨5, G.n, valN S (X7 G.n rc27)⟩) = 2
  rw [vot_one rc27 hv]
  decide
include hk hc hn in
theorem chain27 (hv : valN S (X7 G.n rc27) ≠ 0) : chainF S [G, X7 G.n rc27] [vt27 G (valN S (X7 G.n rc27))] G.n 1 = [n7] ∧ chainF S [G, X7 G.n rc27] [vt27 G (valN S (X7 G.n rc27))] G.n 2 = [] := by
  have hs := stq27 S hc hn hv
  generalize [vt27 G (valN S (X7 G.n rc27))] = vs at hs ⊢
  have g := it27_g (G := G) hn
  have x := it27_x (G := G) hn
  have pG : ∀ s out last, chP S [G, X7 G.n rc27] vs s out last G = false := fun s out last => by
    unfold chP
    rw [hk]
    rfl
  have pX1 : chP S [G, X7 G.n rc27] vs 1 [] G.n (X7 G.n rc27) = true := by
    unfold chP
    show (decide ((3 : Int) = 3) && (G.n == G.n) && !(([] : List UInt64).any fun y => n7 == y) && hasB (stqN S [G, X7 G.n rc27] vs n7).s 1) = true
    rw [hs, has_1]
    simp
  have pX2 : chP S [G, X7 G.n rc27] vs 2 [] G.n (X7 G.n rc27) = false := by
    unfold chP
    show (decide ((3 : Int) = 3) && (G.n == G.n) && !(([] : List UInt64).any fun y => n7 == y) && hasB (stqN S [G, X7 G.n rc27] vs n7).s 2) = false
    rw [hs, has_2]
    simp
  have pX3 : chP S [G, X7 G.n rc27] vs 1 [n7] n7 (X7 G.n rc27) = false := by
    unfold chP
    show (decide ((3 : Int) = 3) && (G.n == n7) && !([n7].any fun y => n7 == y) && hasB (stqN S [G, X7 G.n rc27] vs n7).s 1) = false
    simp
  have b : ∀ s out last, chB S [G, X7 G.n rc27] vs s out last 2 = if chP S [G, X7 G.n rc27] vs s out last (X7 G.n rc27) = true then some (X7 G.n rc27) else none := fun s out last => by
    unfold chB
    rw [show ([G, X7 G.n rc27] : List It).take 2 = [G, X7 G.n rc27] from rfl, List.foldl_cons, List.foldl_cons, List.foldl_nil, chOne_no S g (pG s out last)]
    have x' : itOf [G, X7 G.n rc27] (X7 G.n rc27).n = some (X7 G.n rc27) := x
    split
    · rename_i h; exact chOne_first S x' h
    · rename_i h; exact chOne_no S x' ((Bool.not_eq_true _).mp h)
  have c1 : hasB G.cm 1 = true := by rw [hc]; exact has_15.1
  have c2 : hasB G.cm 2 = true := by rw [hc]; exact has_15.2
  unfold chainF
  rw [g]
  dsimp only
  rw [if_pos c1, if_pos c2]
  constructor
  · show chN S [G, X7 G.n rc27] vs 1 G.cm 3 [] G = _
    rw [chN, if_pos rfl]
    show (match chB S [G, X7 G.n rc27] vs 1 [] G.n 2 with | none => [] | some y => chN S [G, X7 G.n rc27] vs 1 G.cm 2 ([] ++ [y.n]) y) = _
    rw [b, if_pos pX1]
    dsimp only
    rw [chN, if_pos (show (X7 G.n rc27).cm = G.cm by rw [hc]; rfl)]
    show (match chB S [G, X7 G.n rc27] vs 1 [n7] n7 2 with | none => [n7] | some y => chN S [G, X7 G.n rc27] vs 1 G.cm 1 ([n7] ++ [y.n]) y) = _
    rw [b, if_neg (by rw [pX3]; simp)]
  · show chN S [G, X7 G.n rc27] vs 2 G.cm 3 [] G = _
    rw [chN, if_pos rfl]
    show (match chB S [G, X7 G.n rc27] vs 2 [] G.n 2 with | none => [] | some y => chN S [G, X7 G.n rc27] vs 2 G.cm 2 ([] ++ [y.n]) y) = _
    rw [b, if_neg (by rw [pX2]; simp)]
include hk hc hn in
theorem row27 (hv : valN S (X7 G.n rc27) ≠ 0) : rowF S [G, X7 G.n rc27] [vt27 G (valN S (X7 G.n rc27))] G.n 1 n7 = some [n7] ∧ rowF S [G, X7 G.n rc27] [vt27 G (valN S (X7 G.n rc27))] G.n 2 n7 = none := by
  have hs := stq27 S hc hn hv
  generalize [vt27 G (valN S (X7 G.n rc27))] = vs at hs ⊢
  have g := it27_g (G := G) hn
  have x := it27_x (G := G) hn
  have c1 : hasB G.cm 1 = true := by rw [hc]; exact has_15.1
  have c2 : hasB G.cm 2 = true := by rw [hc]; exact has_15.2
  unfold rowF
  rw [g]
  dsimp only
  rw [if_pos c1, if_pos c2]
  constructor
  · show rwN S [G, X7 G.n rc27] vs G.n 1 G.cm 3 [] n7 = _
    rw [rwN, if_neg (by simp), x]
    dsimp only
    rw [hs, if_pos ⟨rfl, rfl, has_1, .inl rfl⟩]
    show rwN S [G, X7 G.n rc27] vs G.n 1 G.cm 2 [n7] G.n = _
    rw [rwN, if_pos ⟨by simp, rfl⟩]
  · show rwN S [G, X7 G.n rc27] vs G.n 2 G.cm 3 [] n7 = _
    rw [rwN, if_neg (by simp), x]
    dsimp only
    rw [hs, has_2, if_neg (fun h => by have := h.2.2.1; cases this)]
include hn in
theorem pf27 : pfN [G, X7 G.n rc27] 5 [n7] 0 0 = 1 ∧ pfN [G, X7 G.n rc27] 4 [n7] 0 0 = 0 := by
  have x := it27_x (G := G) hn
  have e : max (outN (X7 G.n rc27).rc 0) 0 = 5 := by
    show max (outN [⟨0, 0, 5, 0⟩, ⟨100, 0, 9, 0⟩] 0) 0 = 5
    rw [outN_27]; rfl
  constructor
  · rw [pfN, x]
    dsimp only
    rw [e, if_neg (by decide)]
    rfl
  · rw [pfN, x]
    dsimp only
    rw [e, if_pos (by decide)]
end
theorem wk_rc : WkL (cu (.ag [.v (.int .i64 0), .v (.slice none 0 0), .v (.int .i64 5), .v (.int .i64 0)]) ++ (cu (.ag [.v (.int .i64 100), .v (.slice none 0 0), .v (.int .i64 9), .v (.int .i64 0)]) ++ [])) (rcsA rc27) := by
  refine WkL.cons Wk.refl (WkL.cons Wk.nil (WkL.cons Wk.refl (WkL.cons Wk.refl (WkL.cons Wk.refl (WkL.cons Wk.nil (WkL.cons Wk.refl (WkL.cons Wk.refl WkL.nil)))))))
theorem nb_n7 : nb n7 7 = 7 ∧ nb n7 6 = 0 ∧ nb n7 5 = 0 ∧ nb n7 4 = 0 ∧ nb n7 3 = 0 ∧ nb n7 2 = 0 ∧ nb n7 1 = 0 ∧ nb n7 0 = 0 := by decide
theorem wk_x7 (p : UInt64) (rc : List Rc) (n : Nat) (hn : rc.length = n) : WkL [.v (.int .u8 7), .v (.int .u8 0), .v (.int .u8 0), .v (.int .u8 0), .v (.int .u8 0), .v (.int .u8 0), .v (.int .u8 0), .v (.int .u8 0), .v (.int .i64 3), .v (.int .i64 1), .v (.int .u8 ((nb p 7).toNat : Int)), .v (.int .u8 ((nb p 6).toNat : Int)), .v (.int .u8 ((nb p 5).toNat : Int)), .v (.int .u8 ((nb p 4).toNat : Int)), .v (.int .u8 ((nb p 3).toNat : Int)), .v (.int .u8 ((nb p 2).toNat : Int)), .v (.int .u8 ((nb p 1).toNat : Int)), .v (.int .u8 ((nb p 0).toNat : Int)), .v (.slice none 0 0), .v (.slice none 0 0), .v (.int .i64 15), .v (.slice none 0 0), .v (.slice none 0 0), .v (.slice none 0 0), .v (.slice none 0 0), .v (.int .i64 0), .v (.slice none 0 0), .ex n false (rcsA rc)] (itA (X7 p rc)) := by
  subst hn
  obtain ⟨h7, h6, h5, h4, h3, h2, h1, h0⟩ := nb_n7
  unfold itA X7
  dsimp only
  rw [h7, h6, h5, h4, h3, h2, h1, h0]
  repeat' (first | exact WkL.nil | refine WkL.cons (by first | exact Wk.refl | exact Wk.nil) ?_)
theorem its_two (G X : It) : cu (.ag (itA G)) ++ (cu (.ag (itA X)) ++ []) = itsA [G, X] := by
  rw [List.append_nil]
  show itA G ++ itA X = itsA [G, X]
  unfold itsA
  rw [fA_cons, fA_one]
section
variable (S : List UInt8 → UInt64) (hS : HashF S)
include hS
set_option maxHeartbeats 3200000 in
theorem awake27_ok (hne : S (genB (gen0 S 0)) ≠ n7) (hv : ∀ p, valN S (X7 p rc27) ≠ 0) : Fresh Tryz.prog 18 [] (fun _ => .v (.bool true)) [] := by
  have hg := genesis_ok S hS 0 (by decide)
  have hnew := new_ok S hS (gen0 S 0) (gen0_ok S 0)
  have hk : (genIt S (gen0 S 0)).k = 1 := rfl
  have hc : (genIt S (gen0 S 0)).cm = 15 := gen0_cm S
  have hn : (genIt S (gen0 S 0)).n ≠ n7 := hne
  have hsm : Sm (genIt S (gen0 S 0)).st := genSt_sm _ (gen0_ok S 0)
  have hrl : (genIt S (gen0 S 0)).rc.length = 0 := rfl
  generalize genIt S (gen0 S 0) = G at hk hc hn hsm hrl hnew
  generalize gen0 S 0 = g at hg hnew
  have hv := hv G.n
  have ec := chain27 S hk hc hn hv
  have er := row27 S hk hc hn hv
  have ep := pf27 (G := G) hn
  refine Fresh.of (fn := Tryz.f18) Tryz.func18 rfl (lb rfl) fun w => ?_
  (apply Gol.sr; apply t0; exact s_assign rfl; dsimp only [reduceAdd, reduceMul]; exact dn; exact rfl; apply Gol.sr; apply tq
   apply s_acts (f := 25) [] rfl inferInstance; exact hg; apply evs.cons rfl; apply evs.cons rfl; exact evs.nil; exact rfl
   exact ABs.nil; dsimp only [List.cons_append, List.nil_append, List.append_nil]; exact RenL.clo; exact Ren.clo inferInstance; exact HRen.nil; exact lb rfl
   dsimp only [reduceAdd, reduceMul, reduceSub, na, ca, nbk, nones, mc, ml]; apply tq; apply s_acts (f := 24) [] rfl inferInstance; exact hnew; apply evs.cons rfl; exact evs.nil; exact rfl
   exact ABs.nil; dsimp only [List.cons_append, List.nil_append, List.append_nil]; exact RenL.clo; apply Ren.pt; exact CaR.new 0 rfl rfl; apply HRen.kept
   exact CaR.new 0 rfl rfl; apply RenL.cons; exact Ren.clo inferInstance; apply RenL.cons; exact Ren.clo inferInstance; apply RenL.cons; exact Ren.clo inferInstance
   apply RenL.cons; exact Ren.clo inferInstance; apply RenL.cons; exact Ren.clo inferInstance; apply RenL.cons; apply Ren.sl; exact CaR.new 1 rfl rfl; apply RenL.cons
   exact Ren.clo inferInstance; apply RenL.cons; exact Ren.clo inferInstance; apply RenL.cons; exact Ren.clo inferInstance; exact RenL.nil; apply HRen.kept
   exact CaR.new 1 rfl rfl; exact RenL.clo; exact HRen.nil; exact lb rfl; dsimp only [reduceAdd, reduceMul, reduceSub, na, ca, nbk, nones, mc, ml]
   apply t0; exact s_assign rfl; dsimp only [reduceAdd, reduceMul]; exact dn; exact rfl; refine Gol.seq ?_; apply Gol.sr; apply t0
   exact s_move rfl; apply t0; exact s_nilCheck rfl rfl; apply t0; exact s_fieldAddr rfl; apply t0; exact s_load rfl rfl rfl; apply t0; exact s_len rfl ln_ex
   apply t0; exact s_nen rfl rfl; dsimp only [reduceAdd, reduceMul]; exact dn; exact rfl)
  have h0 : ([G] : List It)[0]? = some G := rfl
  have hnn : byA (flat [n7]) ≠ [] := List.cons_ne_nil _ _
  have hne : itsA [G] ≠ [] := its_ne (i := 0) (by simp)
  refine Gol.cond_f rfl rfl ?_
  (refine Gol.skip ?_; refine thn_n ?_; apply Gol.sr; apply tq; apply s_bld
   exact rfl; (focus (dsimp only [splB, cuB, spl, cu, Value.cells, nameC, List.map, List.take, List.drop, List.append, List.length, List.cons_append, List.nil_append, Nat.reduceAdd, List.take_succ_cons, List.take_zero, List.drop_succ_cons, List.drop_zero, List.take_nil, List.drop_nil, List.append_nil, List.length_cons, List.length_nil]; done))
   dsimp only [reduceAdd, reduceMul, reduceSub, na, ca, nbk, mc, ml]; apply t0; exact s_move rfl
   apply t0; exact s_nilCheck rfl rfl; apply t0; exact s_fieldAddr rfl; apply t0; exact s_load rfl rfl rfl; apply t0; exact s_ixeD rfl rfl (by decide) (by assumption) (its_at (by assumption))
   apply t0; exact s_fieldAddrE rfl; apply t0; exact s_loadEN rfl (lb rfl) (agu_nm8 rfl); dsimp only [reduceAdd, reduceMul, reduceSub, na, ca, nbk, mc, ml]
   apply tq; apply s_bld; exact rfl; (focus (dsimp only [splB, cuB, spl, cu, Value.cells, nameC, List.map, List.take, List.drop, List.append, List.length, List.cons_append, List.nil_append, Nat.reduceAdd, List.take_succ_cons, List.take_zero, List.drop_succ_cons, List.drop_zero, List.take_nil, List.drop_nil, List.append_nil, List.length_cons, List.length_nil]; done))
   dsimp only [reduceAdd, reduceMul, reduceSub, na, ca, nbk, mc, ml]; apply tq; apply s_bld; exact rfl; (focus (dsimp only [splB, cuB, spl, cu, Value.cells, nameC, List.map, List.take, List.drop, List.append, List.length, List.cons_append, List.nil_append, Nat.reduceAdd, List.take_succ_cons, List.take_zero, List.drop_succ_cons, List.drop_zero, List.take_nil, List.drop_nil, List.append_nil, List.length_cons, List.length_nil]; done))
   dsimp only [reduceAdd, reduceMul, reduceSub, na, ca, nbk, mc, ml]; apply t1; exact s_lit (PA.cons rfl rfl rfl (PA.cons rfl rfl rfl PA.nil)) rfl (by first | omega | exact lb rfl | decide | (simp <;> omega) | (dsimp <;> omega))
   dsimp only [reduceAdd, reduceMul, reduceSub, na, ca, nbk, mc, ml]; apply tq; apply s_bld; exact rfl; (focus (dsimp only [splB, cuB, spl, cu, Value.cells, nameC, List.map, List.take, List.drop, List.append, List.length, List.cons_append, List.nil_append, Nat.reduceAdd, List.take_succ_cons, List.take_zero, List.drop_succ_cons, List.drop_zero, List.take_nil, List.drop_nil, List.append_nil, List.length_cons, List.length_nil]; done))
   dsimp only [reduceAdd, reduceMul, reduceSub, na, ca, nbk, mc, ml]; apply t1; exact s_alloc
   apply n1; exact s_storeW rfl rfl rfl rfl rfl rfl; dsimp only [reduceAdd, reduceMul]; exact dn; exact rfl)
  refine Gol.le (Le.tell (B := 16) [.v (.int .i64 g.n), .v (.int .i64 g.s), .ex g.vs.length false (byA (flat g.vs)), .ex g.ac.length false (byA (flat g.ac)), .ex g.bl.length false (inA g.bl), .sl 17 0, .v (.int .i64 0), .ex 0 false [], .ex 1 false (itsA [G])] 57 9 rfl rfl WkL.same) ?_
  refine Gol.le (Le.tell (B := 160) (rcsA rc27) 73 4 rfl rfl wk_rc) ?_
  refine Gol.le (Le.giveT (B := 176) (b := 160) (us := itA (X7 G.n rc27)) 27 (rcsA rc27) 35 28 rfl rfl rfl rfl rfl rfl (wk_x7 G.n rc27 2 rfl)) ?_
  (refine Gol.seq ?_; apply Gol.any; kernel_rfl; apply t0; exact s_move rfl; apply t0; exact s_nilCheck rfl rfl; apply t0
   exact s_fieldAddr rfl; apply t0; exact s_load rfl rfl rfl; apply t0; exact s_ixeD rfl rfl (by decide) (by assumption) (its_at (by assumption)); apply t0
   exact s_loadEN rfl (lb rfl) agu_it; apply t0; exact s_loadW rfl rfl rfl (agu_cua _); apply t1; exact s_lit (PA.cons rfl rfl rfl (PA.cons rfl rfl rfl PA.nil)) rfl (by first | omega | exact lb rfl | decide | (simp <;> omega) | (dsimp <;> omega))
   apply t0; exact s_assign rfl; dsimp only [reduceAdd, reduceMul]; exact dn; kernel_rfl; exact rfl; refine thn_n ?_)
  refine Gol.le (Le.tell (B := 248) (itsA [G, X7 G.n rc27]) 35 28 rfl rfl (its_two G (X7 G.n rc27) ▸ WkL.same)) ?_
  have hsx : Sm (X7 G.n rc27).st := ⟨Nat.zero_le _, Nat.zero_le _, Nat.zero_le _, Nat.zero_le _⟩
  have hsg := signO_ok S hS g.n g.s 0 (.ex g.vs.length false (byA (flat g.vs))) (.ex g.ac.length false (byA (flat g.ac))) (.ex g.bl.length false (inA g.bl)) (.ex 0 false []) (.ex 1 false (itsA [G])) [] 0 (X7 G.n rc27) 5 [1] rfl (by decide) hsx
  (apply Gol.sr; apply t0; exact s_move rfl; apply t0; exact s_loadW rfl rfl rfl (agu_cua _); apply tq; exact s_bytesP (PV.cons rfl rfl rfl PV.nil) rfl (by omega)
   dsimp only [reduceAdd, reduceMul, reduceSub, na, ca, nbk, mc, ml]; apply tq; apply s_acts (f := 26) [16, 17, 280] rfl inferInstance; exact hsg; apply evs.cons rfl; apply evs.cons rfl
   apply evs.cons rfl; apply evs.cons rfl; exact evs.nil; exact rfl; apply ABs.cons; exact rfl; exact rfl; exact rfl; apply RenL.cons; exact Ren.clo inferInstance
   apply RenL.cons; exact Ren.clo inferInstance; apply RenL.cons; exact Ren.clo inferInstance; apply RenL.cons; exact Ren.clo inferInstance; apply RenL.cons
   exact Ren.clo inferInstance; apply RenL.cons; apply Ren.sl; exact CaR.old rfl; apply RenL.cons; exact Ren.clo inferInstance; apply RenL.cons; exact Ren.clo inferInstance
   apply RenL.cons; exact Ren.clo inferInstance; exact RenL.nil; apply ABs.cons; exact rfl; exact rfl; exact rfl; exact RenL.clo; apply ABs.cons; exact rfl
   exact rfl; exact rfl; exact RenL.clo; exact ABs.nil; dsimp only [List.cons_append, List.nil_append, List.append_nil]; apply RenL.cons; apply Ren.pt; exact CaR.old rfl
   apply RenL.cons; exact Ren.clo inferInstance; apply RenL.cons; exact Ren.clo inferInstance; apply RenL.cons; apply Ren.sl; exact CaR.old rfl; exact RenL.nil
   exact Ren.clo inferInstance; apply HRen.kept; exact CaR.old rfl; apply RenL.cons; exact Ren.clo inferInstance; apply RenL.cons; exact Ren.clo inferInstance
   apply RenL.cons; exact Ren.clo inferInstance; apply RenL.cons; exact Ren.clo inferInstance; apply RenL.cons; exact Ren.clo inferInstance; apply RenL.cons
   apply Ren.sl; exact CaR.new 0 rfl rfl; apply RenL.cons; exact Ren.clo inferInstance; apply RenL.cons; exact Ren.clo inferInstance; apply RenL.cons; exact Ren.clo inferInstance
   exact RenL.nil; apply HRen.gone; exact CaR.old rfl; apply HRen.gone; exact CaR.old rfl; apply HRen.kept; exact CaR.new 0 rfl rfl; exact RenL.clo; exact HRen.nil
   exact lb rfl; dsimp only [reduceAdd, reduceMul, reduceSub, na, ca, nbk, nones, mc, ml]
   exact dn; exact rfl)
  refine Gol.le (Le.giveT (B := 16) (b := 288) (us := [.v (.int .i64 g.n), .v (.int .i64 g.s), .ex g.vs.length false (byA (flat g.vs)), .ex g.ac.length false (byA (flat g.ac)), .ex g.bl.length false (inA g.bl), .ex 1 false (vtsA [vt27 G (valN S (X7 G.n rc27))]), .v (.int .i64 0), .ex 0 false [], .ex 1 false (itsA [G])]) 5 (vtsA [vt27 G (valN S (X7 G.n rc27))]) 57 9 rfl rfl rfl rfl rfl rfl WkL.same) ?_
  refine Gol.le (Le.give (i := 3) (b := 248) (n' := 2) (cs := itsA [G, X7 G.n rc27]) rfl rfl rfl rfl) ?_
  have hsmL : ∀ y ∈ [G, X7 G.n rc27], Sm y.st := fun y hy => by
    simp only [List.mem_cons, List.not_mem_nil, or_false] at hy
    rcases hy with rfl | rfl
    · exact hsm
    · exact hsx
  have hc1 : Acts Tryz.prog 50 [] [.ex 2 false (itsA [G, X7 G.n rc27]), .ex 1 false (vtsA [vt27 G (valN S (X7 G.n rc27))]), .v (.agg (nameC G.n)), .v (.int .i64 1)] (.sl 0 1) [some ⟨byA (flat [n7]), 23, 8⟩] := by
    have h := chain_ok S hS [G, X7 G.n rc27] [vt27 G (valN S (X7 G.n rc27))] false false G.n 1 (by simp) (by simp) hsmL
    rw [ec.1] at h
    exact h
  have hc2 : Acts Tryz.prog 50 [] [.ex 2 false (itsA [G, X7 G.n rc27]), .ex 1 false (vtsA [vt27 G (valN S (X7 G.n rc27))]), .v (.agg (nameC G.n)), .v (.int .i64 2)] (.sl 0 0) [some ⟨byA (flat []), 23, 8⟩] := by
    have h := chain_ok S hS [G, X7 G.n rc27] [vt27 G (valN S (X7 G.n rc27))] false false G.n 2 (by simp) (by simp) hsmL
    rw [ec.2] at h
    exact h
  have hr1 : Acts Tryz.prog 51 [] [.ex 2 false (itsA [G, X7 G.n rc27]), .ex 1 false (vtsA [vt27 G (valN S (X7 G.n rc27))]), .v (.agg (nameC G.n)), .v (.int .i64 1), .v (.agg (nameC n7))] (.tp [.sl 0 1, .v (.bool true)]) [some ⟨byA (flat [n7]), 23, 8⟩] := by
    have h := row_ok S hS [G, X7 G.n rc27] [vt27 G (valN S (X7 G.n rc27))] false false G.n 1 n7 (by simp) (by simp) hsmL
    rw [er.1] at h
    exact h
  have hr2 : Acts Tryz.prog 51 [] [.ex 2 false (itsA [G, X7 G.n rc27]), .ex 1 false (vtsA [vt27 G (valN S (X7 G.n rc27))]), .v (.agg (nameC G.n)), .v (.int .i64 2), .v (.agg (nameC n7))] (.tp [.v (.slice none 0 0), .v (.bool false)]) [] := by
    have h := row_ok S hS [G, X7 G.n rc27] [vt27 G (valN S (X7 G.n rc27))] false false G.n 2 n7 (by simp) (by simp) hsmL
    rw [er.2] at h
    exact h
  clear hsg hg hnew
  (refine Gol.seq ?_; apply Gol.any; kernel_rfl; apply t0; exact s_move rfl; apply t0; exact s_move rfl; apply t0; exact s_nilCheck rfl rfl
   apply t0; exact s_fieldAddr rfl; apply t0; exact s_fieldAddr rfl; apply t0; exact s_load rfl rfl rfl; apply t0; exact s_move rfl; apply t0; exact s_nilCheck rfl rfl
   apply t0; exact s_fieldAddr rfl; apply t0; exact s_load rfl rfl rfl; apply t0; exact s_ixeD rfl rfl (by decide) (by assumption) (its_at (by assumption))
   apply t0; exact s_fieldAddrE rfl; apply t0; exact s_loadEN rfl (lb rfl) (agu_nm8 rfl); dsimp only [reduceAdd, reduceMul, reduceSub, na, ca, nbk, mc, ml]
   apply tq; apply s_acts (f := 50) [] rfl inferInstance; exact hc1; apply evs.cons rfl; apply evs.cons rfl
   apply evs.cons rfl; apply evs.cons rfl; exact evs.nil; exact rfl; exact ABs.nil; dsimp only [List.cons_append, List.nil_append, List.append_nil]; exact RenL.clo
   apply Ren.sl; exact CaR.new 0 rfl rfl; apply HRen.kept; exact CaR.new 0 rfl rfl; exact RenL.clo; exact HRen.nil; exact lb rfl; dsimp only [reduceAdd, reduceMul, reduceSub, na, ca, nbk, nones, mc, ml]
   apply t0; exact s_assign rfl; dsimp only [reduceAdd, reduceMul]; exact dn; kernel_rfl; exact rfl; refine thn_n ?_)
  refine Gol.le (Le.give (i := 4) (b := 400) (n' := 1) (cs := byA (flat [n7])) rfl rfl rfl rfl) ?_
  (refine Gol.seq ?_; apply Gol.any; kernel_rfl; apply t0; exact s_move rfl; apply t0; exact s_move rfl; apply t0; exact s_nilCheck rfl rfl
   apply t0; exact s_fieldAddr rfl; apply t0; exact s_fieldAddr rfl; apply t0; exact s_load rfl rfl rfl; apply t0; exact s_move rfl; apply t0; exact s_nilCheck rfl rfl
   apply t0; exact s_fieldAddr rfl; apply t0; exact s_load rfl rfl rfl; apply t0; exact s_ixeD rfl rfl (by decide) (by assumption) (its_at (by assumption))
   apply t0; exact s_fieldAddrE rfl; apply t0; exact s_loadEN rfl (lb rfl) (agu_nm8 rfl); apply t0; exact s_fieldAddr rfl; apply t0; exact s_loadN rfl rfl (lb rfl) (agu_nm8 rfl)
   dsimp only [reduceAdd, reduceMul, reduceSub, na, ca, nbk, mc, ml]; apply tq; apply s_acts (f := 51) [] rfl inferInstance; exact hr1; apply evs.cons rfl; apply evs.cons rfl; apply evs.cons rfl
   apply evs.cons rfl; apply evs.cons rfl; exact evs.nil; exact rfl; exact ABs.nil; dsimp only [List.cons_append, List.nil_append, List.append_nil]; exact RenL.clo
   apply Ren.tpL; apply RenL.cons; apply Ren.sl; exact CaR.new 0 rfl rfl; apply RenL.cons; exact Ren.clo inferInstance; exact RenL.nil; apply HRen.kept; exact CaR.new 0 rfl rfl
   exact RenL.clo; exact HRen.nil; exact lb rfl; dsimp only [reduceAdd, reduceMul, reduceSub, na, ca, nbk, nones, mc, ml]
   apply t0; exact s_move rfl; apply t0; exact s_extract rfl rfl; apply t0; exact s_extract rfl rfl; apply t0; exact s_assign rfl; apply t0; exact s_assign rfl
   dsimp only [reduceAdd, reduceMul]; exact dn; kernel_rfl; exact rfl; refine thn_n ?_)
  (refine Gol.seq ?_; apply Gol.any; kernel_rfl; apply t0; exact s_move rfl; apply t0; exact s_move rfl; apply t0; exact s_nilCheck rfl rfl
   apply t0; exact s_fieldAddr rfl; apply t0; exact s_fieldAddr rfl; apply t0; exact s_load rfl rfl rfl; apply t0; exact s_move rfl; apply t0; exact s_nilCheck rfl rfl
   apply t0; exact s_fieldAddr rfl; apply t0; exact s_load rfl rfl rfl; apply t0; exact s_ixeD rfl rfl (by decide) (by assumption) (its_at (by assumption))
   apply t0; exact s_fieldAddrE rfl; apply t0; exact s_loadEN rfl (lb rfl) (agu_nm8 rfl); apply t0; exact s_fieldAddr rfl; apply t0; exact s_loadN rfl rfl (lb rfl) (agu_nm8 rfl)
   dsimp only [reduceAdd, reduceMul, reduceSub, na, ca, nbk, mc, ml]; apply tq; apply s_acts (f := 51) [] rfl inferInstance; exact hr2; apply evs.cons rfl; apply evs.cons rfl; apply evs.cons rfl
   apply evs.cons rfl; apply evs.cons rfl; exact evs.nil; exact rfl; exact ABs.nil; dsimp only [List.cons_append, List.nil_append, List.append_nil]; exact RenL.clo
   exact Ren.clo inferInstance; exact HRen.nil; exact lb rfl; dsimp only [reduceAdd, reduceMul, reduceSub, na, ca, nbk, nones, mc, ml]
   apply t0; exact s_move rfl; apply t0; exact s_extract rfl rfl; apply t0; exact s_extract rfl rfl; apply t0; exact s_assign rfl; apply t0; exact s_assign rfl
   dsimp only [reduceAdd, reduceMul]; exact dn; kernel_rfl; exact rfl; refine thn_n ?_)
  have l1 : Fresh Tryz.prog 21 [.v (.int .i64 4), .v (.int .i64 100)] (fun _ => .v (.int .i64 200)) [] := limit_ok 4 100 (by unfold okZ; omega) (by unfold okZ; omega)
  have l2 : Fresh Tryz.prog 21 [.v (.int .i64 7), .v (.int .i64 100)] (fun _ => .v (.int .i64 100)) [] := limit_ok 7 100 (by unfold okZ; omega) (by unfold okZ; omega)
  have l3 : Fresh Tryz.prog 21 [.v (.int .i64 1), .v (.int .i64 100)] (fun _ => .v (.int .i64 1125899906842624)) [] := limit_ok 1 100 (by unfold okZ; omega) (by unfold okZ; omega)
  have l4 : Fresh Tryz.prog 21 [.v (.int .i64 0), .v (.int .i64 100)] (fun _ => .v (.int .i64 0)) [] := limit_ok 0 100 (by unfold okZ; omega) (by unfold okZ; omega)
  have l5 : Fresh Tryz.prog 21 [.v (.int .i64 4), .v (.int .i64 (-1))] (fun _ => .v (.int .i64 0)) [] := limit_ok 4 (-1) (by unfold okZ; omega) (by unfold okZ; omega)
  have o1 : Fresh Tryz.prog 19 [.ag (itA (X7 G.n rc27))] (fun _ => .v (.int .i64 5)) [] := by
    have h := outflow_ok (X7 G.n rc27) (by show (2 : Nat) ≤ 100000000; decide)
    rw [show outN (X7 G.n rc27).rc 0 = 5 from outN_27] at h
    exact h
  have hrcL : ∀ y ∈ [G, X7 G.n rc27], y.rc.length ≤ 100000000 := fun y hy => by
    simp only [List.mem_cons, List.not_mem_nil, or_false] at hy
    rcases hy with rfl | rfl
    · omega
    · show (2 : Nat) ≤ 100000000; decide
  have p1 : Acts Tryz.prog 52 [] [.ex 2 false (itsA [G, X7 G.n rc27]), .ex 1 false (byA (flat [n7])), .v (.int .i64 5)] (.sl 0 1) [some ⟨byA (flat [n7]), 23, 8⟩] := by
    have h := prefix_ok [G, X7 G.n rc27] false [n7] false 5 (by simp) (by simp) (by decide) (by decide) hrcL
    rw [ep.1] at h
    exact h
  have p2 : Acts Tryz.prog 52 [] [.ex 2 false (itsA [G, X7 G.n rc27]), .ex 1 false (byA (flat [n7])), .v (.int .i64 4)] (.sl 0 0) [some ⟨byA (flat []), 23, 8⟩] := by
    have h := prefix_ok [G, X7 G.n rc27] false [n7] false 4 (by simp) (by simp) (by decide) (by decide) hrcL
    rw [ep.2] at h
    exact h
  (refine Gol.seq ?_; apply Gol.any; kernel_rfl; apply tq; exact s_call (f := 21) rfl (evs.cons rfl (evs.cons rfl evs.nil)) (ArgL.cons arg_clo (ArgL.cons arg_clo ArgL.nil)) l1 (lb rfl)
   dsimp only [reduceAdd, reduceMul, reduceSub, na, ca, nbk, mc, ml]; apply t0; exact s_eqn rfl rfl
   apply t0; exact s_move rfl; apply gq; exact wnt_g rfl rfl rfl rfl; exact s_call (f := 21) rfl (evs.cons rfl (evs.cons rfl evs.nil)) (ArgL.cons arg_clo (ArgL.cons arg_clo ArgL.nil)) l2 (lb rfl)
   dsimp only [reduceAdd, reduceMul, reduceSub, na, ca, nbk, mc, ml]; apply g0; exact wnt_g rfl rfl rfl rfl
   exact s_eqn rfl rfl; apply t0; exact s_pick_t rfl rfl rfl; apply t0; exact s_move rfl; apply gq; exact wnt_g rfl rfl rfl rfl; exact s_call (f := 21) rfl (evs.cons rfl (evs.cons rfl evs.nil)) (ArgL.cons arg_clo (ArgL.cons arg_clo ArgL.nil)) l3 (lb rfl)
   dsimp only [reduceAdd, reduceMul, reduceSub, na, ca, nbk, mc, ml]; apply g0; exact wnt_g rfl rfl rfl rfl
   exact s_eqn rfl rfl; apply t0; exact s_pick_t rfl rfl rfl; apply t0; exact s_move rfl; apply gq; exact wnt_g rfl rfl rfl rfl; exact s_call (f := 21) rfl (evs.cons rfl (evs.cons rfl evs.nil)) (ArgL.cons arg_clo (ArgL.cons arg_clo ArgL.nil)) l4 (lb rfl)
   dsimp only [reduceAdd, reduceMul, reduceSub, na, ca, nbk, mc, ml]; apply g0; exact wnt_g rfl rfl rfl rfl
   exact s_eqn rfl rfl; apply t0; exact s_pick_t rfl rfl rfl; apply t0; exact s_move rfl; apply gq; exact wnt_g rfl rfl rfl rfl; exact s_call (f := 21) rfl (evs.cons rfl (evs.cons rfl evs.nil)) (ArgL.cons arg_clo (ArgL.cons arg_clo ArgL.nil)) l5 (lb rfl)
   dsimp only [reduceAdd, reduceMul, reduceSub, na, ca, nbk, mc, ml]; apply g0; exact wnt_g rfl rfl rfl rfl
   exact s_eqn rfl rfl; apply t0; exact s_pick_t rfl rfl rfl; apply t0; exact s_move rfl; apply g0; exact wnt_g rfl rfl rfl rfl; exact s_loadW rfl rfl rfl (agu_cua _)
   apply gq; exact wnt_g rfl rfl rfl rfl; exact s_call (f := 19) rfl (evs.cons rfl evs.nil) (ArgL.cons arg_clo ArgL.nil) o1 (lb rfl)
   dsimp only [reduceAdd, reduceMul, reduceSub, na, ca, nbk, mc, ml]; apply g0; exact wnt_g rfl rfl rfl rfl
   exact s_eqn rfl rfl; apply t0; exact s_pick_t rfl rfl rfl; apply t0; exact s_move rfl; apply g0; exact wnt_g rfl rfl rfl rfl; exact s_move rfl; apply g0
   exact wnt_g rfl rfl rfl rfl; exact s_len rfl ln_ex; apply g0; exact wnt_g rfl rfl rfl rfl; exact s_eqn rfl rfl; apply t0; exact s_pick_t rfl rfl rfl; apply t0
   exact s_move rfl; apply g0; exact wnt_g rfl rfl rfl rfl; exact s_move rfl; apply g0; exact wnt_g rfl rfl rfl rfl; exact s_ixe rfl rfl (by decide) (by assumption)
   apply g0; exact wnt_g rfl rfl rfl rfl; exact s_loadEN rfl (by decide) (agu_nm8 rfl); apply g0; exact wnt_g rfl rfl rfl rfl; exact s_fieldAddr rfl; apply g0
   exact wnt_g rfl rfl rfl rfl; exact s_loadN rfl rfl (lb rfl) (agu_nm8 rfl); apply g0; exact wnt_g rfl rfl rfl rfl; exact s_eqN rfl rfl
   apply t0; exact s_pick_t rfl rfl rfl; apply t0; exact s_move rfl; apply g0; exact wnt_g rfl rfl rfl rfl; exact s_move rfl; apply g0; exact wnt_g rfl rfl rfl rfl
   exact s_move rfl; apply g0; exact wnt_g rfl rfl rfl rfl; exact s_nilCheck rfl rfl; apply g0; exact wnt_g rfl rfl rfl rfl; exact s_fieldAddr rfl; apply g0
   exact wnt_g rfl rfl rfl rfl; exact s_fieldAddr rfl; apply g0; exact wnt_g rfl rfl rfl rfl; exact s_load rfl rfl rfl; apply g0; exact wnt_g rfl rfl rfl rfl
   exact s_move rfl; apply g0; exact wnt_g rfl rfl rfl rfl; exact s_nilCheck rfl rfl; apply g0; exact wnt_g rfl rfl rfl rfl; exact s_fieldAddr rfl; apply g0
   exact wnt_g rfl rfl rfl rfl; exact s_load rfl rfl rfl; apply g0; exact wnt_g rfl rfl rfl rfl; exact s_ixeD rfl rfl (by decide) (by assumption) (its_at (by assumption))
   apply g0; exact wnt_g rfl rfl rfl rfl; exact s_fieldAddrE rfl; apply g0; exact wnt_g rfl rfl rfl rfl; exact s_loadEN rfl (lb rfl) (agu_nm8 rfl)
   dsimp only [reduceAdd, reduceMul, reduceSub, na, ca, nbk, mc, ml]; apply Trc.step rfl rfl
   apply wnt_g; exact rfl; exact rfl; exact rfl; rfl; apply s_acts (f := 50) [] rfl inferInstance; exact hc2; apply evs.cons rfl
   apply evs.cons rfl; apply evs.cons rfl; apply evs.cons rfl; exact evs.nil; exact rfl; exact ABs.nil; dsimp only [List.cons_append, List.nil_append, List.append_nil]
   exact RenL.clo; apply Ren.sl; exact CaR.new 0 rfl rfl; apply HRen.kept; exact CaR.new 0 rfl rfl; exact RenL.clo; exact HRen.nil; exact lb rfl
   dsimp only [reduceAdd, reduceMul, reduceSub, na, ca, nbk, nones, mc, ml]; apply g0; exact wnt_g rfl rfl rfl rfl
   exact s_len rfl ln_sl; apply g0; exact wnt_g rfl rfl rfl rfl; exact s_eqn rfl rfl; apply t0; exact s_pick_t rfl rfl rfl; apply t0; exact s_move rfl; apply g0
   exact wnt_g rfl rfl rfl rfl; exact s_move rfl; apply t0; exact s_pick_t rfl rfl rfl; apply t0; exact s_move rfl; apply g0; exact wnt_g rfl rfl rfl rfl
   exact s_move rfl; apply g0; exact wnt_g rfl rfl rfl rfl; exact s_len rfl ln_sl; apply g0; exact wnt_g rfl rfl rfl rfl; exact s_eqn rfl rfl; apply t0; exact s_pick_t rfl rfl rfl
   apply t0; exact s_move rfl; apply g0; exact wnt_g rfl rfl rfl rfl; exact s_move rfl; apply g0; exact wnt_g rfl rfl rfl rfl; exact s_not rfl; apply t0
   exact s_pick_t rfl rfl rfl; apply t0; exact s_move rfl; apply g0; exact wnt_g rfl rfl rfl rfl; exact s_move rfl; apply g0; exact wnt_g rfl rfl rfl rfl
   exact s_move rfl; dsimp only [reduceAdd, reduceMul, reduceSub, na, ca, nbk, mc, ml]; apply Trc.step rfl rfl
   apply wnt_g; exact rfl; exact rfl; exact rfl; rfl; apply s_acts (f := 52) [] rfl inferInstance; exact p1; apply evs.cons rfl
   apply evs.cons rfl; apply evs.cons rfl; exact evs.nil; exact rfl; exact ABs.nil; dsimp only [List.cons_append, List.nil_append, List.append_nil]; exact RenL.clo
   apply Ren.sl; exact CaR.new 0 rfl rfl; apply HRen.kept; exact CaR.new 0 rfl rfl; exact RenL.clo; exact HRen.nil; exact lb rfl; dsimp only [reduceAdd, reduceMul, reduceSub, na, ca, nbk, nones, mc, ml]
   apply g0; exact wnt_g rfl rfl rfl rfl; exact s_len rfl ln_sl; apply g0; exact wnt_g rfl rfl rfl rfl; exact s_eqn rfl rfl; apply t0; exact s_pick_t rfl rfl rfl
   apply t0; exact s_move rfl; apply g0; exact wnt_g rfl rfl rfl rfl; exact s_move rfl; apply g0; exact wnt_g rfl rfl rfl rfl; exact s_move rfl; dsimp only [reduceAdd, reduceMul, reduceSub, na, ca, nbk, mc, ml]
   apply Trc.step rfl rfl; apply wnt_g; exact rfl; exact rfl; exact rfl; rfl; apply s_acts (f := 52) [] rfl inferInstance; exact p2
   apply evs.cons rfl; apply evs.cons rfl; apply evs.cons rfl; exact evs.nil; exact rfl; exact ABs.nil; dsimp only [List.cons_append, List.nil_append, List.append_nil]
   exact RenL.clo; apply Ren.sl; exact CaR.new 0 rfl rfl; apply HRen.kept; exact CaR.new 0 rfl rfl; exact RenL.clo; exact HRen.nil; exact lb rfl
   dsimp only [reduceAdd, reduceMul, reduceSub, na, ca, nbk, nones, mc, ml]; apply g0; exact wnt_g rfl rfl rfl rfl
   exact s_len rfl ln_sl; apply g0; exact wnt_g rfl rfl rfl rfl; exact s_eqn rfl rfl; apply t0; exact s_pick_t rfl rfl rfl; apply t0; exact s_assign rfl
   dsimp only [reduceAdd, reduceMul]; exact dn; kernel_rfl; exact rfl; refine thn_n ?_; refine Gol.ret ?_)
  apply RetQ.bool
  · (apply RetQ.mk (by first | exact .inr rfl | exact .inl rfl); apply res_1 rfl; exact res_tmp rfl; exact out_val)
  · rfl
end
end Go.Proofs.YtneeclacmhhblaaGreat


/-
  The hash reckoned with numbers, for the kernel. No condition.
-/
namespace Go.Proofs.YtneeclacmhhblaaGreat
open Go.RowKit
def fc {α : Type} (n : Nat) (f : Nat → α) : α := match n with
  | 0 => f 0
  | m + 1 => f (m + 1)
theorem fc_eq {α : Type} (n : Nat) (f : Nat → α) : fc n f = f n := by cases n <;> rfl
def rotK (x a b : Nat) : Nat := Nat.lor (Nat.mod (Nat.mul x a) 18446744073709551616) (Nat.div x b)
def mixK {α : Type} (x y : Nat) (f : Nat → Nat → α) : α :=
  fc (Nat.mod (Nat.add x y) 18446744073709551616) fun a =>
  fc (Nat.xor (rotK y 8192 2251799813685248) a) fun y' =>
  fc (Nat.mod (Nat.mul (rotK a 4294967296 4294967296) 11400714819323198485) 18446744073709551616) fun x' => f x' y'
def absK {α : Type} : List Nat → Nat → Nat → (Nat → Nat → α) → α
  | [], x, y, f => f x y
  | w :: ws, x, y, f => mixK (Nat.xor x w) y fun x y => mixK x y fun x y => absK ws x y f
def finK (x y n : Nat) : Nat := mixK x (Nat.xor y n) fun x y => mixK x y fun x y => mixK x y fun x y => mixK x y fun x y => Nat.xor x y
def sumK (ws : List Nat) (n : Nat) : Nat := absK ws 2611923443488327891 1376283091369227076 fun x y => finK x y n
theorem rotK_13 (x : UInt64) : rotK x.toNat 8192 2251799813685248 = (rotl x 13).toNat := by
  have hx := x.toNat_lt
  have h1 : (shlU x 13).toNat = x.toNat * 8192 % 18446744073709551616 := by unfold shlU; rw [UInt64.toNat_ofNat']
  have h2 : (shrU x 51).toNat = x.toNat / 2251799813685248 := by
    unfold shrU; rw [UInt64.toNat_ofNat']; simp only [Nat.reducePow]; omega
  unfold rotl orU
  rw [UInt64.toNat_or, h1, h2]; rfl
theorem rotK_32 (x : UInt64) : rotK x.toNat 4294967296 4294967296 = (rotl x 32).toNat := by
  have hx := x.toNat_lt
  have h1 : (shlU x 32).toNat = x.toNat * 4294967296 % 18446744073709551616 := by unfold shlU; rw [UInt64.toNat_ofNat']
  have h2 : (shrU x 32).toNat = x.toNat / 4294967296 := by
    unfold shrU; rw [UInt64.toNat_ofNat']; simp only [Nat.reducePow]; omega
  unfold rotl orU
  rw [UInt64.toNat_or, h1, h2]; rfl
theorem mixK_eq {α : Type} (x y : UInt64) (f : Nat → Nat → α) : mixK x.toNat y.toNat f = f (mixU (x, y)).1.toNat (mixU (x, y)).2.toNat := by
  unfold mixK
  simp only [fc_eq]
  have ha : Nat.mod (Nat.add x.toNat y.toNat) 18446744073709551616 = (addU x y).toNat := by
    unfold addU; rw [UInt64.toNat_add]; rfl
  rw [ha, rotK_13, rotK_32]
  have h1 : Nat.mod (Nat.mul (rotl (addU x y) 32).toNat 11400714819323198485) 18446744073709551616 = (mixU (x, y)).1.toNat := by
    unfold mixU mulU factor; rw [UInt64.toNat_mul]; rfl
  have h2 : Nat.xor (rotl y 13).toNat (addU x y).toNat = (mixU (x, y)).2.toNat := by
    unfold mixU xorU; rw [UInt64.toNat_xor]; rfl
  rw [h1, h2]
def wstep (s : UInt64 × UInt64) (w : UInt64) : UInt64 × UInt64 := mixN 2 (xorU s.1 w, s.2)
theorem absK_eq {α : Type} : ∀ (ws : List UInt64) (s : UInt64 × UInt64) (f : Nat → Nat → α), absK (ws.map (·.toNat)) s.1.toNat s.2.toNat f = f (ws.foldl wstep s).1.toNat (ws.foldl wstep s).2.toNat
  | [], s, f => rfl
  | w :: ws, s, f => by
    simp only [List.map_cons, absK, List.foldl_cons]
    have hx : Nat.xor s.1.toNat w.toNat = (xorU s.1 w).toNat := by unfold xorU; rw [UInt64.toNat_xor]; rfl
    rw [hx, mixK_eq, mixK_eq]
    exact absK_eq ws (wstep s w) f
theorem sumTo_fold (bs : List UInt8) : ∀ k, sumTo bs k = ((List.range k).map fun j => wordOf (bs.drop (8 * j))).foldl wstep startS
  | 0 => rfl
  | k + 1 => by rw [List.range_succ, List.map_append, List.foldl_append, ← sumTo_fold bs k]; rfl
theorem finK_eq (x y : UInt64) (n : Nat) (hn : n < 18446744073709551616) : finK x.toNat y.toNat n = (xorU (mixN 4 (x, xorU y (lenU n))).1 (mixN 4 (x, xorU y (lenU n))).2).toNat := by
  unfold finK
  have hx : Nat.xor y.toNat n = (xorU y (lenU n)).toNat := by
    unfold xorU lenU; rw [UInt64.toNat_xor, UInt64.toNat_ofNat_of_lt' hn]; rfl
  rw [hx, mixK_eq, mixK_eq, mixK_eq, mixK_eq]
  unfold xorU
  rw [UInt64.toNat_xor]; rfl
theorem sumN_K (bs : List UInt8) (ws : List UInt64) (n : Nat) (hn : bs.length = n) (hlt : n < 18446744073709551616) (hw : ((List.range ((n + 7) / 8)).map fun j => wordOf (bs.drop (8 * j))) = ws) : (sumN bs).toNat = sumK (ws.map (·.toNat)) n := by
  subst hn
  unfold sumK
  have h := absK_eq ws startS fun x y => finK x y bs.length
  have e : startS.1.toNat = 2611923443488327891 ∧ startS.2.toNat = 1376283091369227076 := by decide
  rw [e.1, e.2] at h
  rw [h, finK_eq _ _ _ hlt]
  unfold sumN sumFin sumEnd
  rw [sumTo_fold, hw]
end Go.Proofs.YtneeclacmhhblaaGreat


/-
  The hash of one-time keys and trees reckoned with numbers, for the kernel: the public names of three accounts. No condition.
-/
namespace Go.Proofs.YtneeclacmhhblaaGreat
def hornK : Nat → List Nat → Nat → Nat
  | 0, _, a => a
  | k + 1, [], a => hornK k [] (Nat.mul a 256)
  | k + 1, c :: l, a => hornK k l (Nat.add (Nat.mul a 256) c)
def wordsK : Nat → List Nat → List Nat
  | 0, _ => []
  | k + 1, l => hornK 8 l 0 :: wordsK k (l.drop 8)
def hK (l : List Nat) (n : Nat) : Nat := sumK (wordsK (Nat.div (Nat.add n 7) 8) l) n
def beK (n : Nat) : List Nat := [Nat.mod (Nat.div n 72057594037927936) 256, Nat.mod (Nat.div n 281474976710656) 256, Nat.mod (Nat.div n 1099511627776) 256, Nat.mod (Nat.div n 4294967296) 256, Nat.mod (Nat.div n 16777216) 256, Nat.mod (Nat.div n 65536) 256, Nat.mod (Nat.div n 256) 256, Nat.mod n 256]
def flK : List Nat → List Nat
  | [] => []
  | n :: l => beK n ++ flK l
def stepK (v c p : Nat) : Nat := sumK [Nat.add 2377900603251621888 (Nat.div v 256), Nat.add (Nat.mul (Nat.mod v 256) 72057594037927936) (Nat.add (Nat.mul c 281474976710656) (Nat.mul p 1099511627776))] 11
def chK (v c : Nat) : Nat → Nat
  | 0 => v
  | k + 1 => fc (chK v c k) fun u => stepK u c k
def endK (s c : Nat) : Nat := fc (hK (32 :: (beK s ++ [c])) 10) fun v => chK v c 15
def lsK {α : Type} (f : Nat → Nat) : Nat → List Nat → (List Nat → α) → α
  | 0, acc, k => k acc
  | n + 1, acc, k => fc (f n) fun v => lsK f n (v :: acc) k
theorem lsK_eq {α : Type} (f : Nat → Nat) : ∀ (n : Nat) (acc : List Nat) (k : List Nat → α), lsK f n acc k = k ((List.range n).map f ++ acc)
  | 0, acc, k => rfl
  | n + 1, acc, k => by
    rw [lsK, fc_eq, lsK_eq f n, List.range_succ, List.map_append, List.append_assoc]; rfl
def oneK (s : Nat) : Nat := lsK (endK s) 18 [] fun l => hK (34 :: flK l) 145
def leK (s j : Nat) : Nat := fc (hK (48 :: (beK s ++ [1, 0, 0, j])) 13) oneK
def rtK : Nat → List Nat → Nat
  | 0, l => hK (17 :: beK (l.headD 0)) 9
  | d + 1, l => fc (rtK d (l.take (Nat.pow 2 d))) fun a => fc (rtK d (l.drop (Nat.pow 2 d))) fun b => hK (18 :: (beK a ++ beK b)) 17
def pubK (s : Nat) : Nat := lsK (leK s) 32 [] fun l => rtK 5 l
theorem pubK_0 : Nat.beq (pubK 144396663052566528) 7777661556218401820 = true := by decide +kernel
theorem pubK_1 : Nat.beq (pubK 144678138029277184) 3328988323590226759 = true := by decide +kernel
theorem pubK_2 : Nat.beq (pubK 144959613005987840) 7795977363967174611 = true := by decide +kernel
def gtxK : List Nat := [1, 4, 0, 0, 0, 0, 0, 60, 6, 3, 1, 0, 0, 0, 0, 0, 0, 3, 2, 0, 0, 0, 0, 0, 0, 3, 3, 0, 0, 0, 0, 0, 0, 3, 4, 0, 0, 0, 0, 0, 0, 3, 5, 0, 0, 0, 0, 0, 0, 3, 6, 0, 0, 0, 0, 0, 0, 3, 107, 239, 205, 250, 65, 156, 20, 28, 0, 0, 0, 0, 0, 100, 46, 50, 241, 62, 25, 4, 195, 71, 0, 0, 0, 0, 0, 50, 108, 48, 224, 27, 144, 63, 231, 211, 0, 0, 0, 0, 0, 0]
theorem gtxK_h : Nat.beq (hK gtxK 100) 7484118400017695999 = true := by decide +kernel
end Go.Proofs.YtneeclacmhhblaaGreat


/-
  The hash of one-time keys and trees: the numbers of the kernel are the program's. No condition.
-/
namespace Go.Proofs.YtneeclacmhhblaaGreat
open Go.RowKit
def tn (l : List UInt8) : List Nat := l.map (·.toNat)
theorem topB_first (b : Nat → UInt8) : ∀ k, topB b (k + 1) = (b 0).toNat * 256 ^ k + topB (fun i => b (i + 1)) k
  | 0 => by simp [topB]
  | k + 1 => by
    rw [topB, topB_first b k, topB, Nat.pow_succ, Nat.add_mul, Nat.mul_assoc, Nat.add_assoc]
theorem hornK_eq : ∀ (k : Nat) (l : List UInt8) (a : Nat), hornK k (tn l) a = a * 256 ^ k + topB (fun i => l.getD i 0) k
  | 0, l, a => by simp [hornK, topB]
  | k + 1, [], a => by
    have h := hornK_eq k [] (Nat.mul a 256)
    have e : hornK (k + 1) (tn []) a = hornK k (tn []) (Nat.mul a 256) := rfl
    rw [e, h, topB_first, Nat.pow_succ]
    show a * 256 * 256 ^ k + _ = _
    simp only [List.getD_nil]
    rw [Nat.mul_assoc, Nat.mul_comm 256]
    simp
  | k + 1, c :: l, a => by
    have h := hornK_eq k l (Nat.add (Nat.mul a 256) c.toNat)
    have e : hornK (k + 1) (tn (c :: l)) a = hornK k (tn l) (Nat.add (Nat.mul a 256) c.toNat) := rfl
    rw [e, h, topB_first, Nat.pow_succ]
    show (a * 256 + c.toNat) * 256 ^ k + _ = _
    simp only [List.getD_cons_zero, List.getD_cons_succ]
    rw [Nat.add_mul, Nat.mul_assoc, Nat.mul_comm 256, Nat.add_assoc]
theorem wordOf_K (l : List UInt8) : (wordOf l).toNat = hornK 8 (tn l) 0 := by rw [hornK_eq, wordOf, nameOf_topB, Nat.zero_mul, Nat.zero_add]
theorem wordsK_eq : ∀ (k : Nat) (l : List UInt8), ((List.range k).map fun j => wordOf (l.drop (8 * j))).map (·.toNat) = wordsK k (tn l)
  | 0, l => rfl
  | k + 1, l => by
    have ih := wordsK_eq k (l.drop 8)
    rw [List.range_succ_eq_map, List.map_cons, List.map_cons, Nat.mul_zero, List.drop_zero, wordOf_K, wordsK]
    refine List.cons_eq_cons.2 ⟨rfl, ?_⟩
    rw [show (tn l).drop 8 = tn (l.drop 8) by simp [tn], ← ih, List.map_map, List.map_map, List.map_map]
    refine List.map_congr_left fun j _ => ?_
    simp only [Function.comp, List.drop_drop, Nat.mul_succ, Nat.succ_eq_add_one, Nat.mul_add, Nat.add_comm]
theorem hK_eq (l : List UInt8) (n : Nat) (hn : l.length = n) (hlt : n < 18446744073709551616) : (sumN l).toNat = hK (tn l) n := by
  rw [sumN_K l _ n hn hlt rfl, wordsK_eq]; rfl
theorem nameB_K (x : UInt64) : tn (nameB x) = beK x.toNat := by
  simp only [tn, nameB, List.map_cons, List.map_nil, nb_lt, beK, Nat.reducePow, Nat.div_one]
  rfl
theorem tn_app (a b : List UInt8) : tn (a ++ b) = tn a ++ tn b := List.map_append
theorem flK_eq : ∀ l : List UInt64, tn (flat l) = flK (l.map (·.toNat))
  | [] => rfl
  | x :: l => by
    have : flat (x :: l) = nameB x ++ flat l := rfl
    rw [this, tn_app, nameB_K, flK_eq l]; rfl
theorem toU8_n (c : Nat) (h : c < 256) : (toU8 (c : Int)).toNat = c := by
  unfold toU8
  rw [UInt8.toNat_ofNat']
  omega
theorem stepK_eq (v : UInt64) (c p : Nat) (hc : c < 256) (hp : p < 256) : (sumN (0x21 :: (nameB v ++ [toU8 (c : Int), toU8 (p : Int)]))).toNat = stepK v.toNat c p := by
  rw [hK_eq _ 11 rfl (by decide)]
  have e : tn (0x21 :: (nameB v ++ [toU8 (c : Int), toU8 (p : Int)])) = 33 :: (beK v.toNat ++ [c, p]) := by
    show (33 : Nat) :: tn (nameB v ++ [toU8 (c : Int), toU8 (p : Int)]) = _
    rw [tn_app, nameB_K]
    simp only [tn, List.map_cons, List.map_nil, toU8_n c hc, toU8_n p hp]
  rw [e]
  have hv := v.toNat_lt
  generalize v.toNat = x at hv
  unfold hK stepK
  have h1 : wordsK (Nat.div (Nat.add 11 7) 8) (33 :: (beK x ++ [c, p])) = [Nat.add 2377900603251621888 (Nat.div x 256), Nat.add (Nat.mul (Nat.mod x 256) 72057594037927936) (Nat.add (Nat.mul c 281474976710656) (Nat.mul p 1099511627776))] := by
    show [((((((((0 * 256 + 33) * 256 + x / 72057594037927936 % 256) * 256 + x / 281474976710656 % 256) * 256 + x / 1099511627776 % 256) * 256 + x / 4294967296 % 256) * 256 + x / 16777216 % 256) * 256 + x / 65536 % 256) * 256 + x / 256 % 256), ((((((((0 * 256 + x % 256) * 256 + c) * 256 + p) * 256) * 256) * 256) * 256) * 256)] = [2377900603251621888 + x / 256, x % 256 * 72057594037927936 + (c * 281474976710656 + p * 1099511627776)]
    exact List.cons_eq_cons.2 ⟨by omega, List.cons_eq_cons.2 ⟨by omega, rfl⟩⟩
  rw [h1]
theorem chK_eq (v : UInt64) (c : Nat) (hc : c < 256) : ∀ k, k < 256 → (chainN sumN v c 0 k).toNat = chK v.toNat c k
  | 0, _ => rfl
  | k + 1, h => by
    rw [chainN, chK, fc_eq, ← chK_eq v c hc k (by omega), ← stepK_eq _ c k hc (by omega), Int.zero_add]
theorem endK_eq (s : UInt64) (c : Nat) (hc : c < 256) : (endN sumN s c).toNat = endK s.toNat c := by
  unfold endN endK
  rw [fc_eq, chK_eq _ c hc 15 (by decide), startN, hK_eq _ 10 rfl (by decide)]
  refine congrArg (fun u => chK u c 15) ?_
  show hK (32 :: tn (nameB s ++ [toU8 (c : Int)])) 10 = _
  rw [tn_app, nameB_K]
  simp only [tn, List.map_cons, List.map_nil, toU8_n c hc]
theorem listF_K (f : Nat → UInt64) (g : Nat → Nat) (n : Nat) (h : ∀ j, j < n → (f j).toNat = g j) : (listF f n).map (·.toNat) = (List.range n).map g := by
  unfold listF
  rw [List.map_map]
  exact List.map_congr_left fun j hj => h j (List.mem_range.1 hj)
theorem oneK_eq (s : UInt64) : (onePub sumN s).toNat = oneK s.toNat := by
  have hl : (flat (listF (endN sumN s) 18)).length = 144 := by rw [flat_length, listF_length]
  unfold onePub oneK
  rw [lsK_eq, hK_eq _ 145 (by rw [List.length_cons, hl]) (by decide), List.append_nil]
  refine congrArg (fun l => hK l 145) ?_
  show 34 :: tn (flat (listF (endN sumN s) 18)) = _
  rw [flK_eq, listF_K _ (endK s.toNat) 18 fun j hj => endK_eq s j (by omega)]
theorem leK_eq (s : UInt64) (j : Nat) (hj : j < 256) : (leafK sumN s j).toNat = leK s.toNat j := by
  unfold leafK leK
  rw [fc_eq, oneK_eq, keyN, hK_eq _ 13 rfl (by decide)]
  refine congrArg oneK ?_
  show hK (48 :: tn (nameB s ++ [1, 0, 0, toU8 (j : Int)])) 13 = _
  rw [tn_app, nameB_K]
  simp only [tn, List.map_cons, List.map_nil, toU8_n j hj]
  rfl
theorem split_2 : splitN 2 = 1 := by rw [splitN, spl2_end (by decide)]
theorem split_4 : splitN 4 = 2 := by rw [splitN, spl2_step (by decide) (by decide), spl2_end (by decide)]
theorem split_8 : splitN 8 = 4 := by rw [splitN, spl2_step (by decide) (by decide), spl2_step (by decide) (by decide), spl2_end (by decide)]
theorem split_16 : splitN 16 = 8 := by rw [splitN, spl2_step (by decide) (by decide), spl2_step (by decide) (by decide), spl2_step (by decide) (by decide), spl2_end (by decide)]
theorem split_32 : splitN 32 = 16 := by rw [splitN, spl2_step (by decide) (by decide), spl2_step (by decide) (by decide), spl2_step (by decide) (by decide), spl2_step (by decide) (by decide), spl2_end (by decide)]
theorem rtK_0 (l : List UInt64) (h : l.length = 1) : (rootN sumN l).toNat = rtK 0 (l.map (·.toNat)) := by
  match l, h with
  | [x], _ =>
    rw [rootN, dif_neg (by simp), if_pos (show [x].length = 1 from rfl), rtK, hK_eq _ 9 rfl (by decide)]
    refine congrArg (fun l => hK l 9) ?_
    show 17 :: tn (nameB x) = _
    rw [nameB_K]; rfl
theorem rtK_s (d : Nat) (hs : splitN (2 ^ (d + 1)) = 2 ^ d) (ih : ∀ l : List UInt64, l.length = 2 ^ d → (rootN sumN l).toNat = rtK d (l.map (·.toNat))) (l : List UInt64) (h : l.length = 2 ^ (d + 1)) : (rootN sumN l).toNat = rtK (d + 1) (l.map (·.toNat)) := by
  have hp : 0 < 2 ^ d := Nat.pow_pos (by decide)
  have h2 : 2 ^ (d + 1) = 2 ^ d + 2 ^ d := by rw [Nat.pow_succ]; omega
  rw [rootN, dif_pos (by omega), h, hs, rtK, fc_eq, fc_eq, hK_eq _ 17 rfl (by decide)]
  refine congrArg (fun l => hK l 17) ?_
  show 18 :: tn (nameB _ ++ nameB _) = _
  rw [tn_app, nameB_K, nameB_K, ih _ (by rw [List.length_take]; omega), ih _ (by rw [List.length_drop]; omega), List.map_take, List.map_drop]
  rfl
theorem pubK_eq (s : UInt64) : (pubN sumN s).toNat = pubK s.toNat := by
  have h5 := rtK_s 4 split_32 (rtK_s 3 split_16 (rtK_s 2 split_8 (rtK_s 1 split_4 (rtK_s 0 split_2 rtK_0))))
  unfold pubN pubK
  rw [lsK_eq, List.append_nil, h5 (treeN sumN s 32) (listF_length _ _)]
  refine congrArg (rtK 5) ?_
  exact listF_K _ (leK s.toNat) 32 fun j hj => leK_eq s j (by omega)
theorem pub_at (s p : UInt64) (h : Nat.beq (pubK s.toNat) p.toNat = true) : pubN sumN s = p := UInt64.toNat_inj.1 (by rw [pubK_eq]; exact Nat.eq_of_beq_eq_true h)
end Go.Proofs.YtneeclacmhhblaaGreat


/-
  The hash: the value of the block above the genesis is not zero, the genesis is not named as that block. No condition.
-/
namespace Go.Proofs.YtneeclacmhhblaaGreat
open Go.RowKit
def vxK : Nat := hK (87 :: (beK 504403158265495552 ++ beK (rtK 0 [hK [86, 0, 0] 3]))) 17
theorem vxK_h : Nat.beq vxK 0 = false := by decide +kernel
theorem leavesX (p : UInt64) (rc : List Rc) : leavesN sumN (X7 p rc).st = [leafG sumN 0] := rfl
theorem val_ne (p : UInt64) (rc : List Rc) : valN sumN (X7 p rc) ≠ 0 := by
  intro h
  have e : (valN sumN (X7 p rc)).toNat = vxK := by
    unfold valN
    rw [leavesX p rc]
    have h1 := rtK_0 [leafG sumN 0] rfl
    have h2 : (leafG sumN 0).toNat = hK [86, 0, 0] 3 := by
      rw [show leafG sumN 0 = sumN [86, 0, 0] from rfl, hK_eq _ 3 rfl (by decide)]; rfl
    rw [hK_eq _ 17 rfl (by decide)]
    unfold vxK
    refine congrArg (fun l => hK l 17) ?_
    show 87 :: tn (nameB (X7 p rc).n ++ nameB (rootN sumN [leafG sumN 0])) = _
    rw [tn_app, nameB_K, nameB_K, h1]
    rw [show List.map (fun x : UInt64 => x.toNat) [leafG sumN 0] = [hK [86, 0, 0] 3] by rw [← h2]; rfl]
    rfl
  rw [h] at e
  have := vxK_h
  rw [← e] at this
  exact absurd this (by decide)
theorem pub_0 : pubN sumN (accS 0) = 7777661556218401820 := pub_at _ _ pubK_0
theorem pub_1 : pubN sumN (accS 1) = 3328988323590226759 := pub_at _ _ pubK_1
theorem pub_2 : pubN sumN (accS 2) = 7795977363967174611 := pub_at _ _ pubK_2
theorem accs_eq : listF (fun i => pubN sumN (accS i)) 3 = [7777661556218401820, 3328988323590226759, 7795977363967174611] := by
  rw [show listF (fun i => pubN sumN (accS i)) 3 = [pubN sumN (accS 0), pubN sumN (accS 1), pubN sumN (accS 2)] from rfl, pub_0, pub_1, pub_2]
theorem genT_eq : tn (genB (gen0 sumN 0)) = gtxK := by
  unfold gen0
  rw [accs_eq]
  decide +kernel
theorem genT_len : (genB (gen0 sumN 0)).length = 100 := by
  have h := congrArg List.length genT_eq
  rw [show (tn (genB (gen0 sumN 0))).length = (genB (gen0 sumN 0)).length from List.length_map _] at h
  exact h
theorem gen_ne : sumN (genB (gen0 sumN 0)) ≠ n7 := by
  intro h
  have e : (sumN (genB (gen0 sumN 0))).toNat = 7484118400017695999 := by
    rw [hK_eq _ 100 genT_len (by decide), genT_eq]
    exact Nat.eq_of_beq_eq_true gtxK_h
  rw [h] at e
  exact absurd e (by decide)
end Go.Proofs.YtneeclacmhhblaaGreat


/-
  Layers 26 and 27: what heavy tells of items and votes. No condition.
-/
namespace Go.Proofs.YtneeclacmhhblaaGreat
open Go.RowKit
open Nat (reduceAdd reduceMul reduceSub)

def hv27 (x : It) : Nat := min x.hd 301 + min x.tp 301 + min x.rc.length 301 + min x.st.cells.length 301 + min x.st.seqs.length 301 + min x.st.locks.length 301 + min x.st.applied.length 301
def hvL (q : It → Nat) (t : Nat) : List It → Nat → Nat
  | [], n => n
  | x :: l, n => if n ≤ t then hvL q t l (n + q x) else n
theorem hvL_le {q : It → Nat} {t : Nat} : ∀ (l : List It) (n : Nat), hvL q t l n ≤ t → n ≤ t ∧ ∀ x ∈ l, q x ≤ t
  | [], n, h => ⟨h, fun x hx => by cases hx⟩
  | x :: l, n, h => by
    rw [hvL] at h
    split at h
    · rename_i hn
      obtain ⟨h1, h2⟩ := hvL_le l _ h
      refine ⟨hn, fun y hy => ?_⟩
      rcases List.mem_cons.1 hy with rfl | hy
      · omega
      · exact h2 y hy
    · omega
theorem hvL_step {q : It → Nat} {t : Nat} {l : List It} {i : Nat} {x : It} {n : Nat} (h : l[i]? = some x) (hn : n ≤ t) : hvL q t (l.drop i) n = hvL q t (l.drop (i + 1)) (n + q x) := by
  rw [drop_of h, hvL, if_pos hn]
theorem hvL_stop {q : It → Nat} {t : Nat} {l : List It} {n : Nat} (hn : ¬ n ≤ t) : hvL q t l n = n := by
  cases l with
  | nil => rfl
  | cons x l => rw [hvL, if_neg hn]
def heavy27 (l : List It) (vs : Nat) : Bool := decide (200 < hvL hv27 200 l l.length) || decide (300 < vs)
theorem heavy27_no {l : List It} {vs : Nat} (h : heavy27 l vs = false) : l.length ≤ 200 ∧ vs ≤ 300 ∧ ∀ x ∈ l, Sm x.st ∧ x.rc.length ≤ 200 := by
  unfold heavy27 at h
  rw [Bool.or_eq_false_iff] at h
  have h1 := of_decide_eq_false h.1
  have h2 := of_decide_eq_false h.2
  obtain ⟨h3, h4⟩ := hvL_le l l.length (Nat.not_lt.1 h1)
  refine ⟨h3, by omega, fun x hx => ?_⟩
  have := h4 x hx
  unfold hv27 at this
  exact ⟨⟨by omega, by omega, by omega, by omega⟩, by omega⟩
set_option maxHeartbeats 1600000 in
theorem heavy27_ok (l : List It) (f : Bool) (n : Nat) (cs : List AV) [CloL cs] (f2 : Bool) (hl : l.length ≤ 140737488351232) : Fresh Tryz.prog 17 [.ex l.length f (itsA l), .ex n f2 cs] (fun _ => .v (.bool (heavy27 l n))) [] := by
  unfold heavy27
  refine Fresh.of (fn := Tryz.f17) Tryz.func17 rfl (lb rfl) fun w => ?_
  (apply Gol.sr; apply t0; exact s_assign rfl; dsimp only [reduceAdd, reduceMul]; exact dn; exact rfl; apply Gol.sr; apply t0; exact s_move rfl; apply t0
   exact s_len rfl ln_ex; apply t0; exact s_assign rfl; dsimp only [reduceAdd, reduceMul]; exact dn; exact rfl; refine Gol.seq ?_
   apply Gol.sr; apply t0; exact s_assign rfl; dsimp only [reduceAdd, reduceMul]; exact dn; exact rfl; refine Gol.block ?_)
  refine Gol.loop (ι := Nat × Nat) (fun i => i.1 ≤ l.length ∧ i.2 ≤ l.length + 2507 ∧ hvL hv27 200 (l.drop i.1) i.2 = hvL hv27 200 l l.length) (fun i => l.length - i.1) 200 (fun _ => []) (fun i => [(0, .ex l.length f (itsA l)), (1, .ex n f2 cs), (5, .v (.int .i64 (i.2 : Int))), (6, .v (.int .i64 (i.1 : Int)))]) (0, l.length) ⟨Nat.zero_le _, by dsimp only; omega, rfl⟩ ?_ ?_
  · (apply Le.mk3' []; apply RnT3.c; exact rfl; apply Rn3.r; exact Rn.clo inferInstance rfl; apply RnT3.c; exact rfl; apply Rn3.r; exact Rn.clo inferInstance rfl
     apply RnT3.c; exact rfl; apply Rn3.r; exact Rn.v rfl; apply RnT3.c; exact rfl; apply Rn3.r; exact Rn.v rfl; exact RnT3.n; exact RnH3.n; exact rfl; exact rfl)
  rintro ⟨i, m⟩ ⟨hi, hm, he⟩
  dsimp only at hi hm he ⊢
  by_cases hlt : i < l.length
  · have d2 : decide (i < l.length) = true := decide_eq_true hlt
    have hx : l[i]? = some l[i] := List.getElem?_eq_getElem hlt
    generalize l[i] = x at hx
    (refine Gol.seq ?_; apply Gol.sr; apply t0; exact s_move rfl; apply t0; exact s_move rfl; apply t0; exact s_len rfl ln_ex; apply t0; exact s_ltn rfl rfl
     apply t0; exact s_move rfl; apply g0; exact wnt_g rfl rfl rfl (by focus (simp only [*]; rfl)); exact s_move rfl; apply g0; exact wnt_g rfl rfl rfl (by focus (simp only [*]; rfl))
     exact s_len' rfl rfl; apply t0; exact s_pick_t rfl (by assumption) rfl; dsimp only [reduceAdd, reduceMul]; exact dn; exact rfl)
    refine Gol.cond rfl (fun h => ?_) (fun h => ?_)
    · have hmt : m ≤ 200 := of_decide_eq_true h
      rw [hvL_step hx hmt] at he
      (refine Gol.skip ?_; refine thn_n ?_; refine Gol.seq ?_; refine Gol.block ?_; apply Gol.any
       kernel_rfl; apply t0; exact s_move rfl; apply t0; exact s_move rfl; apply t0; exact s_move rfl; apply t0; exact s_ixeD rfl rfl (by omega) (its_ne (by omega)) (its_at (by assumption))
       apply t0; exact s_fieldAddrE rfl; apply t0; exact s_loadE rfl rfl; apply t0; exact s_len rfl ln_ex; apply t0; exact s_minn rfl rfl; apply t0; exact s_addn rfl rfl (by first | omega | exact lb rfl | decide | (simp <;> omega) | (dsimp <;> omega))
       apply t0; exact s_move rfl; apply t0; exact s_move rfl; apply t0; exact s_ixeD rfl rfl (by omega) (its_ne (by omega)) (its_at (by assumption)); apply t0
       exact s_fieldAddrE rfl; apply t0; exact s_loadE rfl rfl; apply t0; exact s_len rfl ln_ex; apply t0; exact s_minn rfl rfl; apply t0; exact s_addn rfl rfl (by first | omega | exact lb rfl | decide | (simp <;> omega) | (dsimp <;> omega))
       apply t0; exact s_move rfl; apply t0; exact s_move rfl; apply t0; exact s_ixeD rfl rfl (by omega) (its_ne (by omega)) (its_at (by assumption)); apply t0
       exact s_fieldAddrE rfl; apply t0; exact s_loadE rfl rfl; apply t0; exact s_len rfl ln_ex; apply t0; exact s_minn rfl rfl; apply t0; exact s_addn rfl rfl (by first | omega | exact lb rfl | decide | (simp <;> omega) | (dsimp <;> omega))
       apply t0; exact s_move rfl; apply t0; exact s_move rfl; apply t0; exact s_ixeD rfl rfl (by omega) (its_ne (by omega)) (its_at (by assumption)); apply t0
       exact s_fieldAddrE rfl; apply t0; exact s_fieldAddrE rfl; apply t0; exact s_loadE rfl rfl; apply t0; exact s_len rfl ln_ex; apply t0; exact s_minn rfl rfl
       apply t0; exact s_addn rfl rfl (by first | omega | exact lb rfl | decide | (simp <;> omega) | (dsimp <;> omega)); apply t0; exact s_move rfl; apply t0; exact s_move rfl; apply t0; exact s_ixeD rfl rfl (by omega) (its_ne (by omega)) (its_at (by assumption))
       apply t0; exact s_fieldAddrE rfl; apply t0; exact s_fieldAddrE rfl; apply t0; exact s_loadE rfl rfl; apply t0; exact s_len rfl ln_ex; apply t0; exact s_minn rfl rfl
       apply t0; exact s_addn rfl rfl (by first | omega | exact lb rfl | decide | (simp <;> omega) | (dsimp <;> omega)); apply t0; exact s_move rfl; apply t0; exact s_move rfl; apply t0; exact s_ixeD rfl rfl (by omega) (its_ne (by omega)) (its_at (by assumption))
       apply t0; exact s_fieldAddrE rfl; apply t0; exact s_fieldAddrE rfl; apply t0; exact s_loadE rfl rfl; apply t0; exact s_len rfl ln_ex; apply t0; exact s_minn rfl rfl
       apply t0; exact s_addn rfl rfl (by first | omega | exact lb rfl | decide | (simp <;> omega) | (dsimp <;> omega)); apply t0; exact s_move rfl; apply t0; exact s_move rfl; apply t0; exact s_ixeD rfl rfl (by omega) (its_ne (by omega)) (its_at (by assumption))
       apply t0; exact s_fieldAddrE rfl; apply t0; exact s_fieldAddrE rfl; apply t0; exact s_loadE rfl rfl; apply t0; exact s_len rfl ln_ex; apply t0; exact s_minn rfl rfl
       apply t0; exact s_addn rfl rfl (by first | omega | exact lb rfl | decide | (simp <;> omega) | (dsimp <;> omega)); apply t0; exact s_assign rfl; dsimp only [reduceAdd, reduceMul]; exact dn; kernel_rfl; exact rfl; refine inBlk_n ?_
       refine thn_n ?_; apply Gol.region; apply t0; exact s_move rfl; apply t0; exact s_addn rfl rfl (by simp <;> omega); apply t0
       exact s_assign rfl; dsimp only [reduceAdd, reduceMul]; exact dn; exact rfl)
      refine rnd_n (i + 1, m + hv27 x) ⟨by dsimp only; omega, by dsimp only [hv27]; omega, he⟩ (by dsimp only; omega) ?_
      dsimp only [hv27]
      (apply Le.mk3' []; apply RnT3.c; exact rfl; apply Rn3.r; exact Rn.clo inferInstance rfl; apply RnT3.c; exact rfl; apply Rn3.r; exact Rn.clo inferInstance rfl
       apply RnT3.c; exact rfl; apply Rn3.r; apply Rn.v; congr 1; omega; apply RnT3.c; exact rfl; apply Rn3.r; exact Rn.v rfl; exact RnT3.n; exact RnH3.n; exact rfl
       exact rfl)
    · have hmt : ¬ m ≤ 200 := of_decide_eq_false h
      rw [hvL_stop hmt] at he
      rw [← he]
      have hgt : 200 < m := by omega
      clear h he
      rw [decide_eq_true hgt]
      (refine Gol.exit ?_; refine thn_x ?_; refine rnd_x ?_; refine inBlk_hit ?_; refine thn_n ?_
       apply Gol.sr; apply t0; exact s_move rfl; apply t0; exact s_gtn rfl rfl; apply t0; exact s_move rfl; apply sk; exact wnt_g rfl rfl rfl (by focus (simp only [*]; rfl))
       apply sk; exact wnt_g rfl rfl rfl (by focus (simp only [*]; rfl)); apply sk; exact wnt_g rfl rfl rfl (by focus (simp only [*]; rfl)); apply t0; exact s_pick_t rfl (by focus (simp only [*]; rfl)) rfl
       apply t0; exact s_assign rfl; dsimp only [reduceAdd, reduceMul]; exact dn; exact rfl; refine Gol.ret ?_)
      (apply RetQ.mk (by first | exact .inr rfl | exact .inl rfl); apply res_1 rfl; exact res_tmp rfl; exact out_val)
  · have d2 : decide (i < l.length) = false := decide_eq_false hlt
    have : l.drop i = [] := List.drop_eq_nil_of_le (by omega)
    rw [this] at he
    simp only [hvL] at he
    subst he
    (refine Gol.seq ?_; apply Gol.sr; apply t0; exact s_move rfl; apply t0; exact s_move rfl; apply t0; exact s_len rfl ln_ex; apply t0; exact s_ltn rfl rfl
     apply t0; exact s_move rfl; apply sk; exact wnt_g rfl rfl rfl (by focus (simp only [*]; rfl)); apply sk; exact wnt_g rfl rfl rfl (by focus (simp only [*]; rfl))
     apply t0; exact s_pick_f rfl (by assumption) rfl; dsimp only [reduceAdd, reduceMul]; exact dn; exact rfl)
    refine Gol.cond_f rfl rfl ?_
    by_cases h : 200 < hvL hv27 200 l l.length
    · rw [decide_eq_true h]
      (refine Gol.exit ?_; refine thn_x ?_; refine rnd_x ?_; refine inBlk_hit ?_; refine thn_n ?_
       apply Gol.sr; apply t0; exact s_move rfl; apply t0; exact s_gtn rfl rfl; apply t0; exact s_move rfl; apply sk; exact wnt_g rfl rfl rfl (by focus (simp only [*]; rfl))
       apply sk; exact wnt_g rfl rfl rfl (by focus (simp only [*]; rfl)); apply sk; exact wnt_g rfl rfl rfl (by focus (simp only [*]; rfl)); apply t0; exact s_pick_t rfl (by focus (simp only [*]; rfl)) rfl
       apply t0; exact s_assign rfl; dsimp only [reduceAdd, reduceMul]; exact dn; exact rfl; refine Gol.ret ?_)
      (apply RetQ.mk (by first | exact .inr rfl | exact .inl rfl); apply res_1 rfl; exact res_tmp rfl; exact out_val)
    · rw [decide_eq_false h]
      (refine Gol.exit ?_; refine thn_x ?_; refine rnd_x ?_; refine inBlk_hit ?_; refine thn_n ?_
       apply Gol.sr; apply t0; exact s_move rfl; apply t0; exact s_gtn rfl rfl; apply t0; exact s_move rfl; apply g0; exact wnt_g rfl rfl rfl (by focus (simp only [*]; rfl))
       exact s_move rfl; apply g0; exact wnt_g rfl rfl rfl (by focus (simp only [*]; rfl)); exact s_len rfl ln_ex; apply g0; exact wnt_g rfl rfl rfl (by focus (simp only [*]; rfl))
       exact s_gtn rfl rfl; apply t0; exact s_pick_f rfl (by focus (simp only [*]; rfl)) rfl; apply t0; exact s_assign rfl; dsimp only [reduceAdd, reduceMul]
       exact dn; exact rfl; refine Gol.ret ?_)
      (apply RetQ.mk (by first | exact .inr rfl | exact .inl rfl); apply res_1 rfl; exact res_tmp rfl; exact out_val)
end Go.Proofs.YtneeclacmhhblaaGreat

