/-
  Texts laid together: Vp, A0, Fn, Sc, Chn, Ch, Ch2, Rv, Rw, Rw2, Lb, Te, Sg, A27, Tf, Bs, Rs, Cm, A26, Kn, Hk, Hn, Vx, Rs2. Conditions: as told in each.
-/
import Derived.Test.YtneeclacmhhblaaGreatKR4
set_option linter.unusedSimpArgs false
set_option linter.unusedVariables false
set_option linter.unusedSectionVars false
namespace Go.Proofs.YtneeclacmhhblaaGreat
open Go.RowKit
def vtrS (m k : Int) (p v : UInt64) (a : Int) (x : Vt) : Int := if validB x = true ∧ x.kind = k ∧ x.parent = p ∧ x.value = v ∧ hasB m x.signer = true then orI a (bitN x.signer) else a
def vtrN (vs : List Vt) (m k : Int) (p v : UInt64) : Int := vs.foldl (vtrS m k p v) 0
theorem vtr_next {vs : List Vt} {i : Nat} {x : Vt} {m k : Int} {p v : UInt64} (h : vs[i]? = some x) : vtrN (vs.take (i + 1)) m k p v = vtrS m k p v (vtrN (vs.take i) m k p v) x := by
  obtain ⟨hl, e⟩ := List.getElem?_eq_some_iff.1 h
  rw [vtrN, List.take_succ_eq_append_getElem hl, List.foldl_append, e]; rfl
theorem bv_1023 : bv 1023 = 1023#64 := by decide
theorem bv_and (a b : Int) : bv (andI a b) = bv a &&& bv b := by rw [andI_bv, bv_int]
theorem bv_or (a b : Int) : bv (orI a b) = bv a ||| bv b := by rw [orI_bv, bv_int]
theorem bv_andNot (a b : Int) : bv (andNotI a b) = bv a &&& ~~~bv b := by rw [andNotI_bv, bv_int]
theorem bit_bv : ∀ n : Nat, n < 10 → bv (shlI 1 n) = BitVec.twoPow 64 n := by decide
theorem low_bit : ∀ n : Nat, n < 10 → (1023#64).getLsbD n = true := by decide
theorem has_bv (c : Int) (n : Nat) (hn : n < 10) : hasB (andI c 1023) (n : Int) = (bv c).getLsbD n := by
  obtain ⟨h0, h1⟩ := and_1023 c
  have e : bv (andI c 1023) = bv c &&& 1023#64 := by rw [bv_and, bv_1023]
  have e2 : (bv c).getLsbD n = (bv (andI c 1023)).getLsbD n := by rw [e, BitVec.getLsbD_and, low_bit n hn, Bool.and_true]
  rw [e2]
  generalize andI c 1023 = m at h0 h1
  obtain ⟨q, rfl⟩ := Int.eq_ofNat_of_zero_le h0
  have hq : q < 1024 := by omega
  unfold hasB
  rw [show decide (0 ≤ (n : Int) ∧ (n : Int) < 10) = true from decide_eq_true ⟨by omega, by omega⟩, Bool.true_and, Int.toNat_natCast]
  have hb : (bv (q : Int)) = BitVec.ofNat 64 q := by unfold bv; rw [BitVec.ofInt_natCast]
  have hs : shrI (q : Int) n = ((q / 2 ^ n : Nat) : Int) := by
    unfold shrI
    rw [Nat.min_eq_left (by omega), Int.fdiv_eq_ediv_of_nonneg _ (Int.le_of_lt (Int.pow_pos (by decide))), Int.natCast_ediv, Int.natCast_pow]
    rfl
  have hd : q / 2 ^ n < 1024 := Nat.lt_of_le_of_lt (Nat.div_le_self _ _) hq
  have ha : andI ((q / 2 ^ n : Nat) : Int) 1 = ((q / 2 ^ n % 2 : Nat) : Int) := by
    rw [andI_bv]
    have : bv ((q / 2 ^ n : Nat) : Int) = BitVec.ofNat 64 (q / 2 ^ n) := by unfold bv; rw [BitVec.ofInt_natCast]
    rw [this, show bv 1 = 1#64 by decide, BitVec.toInt_eq_toNat_of_msb]
    · rw [BitVec.toNat_and, BitVec.toNat_ofNat, Nat.mod_eq_of_lt (by omega), show (1#64).toNat = 1 from rfl, Nat.and_one_is_mod]
    · rw [BitVec.msb_eq_false_iff_two_mul_lt, BitVec.toNat_and]
      have : (1#64).toNat = 1 := rfl
      have := Nat.and_le_right (n := (BitVec.ofNat 64 (q / 2 ^ n)).toNat) (m := (1#64).toNat)
      omega
  rw [hs, ha, hb, BitVec.getLsbD_ofNat, Nat.testBit_eq_decide_div_mod_eq]
  have : decide (n < 64) = true := decide_eq_true (by omega)
  rw [this, Bool.true_and]
  by_cases h : q / 2 ^ n % 2 = 1
  · rw [h]; rfl
  · rw [decide_eq_false h, decide_eq_false (by omega)]
theorem vtr_step (c old : Int) (n : Nat) (hn : n < 10) : (if hasB (andI c 1023) (n : Int) = true then orI (andI c old) (shlI 1 n) else andI c old) = andI c (orI old (shlI 1 n)) := by
  have key : ∀ a b : Int, (∃ x : BitVec 64, a = x.toInt) → (∃ x : BitVec 64, b = x.toInt) → bv a = bv b → a = b := by
    rintro a b ⟨x, rfl⟩ ⟨y, rfl⟩ h
    rw [bv_int, bv_int] at h; rw [h]
  apply key
  · split
    · exact ⟨_, orI_bv _ _⟩
    · exact ⟨_, andI_bv _ _⟩
  · exact ⟨_, andI_bv _ _⟩
  rw [has_bv c n hn, bv_and, bv_or, BitVec.and_or_distrib_left, bit_bv n hn, BitVec.and_twoPow]
  split
  · rw [bv_or, bv_and, bit_bv n hn]
  · rw [bv_and, BitVec.or_zero]
theorem vtr_fold (c k : Int) (p v : UInt64) (hk : 5 ≤ k) : ∀ (vs : List Vt) (M : List (Ky × Int)) (a : Int), a = andI c ((alk M ⟨k, p, v⟩).getD 0) → vs.foldl (vtrS (andI c 1023) k p v) a = andI c ((alk (vs.foldl vstep M) ⟨k, p, v⟩).getD 0)
  | [], M, a, h => h
  | x :: vs, M, a, h => by
    rw [List.foldl_cons, List.foldl_cons]
    apply vtr_fold c k p v hk vs
    unfold vtrS vstep
    by_cases h1 : validB x = true ∧ 5 ≤ x.kind
    · rw [if_pos h1]
      obtain ⟨_, ⟨hs0, hs9⟩, _⟩ := (valid_iff x).1 h1.1
      obtain ⟨n, hn⟩ := Int.eq_ofNat_of_zero_le hs0
      have hn10 : n < 10 := by omega
      have hbit : bitN x.signer = shlI 1 n := by unfold bitN; rw [if_pos (by omega), hn, Int.toNat_natCast]
      by_cases h2 : (⟨k, p, v⟩ : Ky) = ⟨x.kind, x.parent, x.value⟩
      · have hr : ∀ W : Int, (alk (aput M ⟨x.kind, x.parent, x.value⟩ W) ⟨k, p, v⟩).getD 0 = W := fun W => by rw [alk_aput, if_pos h2, Option.getD_some]
        rw [hr, ← h2, hn, Int.toNat_natCast, ← vtr_step c _ n hn10, ← h]
        injection h2 with e1 e2 e3
        by_cases hh : hasB (andI c 1023) (n : Int) = true
        · rw [if_pos ⟨h1.1, e1.symm, e2.symm, e3.symm, hh⟩, if_pos hh, ← hn, hbit]
        · rw [if_neg (fun q => hh q.2.2.2.2), if_neg hh]
      · have hr : ∀ W : Int, (alk (aput M ⟨x.kind, x.parent, x.value⟩ W) ⟨k, p, v⟩).getD 0 = (alk M ⟨k, p, v⟩).getD 0 := fun W => by rw [alk_aput, if_neg h2]
        rw [hr, if_neg (fun q => h2 (by rw [q.2.1, q.2.2.1, q.2.2.2.1]))]
        exact h
    · rw [if_neg h1, if_neg (fun q => h1 ⟨q.1, by rw [q.2.1]; exact hk⟩)]
      exact h
theorem and_zero (c : Int) : andI c 0 = 0 := by
  rw [andI_bv, show bv 0 = 0#64 by decide, BitVec.and_zero]; rfl
theorem vtr_eq (vs : List Vt) (c k : Int) (p v : UInt64) (hk : 5 ≤ k) : vtrN vs (andI c 1023) k p v = andI c (votN vs ⟨k, p, v⟩) :=
  vtr_fold c k p v hk vs [] 0 (and_zero c).symm
theorem in1023 {m : Int} (h : bv m &&& ~~~(1023#64) = 0#64) (hx : ∃ x : BitVec 64, m = x.toInt) : andI m 1023 = m := by
  obtain ⟨x, rfl⟩ := hx
  rw [bv_int] at h
  rw [andI_bv, bv_int, bv_1023]
  congr 1
  have := BitVec.and_not_self (1023#64)
  have e : x = (x &&& 1023#64) ||| (x &&& ~~~(1023#64)) := by
    rw [← BitVec.and_or_distrib_left, BitVec.or_not_self]
    rw [BitVec.and_allOnes]
  rw [h, BitVec.or_zero] at e
  exact e.symm
theorem size_pos (m : Int) (h : andI m 1023 = m) : decide (0 < sizN m) = decide (m ≠ 0) ∧ decide (sizN m = 0) = decide (m = 0) := by
  obtain ⟨h1, h2⟩ := size_zero m
  rw [h] at h1
  constructor
  · rw [decide_eq_decide]
    constructor
    · intro hp he; have := h1.2 he; omega
    · intro hn
      have : sizN m ≠ 0 := fun e => hn (h1.1 e)
      omega
  · rw [decide_eq_decide]; exact h1
end Go.Proofs.YtneeclacmhhblaaGreat


namespace Go.Proofs.YtneeclacmhhblaaGreat
open Go.RowKit
def n7 : UInt64 := 504403158265495552
def X7 (p : UInt64) (rc : List Rc) : It := ⟨n7, 3, 1, p, 0, 0, 15, ⟨[], [], [], [], 0⟩, 0, rc⟩
theorem it_two_g (G X : It) : itOf [G, X] G.n = some G := by simp [itOf, fnd, List.findIdx?_cons]
theorem it_two_x {G X : It} (h : G.n ≠ X.n) : itOf [G, X] X.n = some X := by simp [itOf, fnd, List.findIdx?_cons, h]
theorem validB_sg {X : It} {val : UInt64} {k s : Int} (hk : k = 5 ∨ k = 7) (hs : 0 ≤ s ∧ s ≤ 9) (hv : val ≠ 0) : validB (sgV k X val s) = true := by
  have h1 : decide (0 ≤ s ∧ s ≤ 9) = true := decide_eq_true hs
  have h2 : (val == 0) = false := by simpa using hv
  have h3 : decide (andNotI 0 1023 = 0) = true := by decide
  rcases hk with rfl | rfl
  · unfold validB kindB signB clashB tailB sgV
    dsimp only
    rw [h1, h2, h3]
    rfl
  · unfold validB kindB signB clashB tailB sgV
    dsimp only
    rw [h1, h2, h3]
    rfl
theorem vstep_sg {X : It} {val : UInt64} {k s : Int} (m : List (Ky × Int)) (hk : k = 5 ∨ k = 7) (hs : 0 ≤ s ∧ s ≤ 9) (hv : val ≠ 0) :
    vstep m (sgV k X val s) = aput m ⟨k, if k = 5 then X.p else X.n, val⟩ (orI ((alk m ⟨k, if k = 5 then X.p else X.n, val⟩).getD 0) (shlI 1 s.toNat)) := by
  unfold vstep
  rw [if_pos ⟨validB_sg hk hs hv, by unfold sgV; rcases hk with rfl | rfl; exact (by decide : (5 : Int) ≤ 5); exact (by decide : (5 : Int) ≤ 7)⟩]
  rfl
section
variable (S : List UInt8 → UInt64)
theorem stq_x {G : It} (rc : List Rc) (vs : List Vt) (h : G.n ≠ n7) (hc : G.cm = 15) : stqN S [G, X7 G.n rc] vs n7 = ⟨15, andI 15 (votN vs ⟨5, G.n, valN S (X7 G.n rc)⟩), andI 15 (votN vs ⟨7, n7, valN S (X7 G.n rc)⟩), false⟩ := by
  unfold stqN
  rw [show itOf [G, X7 G.n rc] n7 = some (X7 G.n rc) from it_two_x (X := X7 G.n rc) h]
  dsimp only
  have e : cmOf [G, X7 G.n rc] (X7 G.n rc) = 15 := by
    unfold cmOf
    rw [if_pos (show (X7 G.n rc).k = 3 from rfl), show (X7 G.n rc).p = G.n from rfl, it_two_g]
    exact hc
  unfold stuN
  rw [if_neg (show ¬ (X7 G.n rc).k = 1 by show ¬ (3 : Int) = 1; decide), e, if_pos (show (X7 G.n rc).k = 3 from rfl)]
  rfl
end
end Go.Proofs.YtneeclacmhhblaaGreat


namespace Go.Proofs.YtneeclacmhhblaaGreat
open Go.RowKit
open Nat (reduceAdd reduceMul reduceSub)

end Go.Proofs.YtneeclacmhhblaaGreat


namespace Go.Proofs.YtneeclacmhhblaaGreat
open Go.RowKit

section
variable {P : Program} {n : Nat} {w0 : World} {M : Mod} {k : Nat} {H : AH} {T : AT} {Q : AQ}
end
end Go.Proofs.YtneeclacmhhblaaGreat


namespace Go.Proofs.YtneeclacmhhblaaGreat
open Go.RowKit
open Nat (reduceAdd reduceMul reduceSub)

section
variable (S : List UInt8 → UInt64) (hS : HashF S)
include hS
end
end Go.Proofs.YtneeclacmhhblaaGreat


namespace Go.Proofs.YtneeclacmhhblaaGreat
open Go.RowKit
open Nat (reduceAdd reduceMul reduceSub)

theorem cmpNm_ok (a b : UInt64) : Fresh Tryz.prog 116 [.v (.agg (nameC a)), .v (.agg (nameC b))] (fun _ => .v (.int .i64 (cmpN a b))) [] := by
  refine Fresh.of (fn := Tryz.f116) Tryz.func116 rfl (lb rfl) fun w => ?_
  (
 apply Gol.sr; apply t1; exact s_box rfl rfl; apply t1; exact s_box rfl rfl; apply t0; exact sA rfl; dsimp only [reduceAdd, reduceMul]; exact dn
 exact rfl; refine Gol.seq ?_; apply Gol.any; kernel_rfl; apply t0; exact s_loadW rfl rfl rfl (agu_cuv _); apply tq; exact s_call (f := 132) rfl (eC rfl eN) (aC aL aN) (number_f _) (lb rfl)
 dsimp only [reduceAdd, reduceMul, reduceSub, na, ca, nbk, mc, ml]; apply t0; exact s_loadW rfl rfl rfl (agu_cuv _)
 apply tq; exact s_call (f := 132) rfl (eC rfl eN) (aC aL aN) (number_f _) (lb rfl)
 dsimp only [reduceAdd, reduceMul, reduceSub, na, ca, nbk, mc, ml]; apply tq; exact s_call (f := 139) rfl (eC rfl (eC rfl eN)) (aC aL (aC aL aN)) (compareU_ok a b) (lb rfl)
 dsimp only [reduceAdd, reduceMul, reduceSub, na, ca, nbk, mc, ml]; apply t0; exact sA rfl
 dsimp only [reduceAdd, reduceMul]; exact dn; kernel_rfl; exact rfl; refine thn_n ?_; refine Gol.ret ?_)
  (apply RetQ.mk (by first | exact .inr rfl | exact .inl rfl); apply res_1 rfl; exact res_tmp rfl; exact out_val)
section
variable (S : List UInt8 → UInt64)
theorem itOf_some {l : List It} {i : Nat} {x : It} (h : l[i]? = some x) : ∃ y, itOf l x.n = some y ∧ y.n = x.n := by
  cases hf : itOf l x.n with
  | some y => obtain ⟨j, _, _, hn⟩ := fnd_some hf; exact ⟨y, rfl, hn⟩
  | none =>
    have h1 := fnd_none hf
    unfold fnd at h1
    rw [List.findIdx?_eq_none_iff] at h1
    have := h1 x (List.mem_of_getElem? h)
    simp at this
theorem wk_It0 : WkL (cu (.v (.agg #[.int .u8 0, .int .u8 0, .int .u8 0, .int .u8 0, .int .u8 0, .int .u8 0, .int .u8 0, .int .u8 0, .int .i64 0, .int .i64 0, .int .u8 0, .int .u8 0, .int .u8 0, .int .u8 0, .int .u8 0, .int .u8 0, .int .u8 0, .int .u8 0, .slice none 0 0, .slice none 0 0, .int .i64 0, .slice none 0 0, .slice none 0 0, .slice none 0 0, .slice none 0 0, .int .i64 0, .slice none 0 0, .slice none 0 0]))) (itA It0) := by
  have hz : ∀ k, ((nb 0 k).toNat : Int) = 0 := fun k => by simp [nb]
  unfold itA It0
  simp only [hz]
  show WkL [_, _, _, _, _, _, _, _, _, _, _, _, _, _, _, _, _, _, _, _, _, _, _, _, _, _, _, _] _
  repeat' (first | exact WkL.nil | refine WkL.cons (by first | exact Wk.refl | exact Wk.nil) ?_)
def nxC : Option It → List AV
  | none => itA It0
  | some b => itA b
instance (b : Option It) : CloL (nxC b) := by cases b <;> unfold nxC <;> infer_instance
theorem cmpN_lt {a b : UInt64} (h : a < b) : cmpN a b = -1 := by
  have : (a.toNat : Int) < (b.toNat : Int) := by have := UInt64.lt_iff_toNat_lt.1 h; omega
  unfold cmpN cmpI
  rw [if_pos this]
theorem cmpN_ge {a b : UInt64} (h : ¬ a < b) : ¬ cmpN a b < 0 := by
  have : ¬ (a.toNat : Int) < (b.toNat : Int) := fun h2 => h (UInt64.lt_iff_toNat_lt.2 (by omega))
  unfold cmpN cmpI
  rw [if_neg this]
  split <;> omega
variable (hS : HashF S)
include hS
end
end Go.Proofs.YtneeclacmhhblaaGreat


namespace Go.Proofs.YtneeclacmhhblaaGreat
open Go.RowKit
open Nat (reduceAdd reduceMul reduceSub)

section
variable (S : List UInt8 → UInt64) (hS : HashF S)
include hS
end
end Go.Proofs.YtneeclacmhhblaaGreat


namespace Go.Proofs.YtneeclacmhhblaaGreat
open Go.RowKit
open Nat (reduceAdd reduceMul reduceSub)

end Go.Proofs.YtneeclacmhhblaaGreat


namespace Go.Proofs.YtneeclacmhhblaaGreat
open Go.RowKit
open Nat (reduceAdd reduceMul reduceSub)

section
variable (S : List UInt8 → UInt64)
variable (hS : HashF S)
include hS
end
end Go.Proofs.YtneeclacmhhblaaGreat


namespace Go.Proofs.YtneeclacmhhblaaGreat
open Go.RowKit
open Nat (reduceAdd reduceMul reduceSub)

section
variable (S : List UInt8 → UInt64) (hS : HashF S)
include hS
end
end Go.Proofs.YtneeclacmhhblaaGreat


namespace Go.Proofs.YtneeclacmhhblaaGreat
open Go.RowKit
end Go.Proofs.YtneeclacmhhblaaGreat


namespace Go.Proofs.YtneeclacmhhblaaGreat
open Go.RowKit
theorem Le.tell {M : Mod} {k : Nat} {H : AH} {T : AT} {B : Nat} {cells : List AV} (cs : List AV) (e : TypeId) (sz : Nat) (hB : hk H B = some ⟨cells, e, sz⟩) (hsz : Nat.blt 0 sz = true) (hw : WkL cells cs) : Le M k H T k ((B, some ⟨cs, e, sz⟩) :: H) T :=
  Le.cells (blkB := ⟨cells, e, sz⟩) cs hB hsz hw
theorem Le.giveT {M : Mod} {k : Nat} {H : AH} {T : AT} {B b n : Nat} {cells us : List AV} {blk : ABlk} (j : Nat) (cs : List AV) (e : TypeId) (sz : Nat) (hB : hk H B = some ⟨cells, e, sz⟩) (hj : cells[j]? = some (.sl b n)) (hb : hk H b = some blk) (hne : Nat.beq b B = false) (hsz : Nat.blt 0 sz = true) (hc : blk.cells = cs) (hw : WkL (cells.set j (.ex n false cs)) us) :
    Le M k H T k ((B, some ⟨us, e, sz⟩) :: (b, none) :: H) T := by
  have h1 := Le.giveSC (M := M) (k := k) (T := T) (blkB := ⟨cells, e, sz⟩) j hB hj hb hne hsz hc
  have h2 := Le.tell (M := M) (k := k) (T := T) (B := B) (H := (B, some ⟨cells.set j (.ex n false cs), e, sz⟩) :: (b, none) :: H) us e sz (by rw [hk_cons, if_pos rfl]) hsz hw
  intro m w0 a w hs
  obtain ⟨E, e1, e2, e3, e4, e5, e6⟩ := h2 m w0 a w (h1 m w0 a w hs)
  refine ⟨E, e1, ⟨e2.os, e2.tape, e2.output, e2.size, e2.frame, fun g' => ?_, fun b' blk' hb' => ?_, fun b1 b2 k1 k2 g' q1 q2 x1 x2 => ?_, e2.hid, e2.pin⟩, e3, e4, e5, e6⟩
  · rw [e2.seq g']
    have key : ∀ b', hk ((B, some ⟨us, e, sz⟩) :: (B, some ⟨cells.set j (.ex n false cs), e, sz⟩) :: (b, none) :: H) b' = hk ((B, some (⟨us, e, sz⟩ : ABlk)) :: (b, none) :: H) b' := fun b' => by
      rw [hk_cons, hk_cons B, hk_cons B]; split <;> simp_all
    simp only [key]
  · refine e2.own b' blk' ?_
    rw [hk_cons] at hb' ⊢
    split
    · rename_i h; rw [if_pos h] at hb'; exact hb'
    · rename_i h; rw [if_neg h] at hb'; rw [hk_cons, if_neg h]; exact hb'
  · have key : ∀ b', hk ((B, some ⟨us, e, sz⟩) :: (b, none) :: H) b' = hk ((B, some (⟨us, e, sz⟩ : ABlk)) :: (B, some ⟨cells.set j (.ex n false cs), e, sz⟩) :: (b, none) :: H) b' := fun b' => by
      rw [hk_cons, hk_cons B, hk_cons B]; split <;> simp_all
    rw [key] at q1 q2
    exact e2.inj b1 b2 k1 k2 g' q1 q2 x1 x2
end Go.Proofs.YtneeclacmhhblaaGreat


namespace Go.Proofs.YtneeclacmhhblaaGreat
open Go.RowKit
open Nat (reduceAdd reduceMul reduceSub)

section
variable (S : List UInt8 → UInt64) (hS : HashF S)
include hS
set_option maxHeartbeats 3200000 in
theorem signO_ok (g1 g2 gu : Int) (a b c t l : AV) [Clo a] [Clo b] [Clo c] [Clo t] [Clo l] (vs : List Vt) (n : Nat) (x : It) (k : Int) (who : List Int) (hn : vs.length = n) (hb : n + who.length ≤ 1000000) (hs : Sm x.st) :
    Acts Tryz.prog 26 [wdB g1 g2 a b c t l n gu, ⟨vtsA vs, 87, 22⟩, ⟨inA who, 3, 1⟩] [.pt 0 0, .ag (itA x), .v (.int .i64 k), .sl 2 who.length] (.tp []) [some ⟨[.v (.int .i64 g1), .v (.int .i64 g2), a, b, c, .sl 3 (n + who.length), .v (.int .i64 gu), t, l], 57, 9⟩, none, none, some ⟨vtsA (vs ++ who.map (sgV k x (valN S x))), 87, 22⟩] := by
  have hv := refValue_ok S hS x hs
  refine Acts.of (fn := Tryz.f26) Tryz.func26 rfl (lb rfl) (lb rfl) fun w bl hid loc => ?_
  refine Gol.le (Le.give (i := 3) (b := 2) (cs := inA who) rfl rfl rfl rfl) ?_
  (
 apply Gol.sr; apply t1; exact s_box rfl rfl; dsimp only [reduceAdd, reduceMul]; exact dn; exact rfl; refine Gol.seq ?_; apply Gol.any
 kernel_rfl; apply t0; exact sM rfl; apply t0; exact sF rfl; apply t0; exact s_loadN rfl rfl (lb rfl) (agu_nm8 rfl); apply t0
 exact s_loadW rfl rfl rfl (agu_cua _); apply tq; exact s_call (f := 11) rfl (eC rfl eN) (aC aL aN) hv (lb rfl)
 dsimp only [reduceAdd, reduceMul, reduceSub, na, ca, nbk, mc, ml]; apply tq; apply s_bld; exact rfl; (focus (dsimp only [splB, cuB, spl, cu, Value.cells, nameC, List.map, List.take, List.drop, List.append, List.length, List.cons_append, List.nil_append, Nat.reduceAdd, List.take_succ_cons, List.take_zero, List.drop_succ_cons, List.drop_zero, List.take_nil, List.drop_nil, List.append_nil, List.length_cons, List.length_nil]; done))
 dsimp only [reduceAdd, reduceMul, reduceSub, na, ca, nbk, mc, ml]; apply t1; exact s_alloc
 apply n1; exact s_storeW rfl rfl rfl rfl rfl rfl; dsimp only [reduceAdd, reduceMul]; exact dn; kernel_rfl; exact rfl; refine thn_n ?_
 refine Gol.seq ?_; apply Gol.sr; apply t0; exact sM rfl; apply t0; exact s_eq rfl rfl; dsimp only [reduceAdd, reduceMul]
 exact dn; exact rfl)
  refine Gol.cond rfl (fun h => ?_) (fun h => ?_)
  · have e : sgV k x (valN S x) = fun s => (⟨k, 0, 0, 1, s, 0, x.p, valN S x⟩ : Vt) := funext fun s => by unfold sgV; rw [if_pos (of_decide_eq_true h)]
    rw [e]
    clear e hv
    (
 apply Gol.region; apply t0; exact sF rfl; apply t0; exact s_loadN rfl rfl (lb rfl) (agu_nm8 rfl); apply t0
 exact sF rfl; apply n1; exact s_store rfl rfl rfl rfl rfl (lb rfl); dsimp only [reduceAdd, reduceMul]; exact dn; exact rfl
 refine thn_n ?_; apply Gol.sr; apply t0; exact sA rfl; dsimp only [reduceAdd, reduceMul]; exact dn; exact rfl; refine Gol.block ?_)
    generalize valN S x = val
    generalize x.p = par
    refine Gol.loop (ι := Nat × Int) (fun i => i.1 ≤ who.length) (fun i => who.length - i.1) 208
      (fun i => [(0, some ⟨[.v (.int .i64 g1), .v (.int .i64 g2), a, b, c, .sl 200 (n + i.1), .v (.int .i64 gu), t, l], 57, 9⟩), (200, some ⟨vtsA (vs ++ (who.take i.1).map fun s => (⟨k, 0, 0, 1, s, 0, par, val⟩ : Vt)), 87, 22⟩), (64, some ⟨vtA ⟨k, 0, 0, 1, i.2, 0, par, val⟩, 87, 22⟩)])
      (fun i => [(0, .pt 0 0), (3, .ex who.length false (inA who)), (8, .pt 64 0), (9, .v (.int .i64 (i.1 : Int)))]) (0, 0) (Nat.zero_le _) ?_ ?_
    · rw [show vs ++ List.map (fun s => (⟨k, 0, 0, 1, s, 0, par, val⟩ : Vt)) (List.take 0 who) = vs by simp]
      (
 apply Le.mk3' [(200, 1)]; apply RnT3.c; exact rfl; apply Rn3.r; exact Rn.pt rfl rfl; apply RnT3.c; exact rfl; apply Rn3.r; exact Rn.clo inferInstance rfl
 apply RnT3.c; exact rfl; apply Rn3.r; exact Rn.pt rfl rfl; apply RnT3.c; exact rfl; apply Rn3.r; exact Rn.v rfl; exact RnT3.n; apply RnH3.c; exact rfl
 exact rfl; apply RnC.l; apply Rn3L.cons; apply Rn3.r; exact Rn.v rfl; apply Rn3L.cons; apply Rn3.r; exact Rn.v rfl; apply Rn3L.cons; apply Rn3.r; exact Rn.clo inferInstance rfl
 apply Rn3L.cons; apply Rn3.r; exact Rn.clo inferInstance rfl; apply Rn3L.cons; apply Rn3.r; exact Rn.clo inferInstance rfl; apply Rn3L.cons; apply Rn3.r
 exact Rn.sl rfl rfl; apply Rn3L.cons; apply Rn3.r; exact Rn.v rfl; apply Rn3L.cons; apply Rn3.r; exact Rn.clo inferInstance rfl; apply Rn3L.cons; apply Rn3.r
 exact Rn.clo inferInstance rfl; exact Rn3L.nil; exact rfl; exact rfl; apply RnH3.c; exact rfl; exact rfl; apply RnC.cl; rfl; exact inferInstance; exact rfl
 exact rfl; apply RnH3.c; exact rfl; exact rfl; apply RnC.cl; rfl; exact inferInstance; exact rfl; exact rfl; exact RnH3.n; exact rfl; exact rfl)
    rintro ⟨i, s0⟩ hi
    dsimp only at hi ⊢
    (
 refine Gol.seq ?_; apply Gol.sr; apply t0; exact sM rfl; apply t0; exact sM rfl; apply t0; exact s_len rfl ln_ex; apply t0; exact s_ltn rfl rfl
 dsimp only [reduceAdd, reduceMul]; exact dn; exact rfl)
    refine Gol.cond rfl (fun h => ?_) (fun h => ?_)
    · have hlt : i < who.length := of_decide_eq_true h
      have hne : inA who ≠ [] := fun e => by have := inA_length who; rw [e] at this; simp at this; omega
      have hx : who[i]? = some (who.getD i 0) := by rw [List.getD_eq_getElem?_getD, List.getElem?_eq_getElem hlt]; rfl
      have hcall := vote_ok g1 g2 gu a b c t l (vs ++ (who.take i).map fun s => (⟨k, 0, 0, 1, s, 0, par, val⟩ : Vt)) ⟨k, 0, 0, 1, who.getD i 0, 0, par, val⟩ (n + i) (by simp; omega) (by omega)
      have e : (vs ++ (who.take i).map fun s => (⟨k, 0, 0, 1, s, 0, par, val⟩ : Vt)) ++ [⟨k, 0, 0, 1, who.getD i 0, 0, par, val⟩] = vs ++ (who.take (i + 1)).map fun s => (⟨k, 0, 0, 1, s, 0, par, val⟩ : Vt) := by
        rw [List.append_assoc, map_take hx]
      rw [e] at hcall
      (
 refine Gol.skip ?_; refine thn_n ?_; refine Gol.seq ?_; refine Gol.block ?_; apply Gol.sr
 apply t0; exact sM rfl; apply t0; exact sM rfl; apply t0; exact s_ixe rfl rfl (by omega) (by assumption); apply t0; exact s_loadE rfl (in_get0 (by assumption))
 apply t0; exact sF rfl; apply n1; exact s_store rfl rfl rfl rfl rfl (lb rfl); dsimp only [reduceAdd, reduceMul]; exact dn
 exact rfl; apply Gol.region; apply t0; exact sM rfl; apply t0; exact s_loadW rfl rfl rfl (agu_cua _); dsimp only [reduceAdd, reduceMul, reduceSub, na, ca, nbk, mc, ml]
 apply tq; apply s_acts (f := 60) [0, 200] rfl inferInstance; exact hcall; apply eC rfl
 apply eC rfl; exact eN; exact rfl; apply ABs.cons; exact rfl; exact rfl; exact rfl; apply rK; apply rK; apply rK; apply rK; apply rK
 apply RenL.cons; apply Ren.sl; exact CaR.old rfl; apply rK; apply rK; apply rK; exact RenL.nil; apply ABs.cons; exact rfl; exact rfl; exact rfl; exact RenL.clo; exact ABs.nil; dsimp only [List.cons_append, List.nil_append, List.append_nil]
 apply RenL.cons; apply Ren.pt; exact CaR.old rfl; apply RenL.cons; exact Ren.vag rfl; exact RenL.nil; exact rZ; apply HRen.kept; exact CaR.old rfl
 apply rK; apply rK; apply rK; apply rK; apply rK; apply RenL.cons; apply Ren.sl; exact CaR.new 0 rfl rfl; apply rK
 apply rK; apply rK; exact RenL.nil; apply HRen.gone; exact CaR.old rfl; apply HRen.kept
 exact CaR.new 0 rfl rfl; exact RenL.clo; exact HRen.nil; exact lb rfl; dsimp only [reduceAdd, reduceMul, reduceSub, na, ca, nbk, nones, mc, ml]
 exact dn; exact rfl; refine inBlk_n ?_; refine thn_n ?_; apply Gol.region; apply t0; exact sM rfl
 apply t0; exact s_addn rfl rfl (by simp <;> omega); apply t0; exact sA rfl; dsimp only [reduceAdd, reduceMul]; exact dn; exact rfl)
      refine rnd_n (i + 1, who.getD i 0) hlt (by show who.length - (i + 1) < who.length - i; omega) ?_
      (
 apply Le.mk3' [(200, 304)]; apply RnT3.c; exact rfl; apply Rn3.r; exact Rn.pt rfl rfl; apply RnT3.c; exact rfl; apply Rn3.r; exact Rn.clo inferInstance rfl
 apply RnT3.c; exact rfl; apply Rn3.r; exact Rn.pt rfl rfl; apply RnT3.c; exact rfl; apply Rn3.r; exact Rn.v rfl; exact RnT3.n; apply RnH3.c; exact rfl
 exact rfl; apply RnC.l; apply Rn3L.cons; apply Rn3.r; exact Rn.v rfl; apply Rn3L.cons; apply Rn3.r; exact Rn.v rfl; apply Rn3L.cons; apply Rn3.r; exact Rn.clo inferInstance rfl
 apply Rn3L.cons; apply Rn3.r; exact Rn.clo inferInstance rfl; apply Rn3L.cons; apply Rn3.r; exact Rn.clo inferInstance rfl; apply Rn3L.cons; apply Rn3.r
 exact Rn.sl rfl rfl; apply Rn3L.cons; apply Rn3.r; exact Rn.v rfl; apply Rn3L.cons; apply Rn3.r; exact Rn.clo inferInstance rfl; apply Rn3L.cons; apply Rn3.r
 exact Rn.clo inferInstance rfl; exact Rn3L.nil; exact rfl; exact rfl; apply RnH3.c; exact rfl; exact rfl; apply RnC.cl; rfl; exact inferInstance; exact rfl
 exact rfl; apply RnH3.c; exact rfl; exact rfl; apply RnC.cl; rfl; exact inferInstance; exact rfl; exact rfl; exact RnH3.n; exact rfl; exact rfl)
    · have hge : ¬ i < who.length := of_decide_eq_false h
      obtain rfl : i = who.length := by omega
      rw [List.take_length]
      (refine Gol.exit ?_; refine thn_x ?_; refine rnd_x ?_; refine inBlk_hit ?_)
      (
 apply RetA.mk [0, 1, 2, 200] (by first | exact .inr rfl | exact .inl rfl); exact res_0 rfl; exact rfl; exact rfl; exact rfl; apply OAs.kept; exact rfl
 exact rfl; exact rfl; apply rK; apply rK; apply rK
 apply rK; apply rK; apply RenL.cons; apply Ren.sl; exact IdR.mk rfl; apply rK; apply rK; apply rK; exact RenL.nil; apply OAs.gone
 apply OAs.gone; apply OAs.kept; exact rfl; exact rfl; exact rfl; exact RenL.clo; exact OAs.nil; exact rZ)
  · have e : sgV k x (valN S x) = fun s => (⟨k, 0, 0, 1, s, 0, x.n, valN S x⟩ : Vt) := funext fun s => by unfold sgV; rw [if_neg (of_decide_eq_false h)]
    rw [e]
    clear e hv
    (
 refine Gol.skip ?_; refine thn_n ?_; apply Gol.sr; apply t0; exact sA rfl; dsimp only [reduceAdd, reduceMul]
 exact dn; exact rfl; refine Gol.block ?_)
    generalize valN S x = val
    generalize x.n = par
    refine Gol.loop (ι := Nat × Int) (fun i => i.1 ≤ who.length) (fun i => who.length - i.1) 208
      (fun i => [(0, some ⟨[.v (.int .i64 g1), .v (.int .i64 g2), a, b, c, .sl 200 (n + i.1), .v (.int .i64 gu), t, l], 57, 9⟩), (200, some ⟨vtsA (vs ++ (who.take i.1).map fun s => (⟨k, 0, 0, 1, s, 0, par, val⟩ : Vt)), 87, 22⟩), (64, some ⟨vtA ⟨k, 0, 0, 1, i.2, 0, par, val⟩, 87, 22⟩)])
      (fun i => [(0, .pt 0 0), (3, .ex who.length false (inA who)), (8, .pt 64 0), (9, .v (.int .i64 (i.1 : Int)))]) (0, 0) (Nat.zero_le _) ?_ ?_
    · rw [show vs ++ List.map (fun s => (⟨k, 0, 0, 1, s, 0, par, val⟩ : Vt)) (List.take 0 who) = vs by simp]
      (
 apply Le.mk3' [(200, 1)]; apply RnT3.c; exact rfl; apply Rn3.r; exact Rn.pt rfl rfl; apply RnT3.c; exact rfl; apply Rn3.r; exact Rn.clo inferInstance rfl
 apply RnT3.c; exact rfl; apply Rn3.r; exact Rn.pt rfl rfl; apply RnT3.c; exact rfl; apply Rn3.r; exact Rn.v rfl; exact RnT3.n; apply RnH3.c; exact rfl
 exact rfl; apply RnC.l; apply Rn3L.cons; apply Rn3.r; exact Rn.v rfl; apply Rn3L.cons; apply Rn3.r; exact Rn.v rfl; apply Rn3L.cons; apply Rn3.r; exact Rn.clo inferInstance rfl
 apply Rn3L.cons; apply Rn3.r; exact Rn.clo inferInstance rfl; apply Rn3L.cons; apply Rn3.r; exact Rn.clo inferInstance rfl; apply Rn3L.cons; apply Rn3.r
 exact Rn.sl rfl rfl; apply Rn3L.cons; apply Rn3.r; exact Rn.v rfl; apply Rn3L.cons; apply Rn3.r; exact Rn.clo inferInstance rfl; apply Rn3L.cons; apply Rn3.r
 exact Rn.clo inferInstance rfl; exact Rn3L.nil; exact rfl; exact rfl; apply RnH3.c; exact rfl; exact rfl; apply RnC.cl; rfl; exact inferInstance; exact rfl
 exact rfl; apply RnH3.c; exact rfl; exact rfl; apply RnC.cl; rfl; exact inferInstance; exact rfl; exact rfl; exact RnH3.n; exact rfl; exact rfl)
    rintro ⟨i, s0⟩ hi
    dsimp only at hi ⊢
    (
 refine Gol.seq ?_; apply Gol.sr; apply t0; exact sM rfl; apply t0; exact sM rfl; apply t0; exact s_len rfl ln_ex; apply t0; exact s_ltn rfl rfl
 dsimp only [reduceAdd, reduceMul]; exact dn; exact rfl)
    refine Gol.cond rfl (fun h => ?_) (fun h => ?_)
    · have hlt : i < who.length := of_decide_eq_true h
      have hne : inA who ≠ [] := fun e => by have := inA_length who; rw [e] at this; simp at this; omega
      have hx : who[i]? = some (who.getD i 0) := by rw [List.getD_eq_getElem?_getD, List.getElem?_eq_getElem hlt]; rfl
      have hcall := vote_ok g1 g2 gu a b c t l (vs ++ (who.take i).map fun s => (⟨k, 0, 0, 1, s, 0, par, val⟩ : Vt)) ⟨k, 0, 0, 1, who.getD i 0, 0, par, val⟩ (n + i) (by simp; omega) (by omega)
      have e : (vs ++ (who.take i).map fun s => (⟨k, 0, 0, 1, s, 0, par, val⟩ : Vt)) ++ [⟨k, 0, 0, 1, who.getD i 0, 0, par, val⟩] = vs ++ (who.take (i + 1)).map fun s => (⟨k, 0, 0, 1, s, 0, par, val⟩ : Vt) := by
        rw [List.append_assoc, map_take hx]
      rw [e] at hcall
      (
 refine Gol.skip ?_; refine thn_n ?_; refine Gol.seq ?_; refine Gol.block ?_; apply Gol.sr
 apply t0; exact sM rfl; apply t0; exact sM rfl; apply t0; exact s_ixe rfl rfl (by omega) (by assumption); apply t0; exact s_loadE rfl (in_get0 (by assumption))
 apply t0; exact sF rfl; apply n1; exact s_store rfl rfl rfl rfl rfl (lb rfl); dsimp only [reduceAdd, reduceMul]; exact dn
 exact rfl; apply Gol.region; apply t0; exact sM rfl; apply t0; exact s_loadW rfl rfl rfl (agu_cua _); dsimp only [reduceAdd, reduceMul, reduceSub, na, ca, nbk, mc, ml]
 apply tq; apply s_acts (f := 60) [0, 200] rfl inferInstance; exact hcall; apply eC rfl
 apply eC rfl; exact eN; exact rfl; apply ABs.cons; exact rfl; exact rfl; exact rfl; apply rK; apply rK; apply rK; apply rK; apply rK
 apply RenL.cons; apply Ren.sl; exact CaR.old rfl; apply rK; apply rK; apply rK; exact RenL.nil; apply ABs.cons; exact rfl; exact rfl; exact rfl; exact RenL.clo; exact ABs.nil; dsimp only [List.cons_append, List.nil_append, List.append_nil]
 apply RenL.cons; apply Ren.pt; exact CaR.old rfl; apply RenL.cons; exact Ren.vag rfl; exact RenL.nil; exact rZ; apply HRen.kept; exact CaR.old rfl
 apply rK; apply rK; apply rK; apply rK; apply rK; apply RenL.cons; apply Ren.sl; exact CaR.new 0 rfl rfl; apply rK
 apply rK; apply rK; exact RenL.nil; apply HRen.gone; exact CaR.old rfl; apply HRen.kept
 exact CaR.new 0 rfl rfl; exact RenL.clo; exact HRen.nil; exact lb rfl; dsimp only [reduceAdd, reduceMul, reduceSub, na, ca, nbk, nones, mc, ml]
 exact dn; exact rfl; refine inBlk_n ?_; refine thn_n ?_; apply Gol.region; apply t0; exact sM rfl
 apply t0; exact s_addn rfl rfl (by simp <;> omega); apply t0; exact sA rfl; dsimp only [reduceAdd, reduceMul]; exact dn; exact rfl)
      refine rnd_n (i + 1, who.getD i 0) hlt (by show who.length - (i + 1) < who.length - i; omega) ?_
      (
 apply Le.mk3' [(200, 304)]; apply RnT3.c; exact rfl; apply Rn3.r; exact Rn.pt rfl rfl; apply RnT3.c; exact rfl; apply Rn3.r; exact Rn.clo inferInstance rfl
 apply RnT3.c; exact rfl; apply Rn3.r; exact Rn.pt rfl rfl; apply RnT3.c; exact rfl; apply Rn3.r; exact Rn.v rfl; exact RnT3.n; apply RnH3.c; exact rfl
 exact rfl; apply RnC.l; apply Rn3L.cons; apply Rn3.r; exact Rn.v rfl; apply Rn3L.cons; apply Rn3.r; exact Rn.v rfl; apply Rn3L.cons; apply Rn3.r; exact Rn.clo inferInstance rfl
 apply Rn3L.cons; apply Rn3.r; exact Rn.clo inferInstance rfl; apply Rn3L.cons; apply Rn3.r; exact Rn.clo inferInstance rfl; apply Rn3L.cons; apply Rn3.r
 exact Rn.sl rfl rfl; apply Rn3L.cons; apply Rn3.r; exact Rn.v rfl; apply Rn3L.cons; apply Rn3.r; exact Rn.clo inferInstance rfl; apply Rn3L.cons; apply Rn3.r
 exact Rn.clo inferInstance rfl; exact Rn3L.nil; exact rfl; exact rfl; apply RnH3.c; exact rfl; exact rfl; apply RnC.cl; rfl; exact inferInstance; exact rfl
 exact rfl; apply RnH3.c; exact rfl; exact rfl; apply RnC.cl; rfl; exact inferInstance; exact rfl; exact rfl; exact RnH3.n; exact rfl; exact rfl)
    · have hge : ¬ i < who.length := of_decide_eq_false h
      obtain rfl : i = who.length := by omega
      rw [List.take_length]
      (refine Gol.exit ?_; refine thn_x ?_; refine rnd_x ?_; refine inBlk_hit ?_)
      (
 apply RetA.mk [0, 1, 2, 200] (by first | exact .inr rfl | exact .inl rfl); exact res_0 rfl; exact rfl; exact rfl; exact rfl; apply OAs.kept; exact rfl
 exact rfl; exact rfl; apply rK; apply rK; apply rK
 apply rK; apply rK; apply RenL.cons; apply Ren.sl; exact IdR.mk rfl; apply rK; apply rK; apply rK; exact RenL.nil; apply OAs.gone
 apply OAs.gone; apply OAs.kept; exact rfl; exact rfl; exact rfl; exact RenL.clo; exact OAs.nil; exact rZ)
end
end Go.Proofs.YtneeclacmhhblaaGreat


namespace Go.Proofs.YtneeclacmhhblaaGreat
open Go.RowKit
open Nat (reduceAdd reduceMul reduceSub)

theorem gen0_vl (S : List UInt8 → UInt64) : (gen0 S 0).vs.length = 6 := listF_length _ _
theorem gen0_cm (S : List UInt8 → UInt64) : (genIt S (gen0 S 0)).cm = 15 := by
  show selF (gen0 S 0).n 0 (gen0 S 0).vs.length = 15
  rw [gen0_vl]
  show selF 4 0 6 = 15
  decide +kernel
theorem genSt_sm (g : Gen) (hg : GenOk g) : Sm (genSt g) := by
  have h1 := balL_len g.bl g.bl.length
  have h2 := stkL_len (balL g.bl g.bl.length) g.s g.vs.length
  have h3 := hg.v10
  have h4 := hg.a16
  have h5 := hg.b
  unfold genSt
  refine ⟨?_, ?_, ?_, ?_⟩
  · show (stkL (balL g.bl g.bl.length) g.s g.vs.length).length ≤ 100000
    omega
  · show (List.replicate g.ac.length (0 : Int)).length ≤ 100000
    rw [List.length_replicate]; omega
  · show ([] : List Lk).length ≤ 100000
    decide
  · show ([] : List UInt64).length ≤ 100000
    decide
section
variable (S : List UInt8 → UInt64) {G : It} (hk : G.k = 1) (hc : G.cm = 15) (hn : G.n ≠ n7)
end
theorem nb_n7 : nb n7 7 = 7 ∧ nb n7 6 = 0 ∧ nb n7 5 = 0 ∧ nb n7 4 = 0 ∧ nb n7 3 = 0 ∧ nb n7 2 = 0 ∧ nb n7 1 = 0 ∧ nb n7 0 = 0 := by decide
theorem its_two (G X : It) : cu (.ag (itA G)) ++ (cu (.ag (itA X)) ++ []) = itsA [G, X] := by
  rw [List.append_nil]
  show itA G ++ itA X = itsA [G, X]
  unfold itsA
  rw [fA_cons, fA_one]
section
variable (S : List UInt8 → UInt64) (hS : HashF S)
include hS
end
end Go.Proofs.YtneeclacmhhblaaGreat


namespace Go.Proofs.YtneeclacmhhblaaGreat
open Go.RowKit
theorem pt_stay {w0 w1 : World} {M : Mod} {H H' : AH} {E E' : Env} (h : Sta w0 M H E) (h' : Sta w1 M H' E') {a o : Nat} (ha : a < M.np) {x : Value} (hx : RV E' (.pt a o) x) : RV E (.pt a o) x := by
  cases hx with
  | pt b o g hD hg hm =>
    rw [(h'.pin a ha).2, ← (h.pin a ha).2] at hg hm
    exact .pt a o g (h.pin a ha).1 hg hm
theorem Le.fn2 {M : Mod} {k k' : Nat} {H H' : AH} {T T' : AT} {i a b : Nat} {F : FuncId} (hi : lk T' i = some (.fn F [.pt a 0, .pt b 0])) (ha : Nat.blt a M.np = true) (hb : Nat.blt b M.np = true) (h : Le M k' H' T' k H T) : Le M k' H' T' k H ((i, .fn F [.pt a 0, .pt b 0]) :: T) := by
  rintro m w0 ac w hs
  have h2 := h m w0 ac w hs
  obtain ⟨E', f1, f2, f3, f4, f5, f6⟩ := hs
  obtain ⟨E, e1, e2, e3, e4, e5, e6⟩ := h2
  refine ⟨E, e1, e2, e3, fun t u' hu => ?_, e5, e6⟩
  rw [lk_cons] at hu
  split at hu
  · rename_i ei; subst ei; injection hu with hu; subst hu
    obtain ⟨x, hx, hr⟩ := f4 i _ hi
    refine ⟨x, hx, ?_⟩
    cases hr with
    | fn f cs xs hl hh =>
      refine .fn _ _ xs hl (fun j c x hc hx => ?_)
      have hr := hh j c x hc hx
      have hm := List.mem_of_getElem? hc
      simp only [List.mem_cons, List.not_mem_nil, or_false] at hm
      rcases hm with rfl | rfl
      · exact pt_stay e2 f2 (by simpa [Nat.blt_eq] using ha) hr
      · exact pt_stay e2 f2 (by simpa [Nat.blt_eq] using hb) hr
  · exact e4 t u' hu
end Go.Proofs.YtneeclacmhhblaaGreat


namespace Go.Proofs.YtneeclacmhhblaaGreat
open Go.RowKit
open Nat (reduceAdd reduceMul reduceSub)

def hiB (b y : It) : Bool := decide (y.h < b.h) || (decide (y.h = b.h) && decide (0 ≤ cmpN y.n b.n))
def hiOne (p : UInt64 → Bool) (l : List It) (best : Option It) (x : It) : Option It := match itOf l x.n with
  | none => best
  | some y => if p x.n = true then (match best with | none => some y | some b => if hiB b y = true then best else some y) else best
def hiN (p : UInt64 → Bool) (l : List It) (i : Nat) : Option It := (l.take i).foldl (hiOne p l) none
def hiF (p : UInt64 → Bool) (l : List It) : UInt64 := ((hiN p l l.length).getD It0).n
theorem hiN_next {p : UInt64 → Bool} {l : List It} {i : Nat} {x : It} (h : l[i]? = some x) : hiN p l (i + 1) = hiOne p l (hiN p l i) x := by
  obtain ⟨hl, e⟩ := List.getElem?_eq_some_iff.1 h
  rw [hiN, List.take_succ_eq_append_getElem hl, List.foldl_append, e]; rfl
theorem hiOne_no {p : UInt64 → Bool} {l : List It} {best : Option It} {x z : It} (hz : itOf l x.n = some z) (h : p x.n = false) : hiOne p l best x = best := by
  unfold hiOne; rw [hz]; dsimp only; rw [if_neg (by rw [h]; simp)]
theorem hiOne_first {p : UInt64 → Bool} {l : List It} {x z : It} (hz : itOf l x.n = some z) (h : p x.n = true) : hiOne p l none x = some z := by
  unfold hiOne; rw [hz]; dsimp only; rw [if_pos h]
theorem hiOne_keep {p : UInt64 → Bool} {l : List It} {b x z : It} (hz : itOf l x.n = some z) (h : hiB b z = true) : hiOne p l (some b) x = some b := by
  unfold hiOne; rw [hz]; dsimp only; split <;> rfl
theorem hiOne_new {p : UInt64 → Bool} {l : List It} {b x z : It} (hz : itOf l x.n = some z) (h : p x.n = true) (hb : hiB b z = false) : hiOne p l (some b) x = some z := by
  unfold hiOne; rw [hz]; dsimp only; rw [if_pos h, if_neg (by rw [hb]; simp)]
section
variable (S : List UInt8 → UInt64) (hS : HashF S)
include hS
theorem baseFn_ok (l : List It) (vs : List Vt) (f : Bool) (K : List (UInt64 × Stu)) (n : UInt64) (hl : l.length ≤ 1000000) (hsm : ∀ x ∈ l, Sm x.st) (hK : KnOk S l vs K) (g : Int) :
    Acts Tryz.prog 81 [bookB l vs f, knB K, ⟨[.pt 0 0], 66, 1⟩, ⟨[.v (.int .i64 g)], 26, 1⟩] [.v (.agg (nameC n)), .pt 2 0, .pt 3 0] (.v (.bool (lockedB (stqN S l vs n) g))) [some (bookB l vs f), some (knB (knF S l vs K n)), some ⟨[.pt 0 0], 66, 1⟩, some ⟨[.v (.int .i64 g)], 26, 1⟩] := by
  have h := blocked_ok S hS l vs f K n hl hsm hK g
  generalize knF S l vs K n = K2 at h ⊢
  generalize lockedB (stqN S l vs n) g = r at h ⊢
  refine Acts.of (fn := Tryz.f81) Tryz.func81 rfl (lb rfl) (lb rfl) fun w bl hid loc => ?_
  (
 apply Gol.sr; apply t1; exact s_box rfl rfl; apply t0; exact sA rfl; dsimp only [reduceAdd, reduceMul]; exact dn; exact rfl; apply Gol.sr
 apply t0; exact s_load rfl rfl rfl; apply t0; exact s_load rfl rfl rfl; apply t0; exact s_loadW rfl rfl rfl (agu_cuv _); dsimp only [reduceAdd, reduceMul, reduceSub, na, ca, nbk, mc, ml]
 apply tq; apply s_acts (f := 65) [0, 1] rfl inferInstance; exact h; apply eC rfl
 apply eC rfl; apply eC rfl; exact eN; exact rfl; apply ABs.cons; exact rfl; exact rfl; exact rfl; apply rK
 apply rK; apply rK; apply rK; apply RenL.cons
 apply Ren.mp; exact CaR.old rfl; exact RenL.nil; apply ABs.cons; exact rfl; exact rfl; exact rfl; exact RenL.clo; exact ABs.nil; dsimp only [List.cons_append, List.nil_append, List.append_nil]
 apply RenL.cons; apply Ren.pt; exact CaR.old rfl; apply rK; apply rK; exact RenL.nil
 exact rZ; apply HRen.kept; exact CaR.old rfl; apply rK; apply rK
 apply rK; apply rK; apply RenL.cons; apply Ren.mp; exact CaR.old rfl; exact RenL.nil
 apply HRen.kept; exact CaR.old rfl; exact RenL.clo; exact HRen.nil; exact lb rfl; dsimp only [reduceAdd, reduceMul, reduceSub, na, ca, nbk, nones, mc, ml]
 apply t0; exact sA rfl; dsimp only [reduceAdd, reduceMul]; exact dn; exact rfl; refine Gol.ret ?_)
  (
 apply RetA.mk [0, 1, 2, 3] (by first | exact .inr rfl | exact .inl rfl); apply res_1 rfl; exact res_tmp rfl; exact rfl; exact rfl; exact rfl; apply OAs.kept
 exact rfl; exact rfl; exact rfl; apply rK; apply rK; apply rK
 apply rK; apply RenL.cons; apply Ren.mp; exact IdR.mk rfl; exact RenL.nil; apply OAs.kept; exact rfl; exact rfl; exact rfl
 exact RenL.clo; apply OAs.kept; exact rfl; exact rfl; exact rfl; apply RenL.cons; apply Ren.pt; exact IdR.mk rfl; exact RenL.nil; apply OAs.kept; exact rfl
 exact rfl; exact rfl; exact RenL.clo; exact OAs.nil; exact rZ)
set_option maxHeartbeats 3200000 in
theorem hi_ok (C : FuncId) [FnI Tryz.prog C] (p : UInt64 → Bool) (l : List It) (vs : List Vt) (f : Bool) (K : List (UInt64 × Stu)) (hl : l.length ≤ 1000000) (hK : KnOk S l vs K) (g : Int)
    (hF : ∀ K n, KnOk S l vs K → Acts Tryz.prog C [bookB l vs f, knB K, ⟨[.pt 0 0], 66, 1⟩, ⟨[.v (.int .i64 g)], 26, 1⟩] [.v (.agg (nameC n)), .pt 2 0, .pt 3 0] (.v (.bool (p n))) [some (bookB l vs f), some (knB (knF S l vs K n)), some ⟨[.pt 0 0], 66, 1⟩, some ⟨[.v (.int .i64 g)], 26, 1⟩]) :
    Acts Tryz.prog 80 [bookB l vs f, knB K, ⟨[.pt 0 0], 66, 1⟩, ⟨[.v (.int .i64 g)], 26, 1⟩] [.pt 0 0, .fn C [.pt 2 0, .pt 3 0]] (.v (.agg (nameC (hiF p l)))) [none, none, none, none] := by
  unfold hiF
  refine Acts.of (fn := Tryz.f80) Tryz.func80 rfl (lb rfl) (lb rfl) fun w bl hid loc => ?_
  (
 apply Gol.sr; apply t1; exact s_alloc; dsimp only [reduceAdd, reduceMul]; exact dn; exact rfl; apply Gol.sr; apply t1; exact s_alloc; dsimp only [reduceAdd, reduceMul]
 exact dn; exact rfl; apply Gol.sr; apply t0; exact sA rfl; dsimp only [reduceAdd, reduceMul]; exact dn; exact rfl; refine Gol.seq ?_
 apply Gol.sr; apply t0; exact sM rfl; apply t0; exact s_nilCheck rfl rfl; apply t0; exact sF rfl; apply t0; exact s_load rfl rfl rfl; apply t0
 exact s_len rfl ln_ex; apply t0; exact sM rfl; dsimp only [reduceAdd, reduceMul]; exact dn; exact rfl; refine Gol.block ?_)
  refine Gol.le (Le.tell (B := 16) (itA It0) 35 28 rfl rfl wk_It0) ?_
  refine Gol.loop (ι := Nat × List (UInt64 × Stu)) (fun q => q.1 ≤ l.length ∧ KnOk S l vs q.2) (fun q => l.length - q.1) 600
    (fun q => [(0, some (bookB l vs f)), (1, some (knB q.2)), (2, some ⟨[.pt 0 0], 66, 1⟩), (3, some ⟨[.v (.int .i64 g)], 26, 1⟩), (8, some ⟨[.v (.int .u8 0), .v (.int .u8 0), .v (.int .u8 0), .v (.int .u8 0), .v (.int .u8 0), .v (.int .u8 0), .v (.int .u8 0), .v (.int .u8 0)], 23, 8⟩), (16, some ⟨itA ((hiN p l q.1).getD It0), 35, 28⟩)])
    (fun q => [(1, .fn C [.pt 2 0, .pt 3 0]), (0, .pt 0 0), (4, .pt 8 0), (5, .pt 16 0), (6, .v (.bool (hiN p l q.1).isSome)), (14, .ex l.length f (itsA l)), (15, .v (.int .i64 (l.length : Int))), (16, .v (.int .i64 (q.1 : Int)))]) (0, K) ⟨Nat.zero_le _, hK⟩ ?_ ?_
  · refine Le.fn2 rfl rfl rfl ?_
    (
 apply Le.mk3' []; apply RnT3.c; exact rfl; apply Rn3.r; exact Rn.pt rfl rfl; apply RnT3.c; exact rfl; apply Rn3.r; exact Rn.pt rfl rfl; apply RnT3.c; exact rfl
 apply Rn3.r; exact Rn.pt rfl rfl; apply RnT3.c; exact rfl; apply Rn3.r; exact Rn.v rfl; apply RnT3.c; exact rfl; apply Rn3.r; exact Rn.clo inferInstance rfl
 apply RnT3.c; exact rfl; apply Rn3.r; exact Rn.v rfl; apply RnT3.c; exact rfl; apply Rn3.r; exact Rn.v rfl; exact RnT3.n; apply RnH3.c; exact rfl; exact rfl
 apply RnC.l; apply Rn3L.cons; apply Rn3.r; exact Rn.clo inferInstance rfl; apply Rn3L.cons; apply Rn3.r; exact Rn.clo inferInstance rfl; apply Rn3L.cons
 apply Rn3.r; exact Rn.clo inferInstance rfl; apply Rn3L.cons; apply Rn3.r; exact Rn.clo inferInstance rfl; apply Rn3L.cons; apply Rn3.r; exact Rn.mp rfl
 exact Rn3L.nil; exact rfl; exact rfl; apply RnH3.c; exact rfl; exact rfl; apply RnC.cl; rfl; exact inferInstance; exact rfl; exact rfl; apply RnH3.c; exact rfl
 exact rfl; apply RnC.l; apply Rn3L.cons; apply Rn3.r; exact Rn.pt rfl rfl; exact Rn3L.nil; exact rfl; exact rfl; apply RnH3.c; exact rfl; exact rfl; apply RnC.cl
 rfl; exact inferInstance; exact rfl; exact rfl; apply RnH3.c; exact rfl; exact rfl; apply RnC.cl; rfl; exact inferInstance; exact rfl; exact rfl; apply RnH3.c
 exact rfl; exact rfl; apply RnC.cl; rfl; exact inferInstance; exact rfl; exact rfl; exact RnH3.n; exact rfl; exact rfl)
  rintro ⟨i, K⟩ ⟨hi, hK⟩
  dsimp only at hi hK ⊢
  (apply Gol.sr; apply t0; exact s_ltn rfl rfl; dsimp only [reduceAdd, reduceMul]; exact dn; exact rfl; refine Gol.seq ?_)
  refine Gol.cond rfl (fun h => ?_) (fun h => ?_)
  rotate_left
  · have hge : ¬ i < l.length := of_decide_eq_false h
    obtain rfl : i = l.length := by omega
    generalize (hiN p l l.length).getD It0 = z
    (
 refine Gol.exit ?_; refine thn_x ?_; refine rnd_x ?_; refine inBlk_hit ?_; refine thn_n ?_
 apply Gol.sr; apply t0; exact sF rfl; apply t0; exact s_loadN rfl rfl (lb rfl) (agu_nm8 rfl); apply n1; exact s_storeW rfl rfl rfl rfl rfl rfl
 dsimp only [reduceAdd, reduceMul]; exact dn; exact rfl; refine Gol.ret ?_)
    (
 apply RetA.mk [0, 1, 2, 3] (by first | exact .inr rfl | exact .inl rfl); apply res_1 rfl; exact res_cell rfl rfl rfl (agu_cuv _); exact rfl; exact rfl
 exact rfl; apply OAs.gone; apply OAs.gone; apply OAs.gone; apply OAs.gone; exact OAs.nil; exact rZ)
  have hlt : i < l.length := of_decide_eq_true h
  have hx : l[i]? = some l[i] := List.getElem?_eq_getElem hlt
  generalize l[i] = x at hx
  have hN := hiN_next (p := p) hx
  generalize hiN p l i = best at hN ⊢
  obtain ⟨z, hz, hzn⟩ := itOf_some hx
  have hiz := item_yes l f x.n z hl hz
  have hc := hF K x.n hK
  have hK2 := knOk_next S hK x.n
  generalize knF S l vs K x.n = K2 at hc hK2
  (
 refine Gol.skip ?_; refine thn_n ?_; refine Gol.seq ?_; refine Gol.block ?_; apply Gol.sr
 apply t0; exact s_ixeD rfl rfl (by omega) (its_ne (by omega)) (its_at (by assumption)); apply t0; exact s_loadEN rfl (lb rfl) agu_it
 apply t1; exact s_alloc; apply n1; exact s_storeW rfl rfl rfl rfl rfl rfl; dsimp only [reduceAdd, reduceMul]; exact dn; exact rfl)
  (
 refine Gol.seq ?_; apply Gol.any; kernel_rfl; apply t0; exact sM rfl; apply t0; exact s_nilCheck rfl rfl; apply t0
 exact sF rfl; apply t0; exact s_loadN rfl rfl (lb rfl) (agu_ag _); apply t0; exact sF rfl; apply t0; exact s_loadN rfl rfl (lb rfl) (agu_nm8 rfl)
 dsimp only [reduceAdd, reduceMul, reduceSub, na, ca, nbk, mc, ml]; apply tq; apply s_acts (f := 61) [] rfl inferInstance; exact hiz; apply eC rfl; apply eC rfl; exact eN
 exact rfl; exact ABs.nil; dsimp only [List.cons_append, List.nil_append, List.append_nil]; exact RenL.clo; exact rZ; exact HRen.nil
 exact lb rfl; dsimp only [reduceAdd, reduceMul, reduceSub, na, ca, nbk, nones, mc, ml]
 apply t0; exact sM rfl; apply t0; exact s_extract rfl rfl; apply t0; exact s_extract rfl rfl; apply t1; exact s_alloc; apply n1; exact s_storeW rfl rfl rfl rfl rfl rfl
 apply t0; exact sA rfl; dsimp only [reduceAdd, reduceMul]; exact dn; kernel_rfl; exact rfl; refine thn_n ?_)
  cases h1 : p x.n with
  | false =>
    rw [h1] at hc
    rw [hiOne_no hz h1] at hN
    (
 refine Gol.seq ?_; apply Gol.sr; apply t0; exact sM rfl; apply t0; exact sF rfl; apply t0; exact s_loadN rfl rfl (lb rfl) (agu_nm8 rfl)
 dsimp only [reduceAdd, reduceMul, reduceSub, na, ca, nbk, mc, ml]; apply tq; apply s_acts (f := C) [0, 1, 2, 3] rfl inferInstance; exact hc; apply eC rfl; exact eN; exact rfl
 apply ABs.cons; exact rfl; exact rfl; exact rfl; apply rK; apply rK; apply rK; apply rK; apply RenL.cons; apply Ren.mp; exact CaR.old rfl; exact RenL.nil; apply ABs.cons
 exact rfl; exact rfl; exact rfl; exact RenL.clo; apply ABs.cons; exact rfl; exact rfl; exact rfl; apply RenL.cons; apply Ren.pt; exact CaR.old rfl; exact RenL.nil
 apply ABs.cons; exact rfl; exact rfl; exact rfl; exact RenL.clo; exact ABs.nil; dsimp only [List.cons_append, List.nil_append, List.append_nil]; apply rK; apply RenL.cons; apply Ren.pt; exact CaR.old rfl; apply RenL.cons; apply Ren.pt; exact CaR.old rfl; exact RenL.nil; exact rZ
 apply HRen.kept; exact CaR.old rfl; apply rK; apply rK; apply rK
 apply rK; apply RenL.cons; apply Ren.mp; exact CaR.old rfl; exact RenL.nil; apply HRen.kept; exact CaR.old rfl; exact RenL.clo
 apply HRen.kept; exact CaR.old rfl; apply RenL.cons; apply Ren.pt; exact CaR.old rfl; exact RenL.nil; apply HRen.kept; exact CaR.old rfl; exact RenL.clo
 exact HRen.nil; exact lb rfl; dsimp only [reduceAdd, reduceMul, reduceSub, na, ca, nbk, nones, mc, ml]
 apply t0; exact s_not rfl; apply t0; exact sM rfl; apply sk; exact wnt_g rfl rfl rfl rfl; apply sk; exact wnt_g rfl rfl rfl rfl; apply sk; exact wnt_u rfl rfl rfl
 apply sk; exact wnt_u rfl rfl rfl; apply sk; exact wnt_u rfl rfl rfl; apply sk; exact wnt_u rfl rfl rfl; apply sk; exact wnt_u rfl rfl rfl; apply sk; exact wnt_u rfl rfl rfl
 apply sk; exact wnt_u rfl rfl rfl; apply sk; exact wnt_u rfl rfl rfl; apply sk; exact wnt_u rfl rfl rfl; apply sk; exact wnt_u rfl rfl rfl; apply sk; exact wnt_u rfl rfl rfl
 apply sk; exact wnt_u rfl rfl rfl; apply sk; exact wnt_u rfl rfl rfl; apply sk; exact wnt_u rfl rfl rfl; apply sk; exact wnt_u rfl rfl rfl; apply sk; exact wnt_u rfl rfl rfl
 apply sk; exact wnt_u rfl rfl rfl; apply sk; exact wnt_u rfl rfl rfl; apply sk; exact wnt_u rfl rfl rfl; apply sk; exact wnt_u rfl rfl rfl; apply sk; exact wnt_g rfl rfl rfl rfl
 apply t0; exact s_pick_t rfl rfl rfl; dsimp only [reduceAdd, reduceMul]; exact dn; exact rfl)
    refine Gol.cond_t rfl (by first | rfl | assumption) ?_
    (
 refine Gol.exit ?_; refine thn_x ?_; refine inBlk_hit ?_; refine thn_n ?_; apply Gol.region
 apply t0; exact s_addn rfl rfl (by simp <;> omega); apply t0; exact sM rfl; dsimp only [reduceAdd, reduceMul]; exact dn; exact rfl)
    refine rnd_n (i + 1, K2) ⟨hlt, hK2⟩ (by dsimp only; omega) ?_
    dsimp only
    rw [hN]
    refine Le.fn2 rfl rfl rfl ?_
    (
 apply Le.mk3' []; apply RnT3.c; exact rfl; apply Rn3.r; exact Rn.pt rfl rfl; apply RnT3.c; exact rfl; apply Rn3.r; exact Rn.pt rfl rfl; apply RnT3.c; exact rfl
 apply Rn3.r; exact Rn.pt rfl rfl; apply RnT3.c; exact rfl; apply Rn3.r; exact Rn.v rfl; apply RnT3.c; exact rfl; apply Rn3.r; exact Rn.clo inferInstance rfl
 apply RnT3.c; exact rfl; apply Rn3.r; exact Rn.v rfl; apply RnT3.c; exact rfl; apply Rn3.r; exact Rn.v rfl; exact RnT3.n; apply RnH3.c; exact rfl; exact rfl
 apply RnC.l; apply Rn3L.cons; apply Rn3.r; exact Rn.clo inferInstance rfl; apply Rn3L.cons; apply Rn3.r; exact Rn.clo inferInstance rfl; apply Rn3L.cons
 apply Rn3.r; exact Rn.clo inferInstance rfl; apply Rn3L.cons; apply Rn3.r; exact Rn.clo inferInstance rfl; apply Rn3L.cons; apply Rn3.r; exact Rn.mp rfl
 exact Rn3L.nil; exact rfl; exact rfl; apply RnH3.c; exact rfl; exact rfl; apply RnC.cl; rfl; exact inferInstance; exact rfl; exact rfl; apply RnH3.c; exact rfl
 exact rfl; apply RnC.l; apply Rn3L.cons; apply Rn3.r; exact Rn.pt rfl rfl; exact Rn3L.nil; exact rfl; exact rfl; apply RnH3.c; exact rfl; exact rfl; apply RnC.cl
 rfl; exact inferInstance; exact rfl; exact rfl; apply RnH3.c; exact rfl; exact rfl; apply RnC.cl; rfl; exact inferInstance; exact rfl; exact rfl; apply RnH3.c
 exact rfl; exact rfl; apply RnC.cl; rfl; exact inferInstance; exact rfl; exact rfl; exact RnH3.n; exact rfl; exact rfl)
  | true =>
    rw [h1] at hc
    cases best with
    | none =>
      rw [hiOne_first hz h1] at hN
      dsimp only [Option.isSome, Option.getD]
      (
 refine Gol.seq ?_; apply Gol.sr; apply t0; exact sM rfl; apply t0; exact sF rfl; apply t0; exact s_loadN rfl rfl (lb rfl) (agu_nm8 rfl)
 dsimp only [reduceAdd, reduceMul, reduceSub, na, ca, nbk, mc, ml]; apply tq; apply s_acts (f := C) [0, 1, 2, 3] rfl inferInstance; exact hc; apply eC rfl; exact eN; exact rfl
 apply ABs.cons; exact rfl; exact rfl; exact rfl; apply rK; apply rK; apply rK; apply rK; apply RenL.cons; apply Ren.mp; exact CaR.old rfl; exact RenL.nil; apply ABs.cons
 exact rfl; exact rfl; exact rfl; exact RenL.clo; apply ABs.cons; exact rfl; exact rfl; exact rfl; apply RenL.cons; apply Ren.pt; exact CaR.old rfl; exact RenL.nil
 apply ABs.cons; exact rfl; exact rfl; exact rfl; exact RenL.clo; exact ABs.nil; dsimp only [List.cons_append, List.nil_append, List.append_nil]; apply rK; apply RenL.cons; apply Ren.pt; exact CaR.old rfl; apply RenL.cons; apply Ren.pt; exact CaR.old rfl; exact RenL.nil; exact rZ
 apply HRen.kept; exact CaR.old rfl; apply rK; apply rK; apply rK
 apply rK; apply RenL.cons; apply Ren.mp; exact CaR.old rfl; exact RenL.nil; apply HRen.kept; exact CaR.old rfl; exact RenL.clo
 apply HRen.kept; exact CaR.old rfl; apply RenL.cons; apply Ren.pt; exact CaR.old rfl; exact RenL.nil; apply HRen.kept; exact CaR.old rfl; exact RenL.clo
 exact HRen.nil; exact lb rfl; dsimp only [reduceAdd, reduceMul, reduceSub, na, ca, nbk, nones, mc, ml]
 apply t0; exact s_not rfl; apply t0; exact sM rfl; apply g0; exact wnt_g rfl rfl rfl rfl; exact sM rfl; apply g0; exact wnt_g rfl rfl rfl rfl
 exact sM rfl; apply sk; exact wnt_g rfl rfl rfl rfl; apply sk; exact wnt_g rfl rfl rfl rfl; apply sk; exact wnt_g rfl rfl rfl rfl; apply sk; exact wnt_g rfl rfl rfl rfl
 apply sk; exact wnt_g rfl rfl rfl rfl; apply sk; exact wnt_g rfl rfl rfl rfl; apply sk; exact wnt_u rfl rfl rfl; apply sk; exact wnt_u rfl rfl rfl; apply sk
 exact wnt_u rfl rfl rfl; apply sk; exact wnt_u rfl rfl rfl; apply sk; exact wnt_u rfl rfl rfl; apply sk; exact wnt_u rfl rfl rfl; apply sk; exact wnt_u rfl rfl rfl
 apply sk; exact wnt_u rfl rfl rfl; apply sk; exact wnt_u rfl rfl rfl; apply sk; exact wnt_u rfl rfl rfl; apply sk; exact wnt_u rfl rfl rfl; apply sk; exact wnt_u rfl rfl rfl
 apply sk; exact wnt_u rfl rfl rfl; apply sk; exact wnt_g rfl rfl rfl rfl; apply g0; exact wnt_g rfl rfl rfl rfl; exact s_pick_f rfl rfl rfl; apply t0
 exact s_pick_f rfl rfl rfl; dsimp only [reduceAdd, reduceMul]; exact dn; exact rfl)
      refine Gol.cond_f rfl (by first | rfl | assumption) ?_
      (
 refine Gol.skip ?_; refine thn_n ?_; apply Gol.region; apply t0; exact s_loadW rfl rfl rfl (agu_cua _)
 apply n1; exact s_storeW rfl rfl rfl rfl rfl rfl; apply t0; exact sA rfl; dsimp only [reduceAdd, reduceMul]; exact dn; exact rfl; refine inBlk_n ?_
 refine thn_n ?_; apply Gol.region; apply t0; exact s_addn rfl rfl (by simp <;> omega); apply t0; exact sM rfl; dsimp only [reduceAdd, reduceMul]
 exact dn; exact rfl)
      refine rnd_n (i + 1, K2) ⟨hlt, hK2⟩ (by dsimp only; omega) ?_
      dsimp only
      rw [hN]
      refine Le.fn2 rfl rfl rfl ?_
      (
 apply Le.mk3' []; apply RnT3.c; exact rfl; apply Rn3.r; exact Rn.pt rfl rfl; apply RnT3.c; exact rfl; apply Rn3.r; exact Rn.pt rfl rfl; apply RnT3.c; exact rfl
 apply Rn3.r; exact Rn.pt rfl rfl; apply RnT3.c; exact rfl; apply Rn3.r; exact Rn.v rfl; apply RnT3.c; exact rfl; apply Rn3.r; exact Rn.clo inferInstance rfl
 apply RnT3.c; exact rfl; apply Rn3.r; exact Rn.v rfl; apply RnT3.c; exact rfl; apply Rn3.r; exact Rn.v rfl; exact RnT3.n; apply RnH3.c; exact rfl; exact rfl
 apply RnC.l; apply Rn3L.cons; apply Rn3.r; exact Rn.clo inferInstance rfl; apply Rn3L.cons; apply Rn3.r; exact Rn.clo inferInstance rfl; apply Rn3L.cons
 apply Rn3.r; exact Rn.clo inferInstance rfl; apply Rn3L.cons; apply Rn3.r; exact Rn.clo inferInstance rfl; apply Rn3L.cons; apply Rn3.r; exact Rn.mp rfl
 exact Rn3L.nil; exact rfl; exact rfl; apply RnH3.c; exact rfl; exact rfl; apply RnC.cl; rfl; exact inferInstance; exact rfl; exact rfl; apply RnH3.c; exact rfl
 exact rfl; apply RnC.l; apply Rn3L.cons; apply Rn3.r; exact Rn.pt rfl rfl; exact Rn3L.nil; exact rfl; exact rfl; apply RnH3.c; exact rfl; exact rfl; apply RnC.cl
 rfl; exact inferInstance; exact rfl; exact rfl; apply RnH3.c; exact rfl; exact rfl; apply RnC.cl; rfl; exact inferInstance; exact rfl; exact rfl; apply RnH3.c
 exact rfl; exact rfl; apply RnC.cl; rfl; exact inferInstance; exact rfl; exact rfl; exact RnH3.n; exact rfl; exact rfl)
    | some b =>
      dsimp only [Option.isSome, Option.getD]
      by_cases h2 : z.h < b.h
      · have d2 : decide (z.h < b.h) = true := decide_eq_true h2
        rw [hiOne_keep hz (by unfold hiB; rw [d2]; rfl)] at hN
        (
 refine Gol.seq ?_; apply Gol.sr; apply t0; exact sM rfl; apply t0; exact sF rfl; apply t0; exact s_loadN rfl rfl (lb rfl) (agu_nm8 rfl)
 dsimp only [reduceAdd, reduceMul, reduceSub, na, ca, nbk, mc, ml]; apply tq; apply s_acts (f := C) [0, 1, 2, 3] rfl inferInstance; exact hc; apply eC rfl; exact eN; exact rfl
 apply ABs.cons; exact rfl; exact rfl; exact rfl; apply rK; apply rK; apply rK; apply rK; apply RenL.cons; apply Ren.mp; exact CaR.old rfl; exact RenL.nil; apply ABs.cons
 exact rfl; exact rfl; exact rfl; exact RenL.clo; apply ABs.cons; exact rfl; exact rfl; exact rfl; apply RenL.cons; apply Ren.pt; exact CaR.old rfl; exact RenL.nil
 apply ABs.cons; exact rfl; exact rfl; exact rfl; exact RenL.clo; exact ABs.nil; dsimp only [List.cons_append, List.nil_append, List.append_nil]; apply rK; apply RenL.cons; apply Ren.pt; exact CaR.old rfl; apply RenL.cons; apply Ren.pt; exact CaR.old rfl; exact RenL.nil; exact rZ
 apply HRen.kept; exact CaR.old rfl; apply rK; apply rK; apply rK
 apply rK; apply RenL.cons; apply Ren.mp; exact CaR.old rfl; exact RenL.nil; apply HRen.kept; exact CaR.old rfl; exact RenL.clo
 apply HRen.kept; exact CaR.old rfl; apply RenL.cons; apply Ren.pt; exact CaR.old rfl; exact RenL.nil; apply HRen.kept; exact CaR.old rfl; exact RenL.clo
 exact HRen.nil; exact lb rfl; dsimp only [reduceAdd, reduceMul, reduceSub, na, ca, nbk, nones, mc, ml]
 apply t0; exact s_not rfl; apply t0; exact sM rfl; apply g0; exact wnt_g rfl rfl rfl rfl; exact sM rfl; apply g0; exact wnt_g rfl rfl rfl rfl
 exact sM rfl; apply g0; exact wnt_g rfl rfl rfl rfl; exact sF rfl; apply g0; exact wnt_g rfl rfl rfl rfl; exact s_load rfl rfl rfl; apply g0
 exact wnt_g rfl rfl rfl rfl; exact sF rfl; apply g0; exact wnt_g rfl rfl rfl rfl; exact s_load rfl rfl rfl; apply g0; exact wnt_g rfl rfl rfl rfl
 exact s_lt rfl rfl; apply g0; exact wnt_g rfl rfl rfl rfl; exact sM rfl; apply sk; exact wnt_g rfl rfl rfl (by simp only [*]; rfl); apply sk
 exact wnt_g rfl rfl rfl (by simp only [*]; rfl); apply sk; exact wnt_g rfl rfl rfl (by simp only [*]; rfl); apply sk; exact wnt_g rfl rfl rfl (by simp only [*]; rfl)
 apply sk; exact wnt_g rfl rfl rfl (by simp only [*]; rfl); apply sk; exact wnt_g rfl rfl rfl (by simp only [*]; rfl); apply sk; exact wnt_u rfl rfl rfl
 apply sk; exact wnt_u rfl rfl rfl; apply sk; exact wnt_u rfl rfl rfl; apply sk; exact wnt_u rfl rfl rfl; apply sk; exact wnt_u rfl rfl rfl; apply sk; exact wnt_u rfl rfl rfl
 apply sk; exact wnt_g rfl rfl rfl (by simp only [*]; rfl); apply g0; exact wnt_g rfl rfl rfl rfl; exact s_pick_t rfl (by assumption) rfl; apply g0
 exact wnt_g rfl rfl rfl rfl; exact s_pick_t rfl rfl rfl; apply t0; exact s_pick_f rfl rfl rfl; dsimp only [reduceAdd, reduceMul]; exact dn; exact rfl)
        refine Gol.cond_t rfl (by first | rfl | assumption) ?_
        (
 refine Gol.exit ?_; refine thn_x ?_; refine inBlk_hit ?_; refine thn_n ?_; apply Gol.region
 apply t0; exact s_addn rfl rfl (by simp <;> omega); apply t0; exact sM rfl; dsimp only [reduceAdd, reduceMul]; exact dn; exact rfl)
        refine rnd_n (i + 1, K2) ⟨hlt, hK2⟩ (by dsimp only; omega) ?_
        dsimp only
        rw [hN]
        refine Le.fn2 rfl rfl rfl ?_
        (
 apply Le.mk3' []; apply RnT3.c; exact rfl; apply Rn3.r; exact Rn.pt rfl rfl; apply RnT3.c; exact rfl; apply Rn3.r; exact Rn.pt rfl rfl; apply RnT3.c; exact rfl
 apply Rn3.r; exact Rn.pt rfl rfl; apply RnT3.c; exact rfl; apply Rn3.r; exact Rn.v rfl; apply RnT3.c; exact rfl; apply Rn3.r; exact Rn.clo inferInstance rfl
 apply RnT3.c; exact rfl; apply Rn3.r; exact Rn.v rfl; apply RnT3.c; exact rfl; apply Rn3.r; exact Rn.v rfl; exact RnT3.n; apply RnH3.c; exact rfl; exact rfl
 apply RnC.l; apply Rn3L.cons; apply Rn3.r; exact Rn.clo inferInstance rfl; apply Rn3L.cons; apply Rn3.r; exact Rn.clo inferInstance rfl; apply Rn3L.cons
 apply Rn3.r; exact Rn.clo inferInstance rfl; apply Rn3L.cons; apply Rn3.r; exact Rn.clo inferInstance rfl; apply Rn3L.cons; apply Rn3.r; exact Rn.mp rfl
 exact Rn3L.nil; exact rfl; exact rfl; apply RnH3.c; exact rfl; exact rfl; apply RnC.cl; rfl; exact inferInstance; exact rfl; exact rfl; apply RnH3.c; exact rfl
 exact rfl; apply RnC.l; apply Rn3L.cons; apply Rn3.r; exact Rn.pt rfl rfl; exact Rn3L.nil; exact rfl; exact rfl; apply RnH3.c; exact rfl; exact rfl; apply RnC.cl
 rfl; exact inferInstance; exact rfl; exact rfl; apply RnH3.c; exact rfl; exact rfl; apply RnC.cl; rfl; exact inferInstance; exact rfl; exact rfl; apply RnH3.c
 exact rfl; exact rfl; apply RnC.cl; rfl; exact inferInstance; exact rfl; exact rfl; exact RnH3.n; exact rfl; exact rfl)
      have d2 : decide (z.h < b.h) = false := decide_eq_false h2
      by_cases h3 : z.h = b.h
      · have d3 : decide (z.h = b.h) = true := decide_eq_true h3
        by_cases h4 : 0 ≤ cmpN z.n b.n
        · have d4 : decide (0 ≤ cmpN z.n b.n) = true := decide_eq_true h4
          rw [hiOne_keep hz (by unfold hiB; rw [d3, d4]; simp)] at hN
          (
 refine Gol.seq ?_; apply Gol.sr; apply t0; exact sM rfl; apply t0; exact sF rfl; apply t0; exact s_loadN rfl rfl (lb rfl) (agu_nm8 rfl)
 dsimp only [reduceAdd, reduceMul, reduceSub, na, ca, nbk, mc, ml]; apply tq; apply s_acts (f := C) [0, 1, 2, 3] rfl inferInstance; exact hc; apply eC rfl; exact eN; exact rfl
 apply ABs.cons; exact rfl; exact rfl; exact rfl; apply rK; apply rK; apply rK; apply rK; apply RenL.cons; apply Ren.mp; exact CaR.old rfl; exact RenL.nil; apply ABs.cons
 exact rfl; exact rfl; exact rfl; exact RenL.clo; apply ABs.cons; exact rfl; exact rfl; exact rfl; apply RenL.cons; apply Ren.pt; exact CaR.old rfl; exact RenL.nil
 apply ABs.cons; exact rfl; exact rfl; exact rfl; exact RenL.clo; exact ABs.nil; dsimp only [List.cons_append, List.nil_append, List.append_nil]; apply rK; apply RenL.cons; apply Ren.pt; exact CaR.old rfl; apply RenL.cons; apply Ren.pt; exact CaR.old rfl; exact RenL.nil; exact rZ
 apply HRen.kept; exact CaR.old rfl; apply rK; apply rK; apply rK
 apply rK; apply RenL.cons; apply Ren.mp; exact CaR.old rfl; exact RenL.nil; apply HRen.kept; exact CaR.old rfl; exact RenL.clo
 apply HRen.kept; exact CaR.old rfl; apply RenL.cons; apply Ren.pt; exact CaR.old rfl; exact RenL.nil; apply HRen.kept; exact CaR.old rfl; exact RenL.clo
 exact HRen.nil; exact lb rfl; dsimp only [reduceAdd, reduceMul, reduceSub, na, ca, nbk, nones, mc, ml]
 apply t0; exact s_not rfl; apply t0; exact sM rfl; apply g0; exact wnt_g rfl rfl rfl rfl; exact sM rfl; apply g0; exact wnt_g rfl rfl rfl rfl
 exact sM rfl; apply g0; exact wnt_g rfl rfl rfl rfl; exact sF rfl; apply g0; exact wnt_g rfl rfl rfl rfl; exact s_load rfl rfl rfl; apply g0
 exact wnt_g rfl rfl rfl rfl; exact sF rfl; apply g0; exact wnt_g rfl rfl rfl rfl; exact s_load rfl rfl rfl; apply g0; exact wnt_g rfl rfl rfl rfl
 exact s_lt rfl rfl; apply g0; exact wnt_g rfl rfl rfl rfl; exact sM rfl; apply g0; exact wnt_g rfl rfl rfl (by focus (simp [*]; done)); exact sF rfl
 apply g0; exact wnt_g rfl rfl rfl (by focus (simp [*]; done)); exact s_load rfl rfl rfl; apply g0; exact wnt_g rfl rfl rfl (by focus (simp [*]; done))
 exact sF rfl; apply g0; exact wnt_g rfl rfl rfl (by focus (simp [*]; done)); exact s_load rfl rfl rfl; apply g0; exact wnt_g rfl rfl rfl (by focus (simp [*]; done))
 exact s_eq rfl rfl; apply g0; exact wnt_g rfl rfl rfl (by focus (simp [*]; done)); exact sM rfl; apply g0; exact wnt_g rfl rfl rfl (by simp only [*]; rfl)
 exact sF rfl; apply g0; exact wnt_g rfl rfl rfl (by simp only [*]; rfl); exact s_loadN rfl rfl (lb rfl) (agu_nm8 rfl)
 apply g0; exact wnt_g rfl rfl rfl (by simp only [*]; rfl); exact sF rfl; apply g0; exact wnt_g rfl rfl rfl (by simp only [*]; rfl)
 exact s_loadN rfl rfl (lb rfl) (agu_nm8 rfl); apply gq; exact wnt_g rfl rfl rfl (by simp only [*]; rfl); exact s_call (f := 116) rfl (eC rfl (eC rfl eN)) (aC aL (aC aL aN)) (cmpNm_ok _ _) (lb rfl)
 dsimp only [reduceAdd, reduceMul, reduceSub, na, ca, nbk, mc, ml]; apply g0; exact wnt_g rfl rfl rfl (by simp only [*]; rfl)
 exact s_ge rfl rfl; apply g0; exact wnt_g rfl rfl rfl (by focus (simp [*]; done)); exact s_pick_t rfl (by assumption) rfl; apply g0; exact wnt_g rfl rfl rfl rfl
 exact s_pick_f rfl (by assumption) rfl; apply g0; exact wnt_g rfl rfl rfl rfl; exact s_pick_t rfl rfl rfl; apply t0; exact s_pick_f rfl rfl rfl; dsimp only [reduceAdd, reduceMul]
 exact dn; exact rfl)
          refine Gol.cond_t rfl (by first | rfl | assumption) ?_
          (
 refine Gol.exit ?_; refine thn_x ?_; refine inBlk_hit ?_; refine thn_n ?_; apply Gol.region
 apply t0; exact s_addn rfl rfl (by simp <;> omega); apply t0; exact sM rfl; dsimp only [reduceAdd, reduceMul]; exact dn; exact rfl)
          refine rnd_n (i + 1, K2) ⟨hlt, hK2⟩ (by dsimp only; omega) ?_
          dsimp only
          rw [hN]
          refine Le.fn2 rfl rfl rfl ?_
          (
 apply Le.mk3' []; apply RnT3.c; exact rfl; apply Rn3.r; exact Rn.pt rfl rfl; apply RnT3.c; exact rfl; apply Rn3.r; exact Rn.pt rfl rfl; apply RnT3.c; exact rfl
 apply Rn3.r; exact Rn.pt rfl rfl; apply RnT3.c; exact rfl; apply Rn3.r; exact Rn.v rfl; apply RnT3.c; exact rfl; apply Rn3.r; exact Rn.clo inferInstance rfl
 apply RnT3.c; exact rfl; apply Rn3.r; exact Rn.v rfl; apply RnT3.c; exact rfl; apply Rn3.r; exact Rn.v rfl; exact RnT3.n; apply RnH3.c; exact rfl; exact rfl
 apply RnC.l; apply Rn3L.cons; apply Rn3.r; exact Rn.clo inferInstance rfl; apply Rn3L.cons; apply Rn3.r; exact Rn.clo inferInstance rfl; apply Rn3L.cons
 apply Rn3.r; exact Rn.clo inferInstance rfl; apply Rn3L.cons; apply Rn3.r; exact Rn.clo inferInstance rfl; apply Rn3L.cons; apply Rn3.r; exact Rn.mp rfl
 exact Rn3L.nil; exact rfl; exact rfl; apply RnH3.c; exact rfl; exact rfl; apply RnC.cl; rfl; exact inferInstance; exact rfl; exact rfl; apply RnH3.c; exact rfl
 exact rfl; apply RnC.l; apply Rn3L.cons; apply Rn3.r; exact Rn.pt rfl rfl; exact Rn3L.nil; exact rfl; exact rfl; apply RnH3.c; exact rfl; exact rfl; apply RnC.cl
 rfl; exact inferInstance; exact rfl; exact rfl; apply RnH3.c; exact rfl; exact rfl; apply RnC.cl; rfl; exact inferInstance; exact rfl; exact rfl; apply RnH3.c
 exact rfl; exact rfl; apply RnC.cl; rfl; exact inferInstance; exact rfl; exact rfl; exact RnH3.n; exact rfl; exact rfl)
        · have d4 : decide (0 ≤ cmpN z.n b.n) = false := decide_eq_false h4
          rw [hiOne_new hz h1 (by unfold hiB; rw [d2, d3, d4]; rfl)] at hN
          (
 refine Gol.seq ?_; apply Gol.sr; apply t0; exact sM rfl; apply t0; exact sF rfl; apply t0; exact s_loadN rfl rfl (lb rfl) (agu_nm8 rfl)
 dsimp only [reduceAdd, reduceMul, reduceSub, na, ca, nbk, mc, ml]; apply tq; apply s_acts (f := C) [0, 1, 2, 3] rfl inferInstance; exact hc; apply eC rfl; exact eN; exact rfl
 apply ABs.cons; exact rfl; exact rfl; exact rfl; apply rK; apply rK; apply rK; apply rK; apply RenL.cons; apply Ren.mp; exact CaR.old rfl; exact RenL.nil; apply ABs.cons
 exact rfl; exact rfl; exact rfl; exact RenL.clo; apply ABs.cons; exact rfl; exact rfl; exact rfl; apply RenL.cons; apply Ren.pt; exact CaR.old rfl; exact RenL.nil
 apply ABs.cons; exact rfl; exact rfl; exact rfl; exact RenL.clo; exact ABs.nil; dsimp only [List.cons_append, List.nil_append, List.append_nil]; apply rK; apply RenL.cons; apply Ren.pt; exact CaR.old rfl; apply RenL.cons; apply Ren.pt; exact CaR.old rfl; exact RenL.nil; exact rZ
 apply HRen.kept; exact CaR.old rfl; apply rK; apply rK; apply rK
 apply rK; apply RenL.cons; apply Ren.mp; exact CaR.old rfl; exact RenL.nil; apply HRen.kept; exact CaR.old rfl; exact RenL.clo
 apply HRen.kept; exact CaR.old rfl; apply RenL.cons; apply Ren.pt; exact CaR.old rfl; exact RenL.nil; apply HRen.kept; exact CaR.old rfl; exact RenL.clo
 exact HRen.nil; exact lb rfl; dsimp only [reduceAdd, reduceMul, reduceSub, na, ca, nbk, nones, mc, ml]
 apply t0; exact s_not rfl; apply t0; exact sM rfl; apply g0; exact wnt_g rfl rfl rfl rfl; exact sM rfl; apply g0; exact wnt_g rfl rfl rfl rfl
 exact sM rfl; apply g0; exact wnt_g rfl rfl rfl rfl; exact sF rfl; apply g0; exact wnt_g rfl rfl rfl rfl; exact s_load rfl rfl rfl; apply g0
 exact wnt_g rfl rfl rfl rfl; exact sF rfl; apply g0; exact wnt_g rfl rfl rfl rfl; exact s_load rfl rfl rfl; apply g0; exact wnt_g rfl rfl rfl rfl
 exact s_lt rfl rfl; apply g0; exact wnt_g rfl rfl rfl rfl; exact sM rfl; apply g0; exact wnt_g rfl rfl rfl (by focus (simp [*]; done)); exact sF rfl
 apply g0; exact wnt_g rfl rfl rfl (by focus (simp [*]; done)); exact s_load rfl rfl rfl; apply g0; exact wnt_g rfl rfl rfl (by focus (simp [*]; done))
 exact sF rfl; apply g0; exact wnt_g rfl rfl rfl (by focus (simp [*]; done)); exact s_load rfl rfl rfl; apply g0; exact wnt_g rfl rfl rfl (by focus (simp [*]; done))
 exact s_eq rfl rfl; apply g0; exact wnt_g rfl rfl rfl (by focus (simp [*]; done)); exact sM rfl; apply g0; exact wnt_g rfl rfl rfl (by simp only [*]; rfl)
 exact sF rfl; apply g0; exact wnt_g rfl rfl rfl (by simp only [*]; rfl); exact s_loadN rfl rfl (lb rfl) (agu_nm8 rfl)
 apply g0; exact wnt_g rfl rfl rfl (by simp only [*]; rfl); exact sF rfl; apply g0; exact wnt_g rfl rfl rfl (by simp only [*]; rfl)
 exact s_loadN rfl rfl (lb rfl) (agu_nm8 rfl); apply gq; exact wnt_g rfl rfl rfl (by simp only [*]; rfl); exact s_call (f := 116) rfl (eC rfl (eC rfl eN)) (aC aL (aC aL aN)) (cmpNm_ok _ _) (lb rfl)
 dsimp only [reduceAdd, reduceMul, reduceSub, na, ca, nbk, mc, ml]; apply g0; exact wnt_g rfl rfl rfl (by simp only [*]; rfl)
 exact s_ge rfl rfl; apply g0; exact wnt_g rfl rfl rfl (by focus (simp [*]; done)); exact s_pick_t rfl (by assumption) rfl; apply g0; exact wnt_g rfl rfl rfl rfl
 exact s_pick_f rfl (by assumption) rfl; apply g0; exact wnt_g rfl rfl rfl rfl; exact s_pick_t rfl rfl rfl; apply t0; exact s_pick_f rfl rfl rfl; dsimp only [reduceAdd, reduceMul]
 exact dn; exact rfl)
          refine Gol.cond_f rfl (by first | rfl | assumption) ?_
          (
 refine Gol.skip ?_; refine thn_n ?_; apply Gol.region; apply t0; exact s_loadW rfl rfl rfl (agu_cua _)
 apply n1; exact s_storeW rfl rfl rfl rfl rfl rfl; apply t0; exact sA rfl; dsimp only [reduceAdd, reduceMul]; exact dn; exact rfl; refine inBlk_n ?_
 refine thn_n ?_; apply Gol.region; apply t0; exact s_addn rfl rfl (by simp <;> omega); apply t0; exact sM rfl; dsimp only [reduceAdd, reduceMul]
 exact dn; exact rfl)
          refine rnd_n (i + 1, K2) ⟨hlt, hK2⟩ (by dsimp only; omega) ?_
          dsimp only
          rw [hN]
          refine Le.fn2 rfl rfl rfl ?_
          (
 apply Le.mk3' []; apply RnT3.c; exact rfl; apply Rn3.r; exact Rn.pt rfl rfl; apply RnT3.c; exact rfl; apply Rn3.r; exact Rn.pt rfl rfl; apply RnT3.c; exact rfl
 apply Rn3.r; exact Rn.pt rfl rfl; apply RnT3.c; exact rfl; apply Rn3.r; exact Rn.v rfl; apply RnT3.c; exact rfl; apply Rn3.r; exact Rn.clo inferInstance rfl
 apply RnT3.c; exact rfl; apply Rn3.r; exact Rn.v rfl; apply RnT3.c; exact rfl; apply Rn3.r; exact Rn.v rfl; exact RnT3.n; apply RnH3.c; exact rfl; exact rfl
 apply RnC.l; apply Rn3L.cons; apply Rn3.r; exact Rn.clo inferInstance rfl; apply Rn3L.cons; apply Rn3.r; exact Rn.clo inferInstance rfl; apply Rn3L.cons
 apply Rn3.r; exact Rn.clo inferInstance rfl; apply Rn3L.cons; apply Rn3.r; exact Rn.clo inferInstance rfl; apply Rn3L.cons; apply Rn3.r; exact Rn.mp rfl
 exact Rn3L.nil; exact rfl; exact rfl; apply RnH3.c; exact rfl; exact rfl; apply RnC.cl; rfl; exact inferInstance; exact rfl; exact rfl; apply RnH3.c; exact rfl
 exact rfl; apply RnC.l; apply Rn3L.cons; apply Rn3.r; exact Rn.pt rfl rfl; exact Rn3L.nil; exact rfl; exact rfl; apply RnH3.c; exact rfl; exact rfl; apply RnC.cl
 rfl; exact inferInstance; exact rfl; exact rfl; apply RnH3.c; exact rfl; exact rfl; apply RnC.cl; rfl; exact inferInstance; exact rfl; exact rfl; apply RnH3.c
 exact rfl; exact rfl; apply RnC.cl; rfl; exact inferInstance; exact rfl; exact rfl; exact RnH3.n; exact rfl; exact rfl)
      · have d3 : decide (z.h = b.h) = false := decide_eq_false h3
        rw [hiOne_new hz h1 (by unfold hiB; rw [d2, d3]; rfl)] at hN
        (
 refine Gol.seq ?_; apply Gol.sr; apply t0; exact sM rfl; apply t0; exact sF rfl; apply t0; exact s_loadN rfl rfl (lb rfl) (agu_nm8 rfl)
 dsimp only [reduceAdd, reduceMul, reduceSub, na, ca, nbk, mc, ml]; apply tq; apply s_acts (f := C) [0, 1, 2, 3] rfl inferInstance; exact hc; apply eC rfl; exact eN; exact rfl
 apply ABs.cons; exact rfl; exact rfl; exact rfl; apply rK; apply rK; apply rK; apply rK; apply RenL.cons; apply Ren.mp; exact CaR.old rfl; exact RenL.nil; apply ABs.cons
 exact rfl; exact rfl; exact rfl; exact RenL.clo; apply ABs.cons; exact rfl; exact rfl; exact rfl; apply RenL.cons; apply Ren.pt; exact CaR.old rfl; exact RenL.nil
 apply ABs.cons; exact rfl; exact rfl; exact rfl; exact RenL.clo; exact ABs.nil; dsimp only [List.cons_append, List.nil_append, List.append_nil]; apply rK; apply RenL.cons; apply Ren.pt; exact CaR.old rfl; apply RenL.cons; apply Ren.pt; exact CaR.old rfl; exact RenL.nil; exact rZ
 apply HRen.kept; exact CaR.old rfl; apply rK; apply rK; apply rK
 apply rK; apply RenL.cons; apply Ren.mp; exact CaR.old rfl; exact RenL.nil; apply HRen.kept; exact CaR.old rfl; exact RenL.clo
 apply HRen.kept; exact CaR.old rfl; apply RenL.cons; apply Ren.pt; exact CaR.old rfl; exact RenL.nil; apply HRen.kept; exact CaR.old rfl; exact RenL.clo
 exact HRen.nil; exact lb rfl; dsimp only [reduceAdd, reduceMul, reduceSub, na, ca, nbk, nones, mc, ml]
 apply t0; exact s_not rfl; apply t0; exact sM rfl; apply g0; exact wnt_g rfl rfl rfl rfl; exact sM rfl; apply g0; exact wnt_g rfl rfl rfl rfl
 exact sM rfl; apply g0; exact wnt_g rfl rfl rfl rfl; exact sF rfl; apply g0; exact wnt_g rfl rfl rfl rfl; exact s_load rfl rfl rfl; apply g0
 exact wnt_g rfl rfl rfl rfl; exact sF rfl; apply g0; exact wnt_g rfl rfl rfl rfl; exact s_load rfl rfl rfl; apply g0; exact wnt_g rfl rfl rfl rfl
 exact s_lt rfl rfl; apply g0; exact wnt_g rfl rfl rfl rfl; exact sM rfl; apply g0; exact wnt_g rfl rfl rfl (by simp only [*]; rfl); exact sF rfl
 apply g0; exact wnt_g rfl rfl rfl (by simp only [*]; rfl); exact s_load rfl rfl rfl; apply g0; exact wnt_g rfl rfl rfl (by simp only [*]; rfl)
 exact sF rfl; apply g0; exact wnt_g rfl rfl rfl (by simp only [*]; rfl); exact s_load rfl rfl rfl; apply g0; exact wnt_g rfl rfl rfl (by simp only [*]; rfl)
 exact s_eq rfl rfl; apply g0; exact wnt_g rfl rfl rfl (by simp only [*]; rfl); exact sM rfl; apply sk; exact wnt_g rfl rfl rfl (by simp only [*]; rfl)
 apply sk; exact wnt_g rfl rfl rfl (by simp only [*]; rfl); apply sk; exact wnt_g rfl rfl rfl (by simp only [*]; rfl); apply sk; exact wnt_g rfl rfl rfl (by simp only [*]; rfl)
 apply sk; exact wnt_g rfl rfl rfl (by simp only [*]; rfl); apply sk; exact wnt_g rfl rfl rfl (by simp only [*]; rfl); apply g0; exact wnt_g rfl rfl rfl (by simp only [*]; rfl)
 exact s_pick_f rfl (by assumption) rfl; apply g0; exact wnt_g rfl rfl rfl rfl; exact s_pick_f rfl (by assumption) rfl; apply g0; exact wnt_g rfl rfl rfl rfl
 exact s_pick_t rfl rfl rfl; apply t0; exact s_pick_f rfl rfl rfl; dsimp only [reduceAdd, reduceMul]; exact dn; exact rfl)
        refine Gol.cond_f rfl (by first | rfl | assumption) ?_
        (
 refine Gol.skip ?_; refine thn_n ?_; apply Gol.region; apply t0; exact s_loadW rfl rfl rfl (agu_cua _)
 apply n1; exact s_storeW rfl rfl rfl rfl rfl rfl; apply t0; exact sA rfl; dsimp only [reduceAdd, reduceMul]; exact dn; exact rfl; refine inBlk_n ?_
 refine thn_n ?_; apply Gol.region; apply t0; exact s_addn rfl rfl (by simp <;> omega); apply t0; exact sM rfl; dsimp only [reduceAdd, reduceMul]
 exact dn; exact rfl)
        refine rnd_n (i + 1, K2) ⟨hlt, hK2⟩ (by dsimp only; omega) ?_
        dsimp only
        rw [hN]
        refine Le.fn2 rfl rfl rfl ?_
        (
 apply Le.mk3' []; apply RnT3.c; exact rfl; apply Rn3.r; exact Rn.pt rfl rfl; apply RnT3.c; exact rfl; apply Rn3.r; exact Rn.pt rfl rfl; apply RnT3.c; exact rfl
 apply Rn3.r; exact Rn.pt rfl rfl; apply RnT3.c; exact rfl; apply Rn3.r; exact Rn.v rfl; apply RnT3.c; exact rfl; apply Rn3.r; exact Rn.clo inferInstance rfl
 apply RnT3.c; exact rfl; apply Rn3.r; exact Rn.v rfl; apply RnT3.c; exact rfl; apply Rn3.r; exact Rn.v rfl; exact RnT3.n; apply RnH3.c; exact rfl; exact rfl
 apply RnC.l; apply Rn3L.cons; apply Rn3.r; exact Rn.clo inferInstance rfl; apply Rn3L.cons; apply Rn3.r; exact Rn.clo inferInstance rfl; apply Rn3L.cons
 apply Rn3.r; exact Rn.clo inferInstance rfl; apply Rn3L.cons; apply Rn3.r; exact Rn.clo inferInstance rfl; apply Rn3L.cons; apply Rn3.r; exact Rn.mp rfl
 exact Rn3L.nil; exact rfl; exact rfl; apply RnH3.c; exact rfl; exact rfl; apply RnC.cl; rfl; exact inferInstance; exact rfl; exact rfl; apply RnH3.c; exact rfl
 exact rfl; apply RnC.l; apply Rn3L.cons; apply Rn3.r; exact Rn.pt rfl rfl; exact Rn3L.nil; exact rfl; exact rfl; apply RnH3.c; exact rfl; exact rfl; apply RnC.cl
 rfl; exact inferInstance; exact rfl; exact rfl; apply RnH3.c; exact rfl; exact rfl; apply RnC.cl; rfl; exact inferInstance; exact rfl; exact rfl; apply RnH3.c
 exact rfl; exact rfl; apply RnC.cl; rfl; exact inferInstance; exact rfl; exact rfl; exact RnH3.n; exact rfl; exact rfl)
theorem baseB_ok (l : List It) (vs : List Vt) (f : Bool) (K : List (UInt64 × Stu)) (hl : l.length ≤ 1000000) (hsm : ∀ x ∈ l, Sm x.st) (hK : KnOk S l vs K) (g : Int) :
    Acts Tryz.prog 46 [bookB l vs f, knB K] [.pt 0 0, .v (.int .i64 g)] (.v (.agg (nameC (hiF (fun n => lockedB (stqN S l vs n) g) l)))) [none, none] := by
  have h := hi_ok S hS 81 (fun n => lockedB (stqN S l vs n) g) l vs f K hl hK g (fun K n hK => baseFn_ok S hS l vs f K n hl hsm hK g)
  generalize hiF (fun n => lockedB (stqN S l vs n) g) l = r at h ⊢
  refine Acts.of (fn := Tryz.f46) Tryz.func46 rfl (lb rfl) (lb rfl) fun w bl hid loc => ?_
  (
 apply Gol.sr; apply t1; exact s_box rfl rfl; apply t1; exact s_box rfl rfl; apply t1; exact s_alloc; dsimp only [reduceAdd, reduceMul]; exact dn
 exact rfl; apply Gol.sr; apply t0; exact s_load rfl rfl rfl; apply t0; exact s_mkf (eC rfl (eC rfl eN)); dsimp only [reduceAdd, reduceMul, reduceSub, na, ca, nbk, mc, ml]
 apply tq; apply s_acts (f := 80) [0, 1, 8, 16] rfl inferInstance; exact h; apply eC rfl
 apply eC rfl; exact eN; exact rfl; apply ABs.cons; exact rfl; exact rfl; exact rfl; apply rK; apply rK; apply rK; apply rK; apply RenL.cons; apply Ren.mp
 exact CaR.old rfl; exact RenL.nil; apply ABs.cons; exact rfl; exact rfl; exact rfl; exact RenL.clo; apply ABs.cons; exact rfl; exact rfl; exact rfl; apply RenL.cons
 apply Ren.pt; exact CaR.old rfl; exact RenL.nil; apply ABs.cons; exact rfl; exact rfl; exact rfl; exact RenL.clo; exact ABs.nil; dsimp only [List.cons_append, List.nil_append, List.append_nil]
 apply RenL.cons; apply Ren.pt; exact CaR.old rfl; apply RenL.cons; apply Ren.fnL; apply RenL.cons; apply Ren.pt; exact CaR.old rfl; apply RenL.cons; apply Ren.pt
 exact CaR.old rfl; exact RenL.nil; exact RenL.nil; exact rZ; apply HRen.gone; exact CaR.old rfl; apply HRen.gone; exact CaR.old rfl
 apply HRen.gone; exact CaR.old rfl; apply HRen.gone; exact CaR.old rfl; exact HRen.nil; exact lb rfl; dsimp only [reduceAdd, reduceMul, reduceSub, na, ca, nbk, nones, mc, ml]
 apply n1; exact s_storeW rfl rfl rfl rfl rfl rfl; dsimp only [reduceAdd, reduceMul]; exact dn; exact rfl; refine Gol.ret ?_)
  (
 apply RetA.mk [0, 1] (by first | exact .inr rfl | exact .inl rfl); apply res_1 rfl; exact res_cell rfl rfl rfl (agu_cuv _); exact rfl; exact rfl; exact rfl
 apply OAs.gone; apply OAs.gone; exact OAs.nil; exact rZ)
theorem base_ok (l : List It) (vs : List Vt) (f f2 : Bool) (hl : l.length ≤ 1000000) (hv : vs.length ≤ 1000000) (hsm : ∀ x ∈ l, Sm x.st) (g : Int) :
    Fresh Tryz.prog 13 [.ex l.length f (itsA l), .ex vs.length f2 (vtsA vs), .v (.int .i64 g)] (fun _ => .v (.agg (nameC (hiF (fun n => lockedB (stqN S l vs n) g) l)))) [] := by
  have ho := open_ok l vs f f2 hl hv
  have h := baseB_ok S hS l vs f [] hl hsm (knOk_nil S l vs) g
  generalize hiF (fun n => lockedB (stqN S l vs n) g) l = r at h ⊢
  refine Fresh.of (fn := Tryz.f13) Tryz.func13 rfl (lb rfl) fun w => ?_
  (
 apply Gol.sr; apply t1; exact s_alloc; dsimp only [reduceAdd, reduceMul]; exact dn; exact rfl; apply Gol.sr; apply t0; exact sM rfl; apply t0
 exact sM rfl; dsimp only [reduceAdd, reduceMul, reduceSub, na, ca, nbk, mc, ml]; apply tq; apply s_acts (f := 45) [] rfl inferInstance; exact ho; apply eC rfl; apply eC rfl; exact eN; exact rfl
 exact ABs.nil; dsimp only [List.cons_append, List.nil_append, List.append_nil]; exact RenL.clo; apply Ren.pt; exact CaR.new 0 rfl rfl; apply HRen.kept
 exact CaR.new 0 rfl rfl; apply rK; apply rK; apply rK
 apply rK; apply RenL.cons; apply Ren.mp; exact CaR.new 1 rfl rfl; exact RenL.nil; apply HRen.kept; exact CaR.new 1 rfl rfl
 exact RenL.clo; exact HRen.nil; exact lb rfl; dsimp only [reduceAdd, reduceMul, reduceSub, na, ca, nbk, nones, mc, ml]
 apply t0; exact sM rfl; dsimp only [reduceAdd, reduceMul, reduceSub, na, ca, nbk, mc, ml]
 apply tq; apply s_acts (f := 46) [24, 25] rfl inferInstance; exact h; apply eC rfl
 apply eC rfl; exact eN; exact rfl; apply ABs.cons; exact rfl; exact rfl; exact rfl; apply rK; apply rK; apply rK; apply rK; apply RenL.cons; apply Ren.mp
 exact CaR.old rfl; exact RenL.nil; apply ABs.cons; exact rfl; exact rfl; exact rfl; exact RenL.clo; exact ABs.nil; dsimp only [List.cons_append, List.nil_append, List.append_nil]
 apply RenL.cons; apply Ren.pt; exact CaR.old rfl; apply rK; exact RenL.nil; exact rZ; apply HRen.gone
 exact CaR.old rfl; apply HRen.gone; exact CaR.old rfl; exact HRen.nil; exact lb rfl; dsimp only [reduceAdd, reduceMul, reduceSub, na, ca, nbk, nones, mc, ml]
 apply n1; exact s_storeW rfl rfl rfl rfl rfl rfl; dsimp only [reduceAdd, reduceMul]; exact dn; exact rfl; refine Gol.ret ?_)
  (apply RetQ.mk (by first | exact .inr rfl | exact .inl rfl); apply res_1 rfl; exact res_cell rfl rfl rfl (agu_cuv _); exact out_val)
theorem lastFn_ok (l : List It) (vs : List Vt) (f : Bool) (K : List (UInt64 × Stu)) (n : UInt64) (hl : l.length ≤ 1000000) (hsm : ∀ x ∈ l, Sm x.st) (hK : KnOk S l vs K) (g : Int) :
    Acts Tryz.prog 83 [bookB l vs f, knB K, ⟨[.pt 0 0], 66, 1⟩, ⟨[.v (.int .i64 g)], 26, 1⟩] [.v (.agg (nameC n)), .pt 2 0, .pt 3 0] (.v (.bool (finalB (stqN S l vs n) g))) [some (bookB l vs f), some (knB (knF S l vs K n)), some ⟨[.pt 0 0], 66, 1⟩, some ⟨[.v (.int .i64 g)], 26, 1⟩] := by
  have h := bfinal_ok S hS l vs f K n hl hsm hK g
  generalize knF S l vs K n = K2 at h ⊢
  generalize finalB (stqN S l vs n) g = r at h ⊢
  refine Acts.of (fn := Tryz.f83) Tryz.func83 rfl (lb rfl) (lb rfl) fun w bl hid loc => ?_
  (
 apply Gol.sr; apply t1; exact s_box rfl rfl; apply t0; exact sA rfl; dsimp only [reduceAdd, reduceMul]; exact dn; exact rfl; apply Gol.sr
 apply t0; exact s_load rfl rfl rfl; apply t0; exact s_load rfl rfl rfl; apply t0; exact s_loadW rfl rfl rfl (agu_cuv _); dsimp only [reduceAdd, reduceMul, reduceSub, na, ca, nbk, mc, ml]
 apply tq; apply s_acts (f := 66) [0, 1] rfl inferInstance; exact h; apply eC rfl
 apply eC rfl; apply eC rfl; exact eN; exact rfl; apply ABs.cons; exact rfl; exact rfl; exact rfl; apply rK
 apply rK; apply rK; apply rK; apply RenL.cons
 apply Ren.mp; exact CaR.old rfl; exact RenL.nil; apply ABs.cons; exact rfl; exact rfl; exact rfl; exact RenL.clo; exact ABs.nil; dsimp only [List.cons_append, List.nil_append, List.append_nil]
 apply RenL.cons; apply Ren.pt; exact CaR.old rfl; apply rK; apply rK; exact RenL.nil
 exact rZ; apply HRen.kept; exact CaR.old rfl; apply rK; apply rK
 apply rK; apply rK; apply RenL.cons; apply Ren.mp; exact CaR.old rfl; exact RenL.nil
 apply HRen.kept; exact CaR.old rfl; exact RenL.clo; exact HRen.nil; exact lb rfl; dsimp only [reduceAdd, reduceMul, reduceSub, na, ca, nbk, nones, mc, ml]
 apply t0; exact sA rfl; dsimp only [reduceAdd, reduceMul]; exact dn; exact rfl; refine Gol.ret ?_)
  (
 apply RetA.mk [0, 1, 2, 3] (by first | exact .inr rfl | exact .inl rfl); apply res_1 rfl; exact res_tmp rfl; exact rfl; exact rfl; exact rfl; apply OAs.kept
 exact rfl; exact rfl; exact rfl; apply rK; apply rK; apply rK
 apply rK; apply RenL.cons; apply Ren.mp; exact IdR.mk rfl; exact RenL.nil; apply OAs.kept; exact rfl; exact rfl; exact rfl
 exact RenL.clo; apply OAs.kept; exact rfl; exact rfl; exact rfl; apply RenL.cons; apply Ren.pt; exact IdR.mk rfl; exact RenL.nil; apply OAs.kept; exact rfl
 exact rfl; exact rfl; exact RenL.clo; exact OAs.nil; exact rZ)
theorem lastB_ok (l : List It) (vs : List Vt) (f : Bool) (K : List (UInt64 × Stu)) (hl : l.length ≤ 1000000) (hsm : ∀ x ∈ l, Sm x.st) (hK : KnOk S l vs K) (g : Int) :
    Acts Tryz.prog 49 [bookB l vs f, knB K] [.pt 0 0, .v (.int .i64 g)] (.v (.agg (nameC (hiF (fun n => finalB (stqN S l vs n) g) l)))) [none, none] := by
  have h := hi_ok S hS 83 (fun n => finalB (stqN S l vs n) g) l vs f K hl hK g (fun K n hK => lastFn_ok S hS l vs f K n hl hsm hK g)
  generalize hiF (fun n => finalB (stqN S l vs n) g) l = r at h ⊢
  refine Acts.of (fn := Tryz.f49) Tryz.func49 rfl (lb rfl) (lb rfl) fun w bl hid loc => ?_
  (
 apply Gol.sr; apply t1; exact s_box rfl rfl; apply t1; exact s_box rfl rfl; apply t1; exact s_alloc; dsimp only [reduceAdd, reduceMul]; exact dn
 exact rfl; apply Gol.sr; apply t0; exact s_load rfl rfl rfl; apply t0; exact s_mkf (eC rfl (eC rfl eN)); dsimp only [reduceAdd, reduceMul, reduceSub, na, ca, nbk, mc, ml]
 apply tq; apply s_acts (f := 80) [0, 1, 8, 16] rfl inferInstance; exact h; apply eC rfl
 apply eC rfl; exact eN; exact rfl; apply ABs.cons; exact rfl; exact rfl; exact rfl; apply rK; apply rK; apply rK; apply rK; apply RenL.cons; apply Ren.mp
 exact CaR.old rfl; exact RenL.nil; apply ABs.cons; exact rfl; exact rfl; exact rfl; exact RenL.clo; apply ABs.cons; exact rfl; exact rfl; exact rfl; apply RenL.cons
 apply Ren.pt; exact CaR.old rfl; exact RenL.nil; apply ABs.cons; exact rfl; exact rfl; exact rfl; exact RenL.clo; exact ABs.nil; dsimp only [List.cons_append, List.nil_append, List.append_nil]
 apply RenL.cons; apply Ren.pt; exact CaR.old rfl; apply RenL.cons; apply Ren.fnL; apply RenL.cons; apply Ren.pt; exact CaR.old rfl; apply RenL.cons; apply Ren.pt
 exact CaR.old rfl; exact RenL.nil; exact RenL.nil; exact rZ; apply HRen.gone; exact CaR.old rfl; apply HRen.gone; exact CaR.old rfl
 apply HRen.gone; exact CaR.old rfl; apply HRen.gone; exact CaR.old rfl; exact HRen.nil; exact lb rfl; dsimp only [reduceAdd, reduceMul, reduceSub, na, ca, nbk, nones, mc, ml]
 apply n1; exact s_storeW rfl rfl rfl rfl rfl rfl; dsimp only [reduceAdd, reduceMul]; exact dn; exact rfl; refine Gol.ret ?_)
  (
 apply RetA.mk [0, 1] (by first | exact .inr rfl | exact .inl rfl); apply res_1 rfl; exact res_cell rfl rfl rfl (agu_cuv _); exact rfl; exact rfl; exact rfl
 apply OAs.gone; apply OAs.gone; exact OAs.nil; exact rZ)
theorem last_ok (l : List It) (vs : List Vt) (f f2 : Bool) (hl : l.length ≤ 1000000) (hv : vs.length ≤ 1000000) (hsm : ∀ x ∈ l, Sm x.st) (g : Int) :
    Fresh Tryz.prog 15 [.ex l.length f (itsA l), .ex vs.length f2 (vtsA vs), .v (.int .i64 g)] (fun _ => .v (.agg (nameC (hiF (fun n => finalB (stqN S l vs n) g) l)))) [] := by
  have ho := open_ok l vs f f2 hl hv
  have h := lastB_ok S hS l vs f [] hl hsm (knOk_nil S l vs) g
  generalize hiF (fun n => finalB (stqN S l vs n) g) l = r at h ⊢
  refine Fresh.of (fn := Tryz.f15) Tryz.func15 rfl (lb rfl) fun w => ?_
  (
 apply Gol.sr; apply t1; exact s_alloc; dsimp only [reduceAdd, reduceMul]; exact dn; exact rfl; apply Gol.sr; apply t0; exact sM rfl; apply t0
 exact sM rfl; dsimp only [reduceAdd, reduceMul, reduceSub, na, ca, nbk, mc, ml]; apply tq; apply s_acts (f := 45) [] rfl inferInstance; exact ho; apply eC rfl; apply eC rfl; exact eN; exact rfl
 exact ABs.nil; dsimp only [List.cons_append, List.nil_append, List.append_nil]; exact RenL.clo; apply Ren.pt; exact CaR.new 0 rfl rfl; apply HRen.kept
 exact CaR.new 0 rfl rfl; apply rK; apply rK; apply rK
 apply rK; apply RenL.cons; apply Ren.mp; exact CaR.new 1 rfl rfl; exact RenL.nil; apply HRen.kept; exact CaR.new 1 rfl rfl
 exact RenL.clo; exact HRen.nil; exact lb rfl; dsimp only [reduceAdd, reduceMul, reduceSub, na, ca, nbk, nones, mc, ml]
 apply t0; exact sM rfl; dsimp only [reduceAdd, reduceMul, reduceSub, na, ca, nbk, mc, ml]
 apply tq; apply s_acts (f := 49) [24, 25] rfl inferInstance; exact h; apply eC rfl
 apply eC rfl; exact eN; exact rfl; apply ABs.cons; exact rfl; exact rfl; exact rfl; apply rK; apply rK; apply rK; apply rK; apply RenL.cons; apply Ren.mp
 exact CaR.old rfl; exact RenL.nil; apply ABs.cons; exact rfl; exact rfl; exact rfl; exact RenL.clo; exact ABs.nil; dsimp only [List.cons_append, List.nil_append, List.append_nil]
 apply RenL.cons; apply Ren.pt; exact CaR.old rfl; apply rK; exact RenL.nil; exact rZ; apply HRen.gone
 exact CaR.old rfl; apply HRen.gone; exact CaR.old rfl; exact HRen.nil; exact lb rfl; dsimp only [reduceAdd, reduceMul, reduceSub, na, ca, nbk, nones, mc, ml]
 apply n1; exact s_storeW rfl rfl rfl rfl rfl rfl; dsimp only [reduceAdd, reduceMul]; exact dn; exact rfl; refine Gol.ret ?_)
  (apply RetQ.mk (by first | exact .inr rfl | exact .inl rfl); apply res_1 rfl; exact res_cell rfl rfl rfl (agu_cuv _); exact out_val)
end
end Go.Proofs.YtneeclacmhhblaaGreat


namespace Go.Proofs.YtneeclacmhhblaaGreat
open Go.RowKit
open Nat (reduceAdd reduceMul reduceSub)

def InM (m : Int) : Prop := ∃ x : BitVec 64, m = x.toInt ∧ x &&& ~~~(1023#64) = 0#64
theorem InM.eq {m : Int} (h : InM m) : andI m 1023 = m := by
  obtain ⟨x, rfl, hx⟩ := h
  exact in1023 (by rw [bv_int]; exact hx) ⟨x, rfl⟩
theorem InM.andNot {m : Int} (h : InM m) (g : Int) : InM (andNotI m g) := by
  obtain ⟨x, rfl, hx⟩ := h
  refine ⟨x &&& ~~~bv g, by rw [andNotI_bv, bv_int], ?_⟩
  rw [BitVec.and_assoc, BitVec.and_comm (~~~bv g), ← BitVec.and_assoc, hx, BitVec.zero_and]
theorem InM.or {a b : Int} (h : InM a) (k : InM b) : InM (orI a b) := by
  obtain ⟨x, rfl, hx⟩ := h
  obtain ⟨y, rfl, hy⟩ := k
  refine ⟨x ||| y, by rw [orI_bv, bv_int, bv_int], ?_⟩
  rw [BitVec.and_comm, BitVec.and_or_distrib_left, BitVec.and_comm _ x, BitVec.and_comm _ y, hx, hy]; rfl
theorem InM.zero : InM 0 := ⟨0#64, rfl, by decide⟩
theorem InM.bit (i : Int) : InM (bitN i) := by
  unfold bitN
  split
  · rename_i h
    obtain ⟨n, rfl⟩ := Int.eq_ofNat_of_zero_le h.1
    have hn : n < 10 := by omega
    rw [Int.toNat_natCast]
    have : n = 0 ∨ n = 1 ∨ n = 2 ∨ n = 3 ∨ n = 4 ∨ n = 5 ∨ n = 6 ∨ n = 7 ∨ n = 8 ∨ n = 9 := by omega
    rcases this with rfl | rfl | rfl | rfl | rfl | rfl | rfl | rfl | rfl | rfl
    · exact ⟨1#64, by decide, by decide⟩
    · exact ⟨2#64, by decide, by decide⟩
    · exact ⟨4#64, by decide, by decide⟩
    · exact ⟨8#64, by decide, by decide⟩
    · exact ⟨16#64, by decide, by decide⟩
    · exact ⟨32#64, by decide, by decide⟩
    · exact ⟨64#64, by decide, by decide⟩
    · exact ⟨128#64, by decide, by decide⟩
    · exact ⟨256#64, by decide, by decide⟩
    · exact ⟨512#64, by decide, by decide⟩
  · exact InM.zero
theorem InM.vtr (m k : Int) (p v : UInt64) (vs : List Vt) : InM (vtrN vs m k p v) := by
  have : ∀ (vs : List Vt) (a : Int), InM a → InM (vs.foldl (vtrS m k p v) a) := by
    intro vs
    induction vs with
    | nil => exact fun a h => h
    | cons x vs ih =>
      intro a h
      rw [List.foldl_cons]
      apply ih
      unfold vtrS
      split
      · exact h.or (InM.bit _)
      · exact h
  exact this vs 0 InM.zero
theorem InM.low (c : Int) : InM (andI c 1023) := by
  refine ⟨bv c &&& 1023#64, by rw [andI_bv, bv_1023], ?_⟩
  rw [BitVec.and_assoc, BitVec.and_not_self]
  exact BitVec.and_zero
theorem InM.pos {m : Int} (h : InM m) : decide (0 < sizN m) = !decide (m = 0) ∧ decide (sizN m = 0) = decide (m = 0) := by
  obtain ⟨h1, h2⟩ := size_pos m h.eq
  exact ⟨by rw [h1]; by_cases hm : m = 0 <;> simp [hm], h2⟩
theorem low_andNot (c g : Int) : andNotI (andI c 1023) g = andI (andNotI c g) 1023 := by
  rw [andNotI_bv, bv_and, andI_bv, bv_andNot, bv_1023, BitVec.and_assoc, BitVec.and_comm (1023#64), ← BitVec.and_assoc]
theorem low_size (m : Int) : decide (0 < sizN m) = !decide (andI m 1023 = 0) ∧ decide (sizN m = 0) = decide (andI m 1023 = 0) := by
  obtain ⟨h1, h2⟩ := size_zero m
  have h3 : sizN m = 0 ↔ andI m 1023 = 0 := h1
  by_cases h : andI m 1023 = 0
  · have := h3.2 h
    rw [this, h]; decide
  · have hne : sizN m ≠ 0 := fun e => h (h3.1 e)
    have hp : 0 < sizN m := by omega
    rw [decide_eq_true hp, decide_eq_false h, decide_eq_false hne]; decide
theorem all_low (c g set : Int) : (decide (0 < sizN (andNotI c g)) && decide (sizN (andNotI (andNotI c g) set) = 0)) = (!decide (andNotI (andI c 1023) g = 0) && decide (andNotI (andNotI (andI c 1023) g) set = 0)) := by
  rw [(low_size _).1, (low_size _).2, low_andNot, low_andNot]
section
variable (S : List UInt8 → UInt64)
theorem stq_s_in (l : List It) (vs : List Vt) (n : UInt64) : InM (stqN S l vs n).s ∧ InM (stqN S l vs n).a := by
  unfold stqN
  split
  · rename_i x hx
    unfold stuN
    split
    · exact ⟨InM.low _, InM.low _⟩
    · dsimp only
      refine ⟨?_, ?_⟩
      · split
        · rw [← vtr_eq _ _ _ _ _ (by decide)]; exact InM.vtr _ _ _ _ _
        · split
          · rw [← vtr_eq _ _ _ _ _ (by decide)]; exact InM.vtr _ _ _ _ _
          · exact InM.zero
      · rw [← vtr_eq _ _ _ _ _ (by decide)]; exact InM.vtr _ _ _ _ _
  · exact ⟨InM.zero, InM.zero⟩
end
theorem fnd_ext {l : List It} {j i : Nat} {n : UInt64} (h : fnd (l.take j) n = some i) : fnd l n = some i := by
  have e : l = l.take j ++ l.drop j := (List.take_append_drop j l).symm
  unfold fnd at h ⊢
  rw [e, List.findIdx?_append, h]; rfl
theorem refFind_yes {l : List It} {f : Bool} {n : UInt64} {r : Nat} (h : fnd l n = some r) (hl : l.length ≤ 140737488351232) : Fresh Tryz.prog 47 [.ex l.length f (itsA l), .v (.agg (nameC n))] (fun _ => .v (.int .i64 (r : Int))) [] := by
  refine Fresh.of (fn := Tryz.f47) Tryz.func47 rfl (lb rfl) fun w => ?_
  (
 apply Gol.sr; apply t1; exact s_box rfl rfl; apply t0; exact sA rfl; dsimp only [reduceAdd, reduceMul]; exact dn; exact rfl; refine Gol.seq ?_
 apply Gol.sr; apply t0; exact sA rfl; dsimp only [reduceAdd, reduceMul]; exact dn; exact rfl; refine Gol.block ?_)
  refine Gol.loop (ι := Nat) (fun i => i ≤ l.length ∧ fnd (l.take i) n = none) (fun i => l.length - i) 200 (fun i => [(0, some ⟨cu (.v (.agg (nameC n))), 23, 8⟩)]) (fun i => [(0, .ex l.length f (itsA l)), (3, .pt 0 0), (4, .v (.int .i64 0)), (5, .v (.int .i64 (i : Int)))]) 0 ⟨Nat.zero_le _, rfl⟩ ?_ ?_
  · (
 apply Le.mk3' []; apply RnT3.c; exact rfl; apply Rn3.r; exact Rn.clo inferInstance rfl; apply RnT3.c; exact rfl; apply Rn3.r; exact Rn.pt rfl rfl; apply RnT3.c
 exact rfl; apply Rn3.r; exact Rn.v rfl; apply RnT3.c; exact rfl; apply Rn3.r; exact Rn.v rfl; exact RnT3.n; apply RnH3.c; exact rfl; exact rfl; apply RnC.cl
 rfl; exact inferInstance; exact rfl; exact rfl; exact RnH3.n; exact rfl; exact rfl)
  rintro i ⟨hi, hn⟩
  (
 refine Gol.seq ?_; apply Gol.sr; apply t0; exact sM rfl; apply t0; exact sM rfl; apply t0; exact s_len rfl ln_ex; apply t0; exact s_ltn rfl rfl
 dsimp only [reduceAdd, reduceMul]; exact dn; exact rfl)
  refine Gol.cond rfl (fun h1 => ?_) (fun h1 => ?_)
  · have hlt : i < l.length := of_decide_eq_true h1
    have hx : l[i]? = some l[i] := List.getElem?_eq_getElem hlt
    generalize l[i] = x at hx
    have hN := fnd_next hx n
    rw [hn] at hN
    dsimp only at hN
    (
 refine Gol.skip ?_; refine thn_n ?_; refine Gol.seq ?_; refine Gol.block ?_; refine Gol.seq ?_
 apply Gol.any; kernel_rfl; apply t0; exact sM rfl; apply t0; exact sM rfl; apply t0; exact s_ixeD rfl rfl (by omega) (its_ne (by omega)) (its_at (by assumption))
 apply t0; exact s_fieldAddrE rfl; apply t0; exact s_loadEN rfl (lb rfl) (agu_nm8 rfl); apply t0; exact s_loadW rfl rfl rfl (agu_cuv _)
 apply t0; exact s_eqN rfl rfl; dsimp only [reduceAdd, reduceMul]; exact dn; kernel_rfl; exact rfl; refine thn_n ?_)
    refine Gol.cond rfl (fun h2 => ?_) (fun h2 => ?_)
    · have e : x.n = n := by simpa using h2
      rw [if_pos e] at hN
      have e2 := fnd_ext hN
      rw [h] at e2
      injection e2 with e2
      subst e2
      (
 apply Gol.sr; apply t0; exact sM rfl; apply t0; exact sA rfl; dsimp only [reduceAdd, reduceMul]; exact dn; exact rfl; refine Gol.ret ?_
 refine inBlk_r ?_; refine thn_r ?_; refine rnd_r ?_; refine inBlk_r ?_; refine thn_r ?_)
      (apply RetQ.mk (by first | exact .inr rfl | exact .inl rfl); apply res_1 rfl; exact res_tmp rfl; exact out_val)
    · have e : ¬ x.n = n := by simpa using h2
      rw [if_neg e] at hN
      (
 refine Gol.skip ?_; refine inBlk_n ?_; refine thn_n ?_; apply Gol.region; apply t0
 exact sM rfl; apply t0; exact s_addn rfl rfl (by simp <;> omega); apply t0; exact sA rfl; dsimp only [reduceAdd, reduceMul]; exact dn
 exact rfl)
      refine rnd_n (i + 1) ⟨hlt, hN⟩ (by omega) ?_
      (
 apply Le.mk3' []; apply RnT3.c; exact rfl; apply Rn3.r; exact Rn.clo inferInstance rfl; apply RnT3.c; exact rfl; apply Rn3.r; exact Rn.pt rfl rfl; apply RnT3.c
 exact rfl; apply Rn3.r; exact Rn.v rfl; apply RnT3.c; exact rfl; apply Rn3.r; exact Rn.v rfl; exact RnT3.n; apply RnH3.c; exact rfl; exact rfl; apply RnC.cl
 rfl; exact inferInstance; exact rfl; exact rfl; exact RnH3.n; exact rfl; exact rfl)
  · have hge : ¬ i < l.length := of_decide_eq_false h1
    rw [List.take_of_length_le (by omega), h] at hn
    cases hn
theorem refFind_no {l : List It} {f : Bool} {n : UInt64} (h : fnd l n = none) (hl : l.length ≤ 140737488351232) : Fresh Tryz.prog 47 [.ex l.length f (itsA l), .v (.agg (nameC n))] (fun _ => .v (.int .i64 (-1))) [] := by
  refine Fresh.of (fn := Tryz.f47) Tryz.func47 rfl (lb rfl) fun w => ?_
  (
 apply Gol.sr; apply t1; exact s_box rfl rfl; apply t0; exact sA rfl; dsimp only [reduceAdd, reduceMul]; exact dn; exact rfl; refine Gol.seq ?_
 apply Gol.sr; apply t0; exact sA rfl; dsimp only [reduceAdd, reduceMul]; exact dn; exact rfl; refine Gol.block ?_)
  refine Gol.loop (ι := Nat) (fun i => i ≤ l.length) (fun i => l.length - i) 200 (fun i => [(0, some ⟨cu (.v (.agg (nameC n))), 23, 8⟩)]) (fun i => [(0, .ex l.length f (itsA l)), (3, .pt 0 0), (4, .v (.int .i64 0)), (5, .v (.int .i64 (i : Int)))]) 0 (Nat.zero_le _) ?_ ?_
  · (
 apply Le.mk3' []; apply RnT3.c; exact rfl; apply Rn3.r; exact Rn.clo inferInstance rfl; apply RnT3.c; exact rfl; apply Rn3.r; exact Rn.pt rfl rfl; apply RnT3.c
 exact rfl; apply Rn3.r; exact Rn.v rfl; apply RnT3.c; exact rfl; apply Rn3.r; exact Rn.v rfl; exact RnT3.n; apply RnH3.c; exact rfl; exact rfl; apply RnC.cl
 rfl; exact inferInstance; exact rfl; exact rfl; exact RnH3.n; exact rfl; exact rfl)
  intro i hi
  (
 refine Gol.seq ?_; apply Gol.sr; apply t0; exact sM rfl; apply t0; exact sM rfl; apply t0; exact s_len rfl ln_ex; apply t0; exact s_ltn rfl rfl
 dsimp only [reduceAdd, reduceMul]; exact dn; exact rfl)
  refine Gol.cond rfl (fun h1 => ?_) (fun h1 => ?_)
  · have hlt : i < l.length := of_decide_eq_true h1
    have hx : l[i]? = some l[i] := List.getElem?_eq_getElem hlt
    have hm : l[i] ∈ l := List.getElem_mem hlt
    generalize l[i] = x at hx hm
    (
 refine Gol.skip ?_; refine thn_n ?_; refine Gol.seq ?_; refine Gol.block ?_; refine Gol.seq ?_
 apply Gol.any; kernel_rfl; apply t0; exact sM rfl; apply t0; exact sM rfl; apply t0; exact s_ixeD rfl rfl (by omega) (its_ne (by omega)) (its_at (by assumption))
 apply t0; exact s_fieldAddrE rfl; apply t0; exact s_loadEN rfl (lb rfl) (agu_nm8 rfl); apply t0; exact s_loadW rfl rfl rfl (agu_cuv _)
 apply t0; exact s_eqN rfl rfl; dsimp only [reduceAdd, reduceMul]; exact dn; kernel_rfl; exact rfl; refine thn_n ?_)
    refine Gol.cond rfl (fun h2 => ?_) (fun h2 => ?_)
    · unfold fnd at h
      rw [List.findIdx?_eq_none_iff] at h
      have := h x hm
      rw [this] at h2
      cases h2
    · (
 refine Gol.skip ?_; refine inBlk_n ?_; refine thn_n ?_; apply Gol.region; apply t0
 exact sM rfl; apply t0; exact s_addn rfl rfl (by simp <;> omega); apply t0; exact sA rfl; dsimp only [reduceAdd, reduceMul]; exact dn
 exact rfl)
      refine rnd_n (i + 1) hlt (by omega) ?_
      (
 apply Le.mk3' []; apply RnT3.c; exact rfl; apply Rn3.r; exact Rn.clo inferInstance rfl; apply RnT3.c; exact rfl; apply Rn3.r; exact Rn.pt rfl rfl; apply RnT3.c
 exact rfl; apply Rn3.r; exact Rn.v rfl; apply RnT3.c; exact rfl; apply Rn3.r; exact Rn.v rfl; exact RnT3.n; apply RnH3.c; exact rfl; exact rfl; apply RnC.cl
 rfl; exact inferInstance; exact rfl; exact rfl; exact RnH3.n; exact rfl; exact rfl)
  · (
 refine Gol.exit ?_; refine thn_x ?_; refine rnd_x ?_; refine inBlk_hit ?_; refine thn_n ?_
 apply Gol.sr; apply t0; exact sA rfl; dsimp only [reduceAdd, reduceMul]; exact dn; exact rfl; refine Gol.ret ?_)
    (apply RetQ.mk (by first | exact .inr rfl | exact .inl rfl); apply res_1 rfl; exact res_tmp rfl; exact out_val)
def comN (l : List It) (n : UInt64) : Int := match itOf l n with | none => 0 | some x => cmOf l x
theorem refCommittee_ok (l : List It) (f : Bool) (n : UInt64) (hl : l.length ≤ 140737488351232) : Fresh Tryz.prog 38 [.ex l.length f (itsA l), .v (.agg (nameC n))] (fun _ => .v (.int .i64 (comN l n))) [] := by
  unfold comN
  cases hx : itOf l n with
  | none =>
    dsimp only
    refine Fresh.of (fn := Tryz.f38) Tryz.func38 rfl (lb rfl) fun w => ?_
    (
 apply Gol.sr; apply t1; exact s_box rfl rfl; apply t0; exact sA rfl; dsimp only [reduceAdd, reduceMul]; exact dn; exact rfl; apply Gol.sr
 apply t0; exact sM rfl; apply t0; exact s_loadW rfl rfl rfl (agu_cuv _); apply tq; exact s_call (f := 47) rfl (eC rfl (eC rfl eN)) (aC aL (aC aL aN)) (refFind_no (fnd_none hx) hl) (lb rfl)
 dsimp only [reduceAdd, reduceMul, reduceSub, na, ca, nbk, mc, ml]; apply t0; exact sA rfl
 dsimp only [reduceAdd, reduceMul]; exact dn; exact rfl; refine Gol.seq ?_; apply Gol.sr; apply t0; exact sM rfl; apply t0
 exact s_lt rfl rfl; dsimp only [reduceAdd, reduceMul]; exact dn; exact rfl)
    refine Gol.cond_t rfl rfl ?_
    (apply Gol.sr; apply t0; exact sA rfl; dsimp only [reduceAdd, reduceMul]; exact dn; exact rfl; refine Gol.ret ?_; refine thn_r ?_)
    (apply RetQ.mk (by first | exact .inr rfl | exact .inl rfl); apply res_1 rfl; exact res_tmp rfl; exact out_val)
  | some x =>
    dsimp only
    obtain ⟨i, hfi, hxi, hxn⟩ := fnd_some hx
    have hlt := (List.getElem?_eq_some_iff.1 hxi).1
    have hF := refFind_yes (f := f) hfi hl
    unfold cmOf
    by_cases h3 : x.k = 3
    · have d3 : (!decide (x.k = 3)) = false := by simp [h3]
      rw [if_pos h3]
      cases hy : itOf l x.p with
      | none =>
        have hP := refFind_no (f := f) (fnd_none hy) hl
        dsimp only
        refine Fresh.of (fn := Tryz.f38) Tryz.func38 rfl (lb rfl) fun w => ?_
        (
 apply Gol.sr; apply t1; exact s_box rfl rfl; apply t0; exact sA rfl; dsimp only [reduceAdd, reduceMul]; exact dn; exact rfl; apply Gol.sr
 apply t0; exact sM rfl; apply t0; exact s_loadW rfl rfl rfl (agu_cuv _); apply tq; exact s_call (f := 47) rfl (eC rfl (eC rfl eN)) (aC aL (aC aL aN)) hF (lb rfl)
 dsimp only [reduceAdd, reduceMul, reduceSub, na, ca, nbk, mc, ml]; apply t0; exact sA rfl
 dsimp only [reduceAdd, reduceMul]; exact dn; exact rfl; refine Gol.seq ?_; apply Gol.sr; apply t0; exact sM rfl; apply t0
 exact s_ltn rfl rfl; dsimp only [reduceAdd, reduceMul]; exact dn; exact rfl)
        refine Gol.cond_f rfl (by simp) ?_
        (
 refine Gol.skip ?_; refine thn_n ?_; refine Gol.seq ?_; apply Gol.sr; apply t0; exact sM rfl; apply t0
 exact sM rfl; apply t0; exact s_ixeD rfl rfl (by omega) (its_ne (by omega)) (its_at (by assumption)); apply t0; exact s_fieldAddrE rfl; apply t0; exact s_loadE rfl rfl
 apply t0; exact s_ne rfl rfl; dsimp only [reduceAdd, reduceMul]; exact dn; exact rfl)
        refine Gol.cond_f rfl d3 ?_
        (
 refine Gol.skip ?_; refine thn_n ?_; apply Gol.sr; apply t0; exact sM rfl; apply t0; exact sM rfl; apply t0
 exact sM rfl; apply t0; exact s_ixeD rfl rfl (by omega) (its_ne (by omega)) (its_at (by assumption)); apply t0; exact s_fieldAddrE rfl; apply t0; exact s_loadEN rfl (lb rfl) (agu_nm8 rfl)
 apply tq; exact s_call (f := 47) rfl (eC rfl (eC rfl eN)) (aC aL (aC aL aN)) hP (lb rfl)
 dsimp only [reduceAdd, reduceMul, reduceSub, na, ca, nbk, mc, ml]; apply t0; exact sA rfl
 dsimp only [reduceAdd, reduceMul]; exact dn; exact rfl; refine Gol.seq ?_; apply Gol.sr; apply t0; exact sM rfl; apply t0
 exact s_lt rfl rfl; dsimp only [reduceAdd, reduceMul]; exact dn; exact rfl)
        refine Gol.cond_t rfl rfl ?_
        (apply Gol.sr; apply t0; exact sA rfl; dsimp only [reduceAdd, reduceMul]; exact dn; exact rfl; refine Gol.ret ?_; refine thn_r ?_)
        (apply RetQ.mk (by first | exact .inr rfl | exact .inl rfl); apply res_1 rfl; exact res_tmp rfl; exact out_val)
      | some y =>
        obtain ⟨j, hfj, hyj, hyn⟩ := fnd_some hy
        have hlt2 := (List.getElem?_eq_some_iff.1 hyj).1
        have hP := refFind_yes (f := f) hfj hl
        dsimp only
        refine Fresh.of (fn := Tryz.f38) Tryz.func38 rfl (lb rfl) fun w => ?_
        (
 apply Gol.sr; apply t1; exact s_box rfl rfl; apply t0; exact sA rfl; dsimp only [reduceAdd, reduceMul]; exact dn; exact rfl; apply Gol.sr
 apply t0; exact sM rfl; apply t0; exact s_loadW rfl rfl rfl (agu_cuv _); apply tq; exact s_call (f := 47) rfl (eC rfl (eC rfl eN)) (aC aL (aC aL aN)) hF (lb rfl)
 dsimp only [reduceAdd, reduceMul, reduceSub, na, ca, nbk, mc, ml]; apply t0; exact sA rfl
 dsimp only [reduceAdd, reduceMul]; exact dn; exact rfl; refine Gol.seq ?_; apply Gol.sr; apply t0; exact sM rfl; apply t0
 exact s_ltn rfl rfl; dsimp only [reduceAdd, reduceMul]; exact dn; exact rfl)
        refine Gol.cond_f rfl (by simp) ?_
        (
 refine Gol.skip ?_; refine thn_n ?_; refine Gol.seq ?_; apply Gol.sr; apply t0; exact sM rfl; apply t0
 exact sM rfl; apply t0; exact s_ixeD rfl rfl (by omega) (its_ne (by omega)) (its_at (by assumption)); apply t0; exact s_fieldAddrE rfl; apply t0; exact s_loadE rfl rfl
 apply t0; exact s_ne rfl rfl; dsimp only [reduceAdd, reduceMul]; exact dn; exact rfl)
        refine Gol.cond_f rfl d3 ?_
        (
 refine Gol.skip ?_; refine thn_n ?_; apply Gol.sr; apply t0; exact sM rfl; apply t0; exact sM rfl; apply t0
 exact sM rfl; apply t0; exact s_ixeD rfl rfl (by omega) (its_ne (by omega)) (its_at (by assumption)); apply t0; exact s_fieldAddrE rfl; apply t0; exact s_loadEN rfl (lb rfl) (agu_nm8 rfl)
 apply tq; exact s_call (f := 47) rfl (eC rfl (eC rfl eN)) (aC aL (aC aL aN)) hP (lb rfl)
 dsimp only [reduceAdd, reduceMul, reduceSub, na, ca, nbk, mc, ml]; apply t0; exact sA rfl
 dsimp only [reduceAdd, reduceMul]; exact dn; exact rfl; refine Gol.seq ?_; apply Gol.sr; apply t0; exact sM rfl; apply t0
 exact s_ltn rfl rfl; dsimp only [reduceAdd, reduceMul]; exact dn; exact rfl)
        refine Gol.cond_f rfl (by simp) ?_
        (
 refine Gol.skip ?_; refine thn_n ?_; apply Gol.sr; apply t0; exact sM rfl; apply t0; exact sM rfl; apply t0
 exact s_ixeD rfl rfl (by omega) (its_ne (by omega)) (its_at (by assumption)); apply t0; exact s_fieldAddrE rfl; apply t0; exact s_loadE rfl rfl; apply t0
 exact sA rfl; dsimp only [reduceAdd, reduceMul]; exact dn; exact rfl; refine Gol.ret ?_)
        (apply RetQ.mk (by first | exact .inr rfl | exact .inl rfl); apply res_1 rfl; exact res_tmp rfl; exact out_val)
    · have d3 : (!decide (x.k = 3)) = true := by simp [h3]
      rw [if_neg h3]
      refine Fresh.of (fn := Tryz.f38) Tryz.func38 rfl (lb rfl) fun w => ?_
      (
 apply Gol.sr; apply t1; exact s_box rfl rfl; apply t0; exact sA rfl; dsimp only [reduceAdd, reduceMul]; exact dn; exact rfl; apply Gol.sr
 apply t0; exact sM rfl; apply t0; exact s_loadW rfl rfl rfl (agu_cuv _); apply tq; exact s_call (f := 47) rfl (eC rfl (eC rfl eN)) (aC aL (aC aL aN)) hF (lb rfl)
 dsimp only [reduceAdd, reduceMul, reduceSub, na, ca, nbk, mc, ml]; apply t0; exact sA rfl
 dsimp only [reduceAdd, reduceMul]; exact dn; exact rfl; refine Gol.seq ?_; apply Gol.sr; apply t0; exact sM rfl; apply t0
 exact s_ltn rfl rfl; dsimp only [reduceAdd, reduceMul]; exact dn; exact rfl)
      refine Gol.cond_f rfl (by simp) ?_
      (
 refine Gol.skip ?_; refine thn_n ?_; refine Gol.seq ?_; apply Gol.sr; apply t0; exact sM rfl; apply t0
 exact sM rfl; apply t0; exact s_ixeD rfl rfl (by omega) (its_ne (by omega)) (its_at (by assumption)); apply t0; exact s_fieldAddrE rfl; apply t0; exact s_loadE rfl rfl
 apply t0; exact s_ne rfl rfl; dsimp only [reduceAdd, reduceMul]; exact dn; exact rfl)
      refine Gol.cond_t rfl d3 ?_
      (
 apply Gol.sr; apply t0; exact sM rfl; apply t0; exact sM rfl; apply t0; exact s_ixeD rfl rfl (by omega) (its_ne (by omega)) (its_at (by assumption))
 apply t0; exact s_fieldAddrE rfl; apply t0; exact s_loadE rfl rfl; apply t0; exact sA rfl; dsimp only [reduceAdd, reduceMul]; exact dn; exact rfl
 refine Gol.ret ?_; refine thn_r ?_)
      (apply RetQ.mk (by first | exact .inr rfl | exact .inl rfl); apply res_1 rfl; exact res_tmp rfl; exact out_val)
theorem ids_ok (m : Int) : Fresh Tryz.prog 75 [.v (.int .i64 m)] (fun _ => .v (.int .i64 (andI m 1023))) [] := by
  refine Fresh.of (fn := Tryz.f75) Tryz.func75 rfl (lb rfl) fun w => ?_
  (
 apply Gol.sr; apply t0; exact sA rfl; dsimp only [reduceAdd, reduceMul]; exact dn; exact rfl; apply Gol.sr; apply t0; exact sM rfl; apply t0
 exact s_andI rfl rfl; apply t0; exact sA rfl; dsimp only [reduceAdd, reduceMul]; exact dn; exact rfl; refine Gol.ret ?_)
  (apply RetQ.mk (by first | exact .inr rfl | exact .inl rfl); apply res_1 rfl; exact res_tmp rfl; exact out_val)
set_option maxHeartbeats 1600000 in
theorem voters_ok (vs : List Vt) (f : Bool) (m k : Int) (p v : UInt64) (hv : vs.length ≤ 140737488351232) : Fresh Tryz.prog 76 [.v (.int .i64 m), .ex vs.length f (vtsA vs), .v (.int .i64 k), .v (.agg (nameC p)), .v (.agg (nameC v))] (fun _ => .v (.int .i64 (vtrN vs m k p v))) [] := by
  refine Fresh.of (fn := Tryz.f76) Tryz.func76 rfl (lb rfl) fun w => ?_
  (
 apply Gol.sr; apply t1; exact s_box rfl rfl; apply t1; exact s_box rfl rfl; apply t0; exact sA rfl; dsimp only [reduceAdd, reduceMul]; exact dn
 exact rfl; apply Gol.sr; apply t0; exact sA rfl; dsimp only [reduceAdd, reduceMul]; exact dn; exact rfl; refine Gol.seq ?_
 apply Gol.sr; apply t0; exact sA rfl; dsimp only [reduceAdd, reduceMul]; exact dn; exact rfl; refine Gol.block ?_)
  refine Gol.loop (ι := Nat) (fun i => i ≤ vs.length) (fun i => vs.length - i) 200 (fun i => [(0, some ⟨cu (.v (.agg (nameC p))), 23, 8⟩), (8, some ⟨cu (.v (.agg (nameC v))), 23, 8⟩)])
    (fun i => [(0, .v (.int .i64 m)), (1, .ex vs.length f (vtsA vs)), (2, .v (.int .i64 k)), (8, .pt 0 0), (9, .pt 8 0), (11, .v (.int .i64 (vtrN (vs.take i) m k p v))), (12, .v (.int .i64 (i : Int)))]) 0 (Nat.zero_le _) ?_ ?_
  · (
 apply Le.mk3' []; apply RnT3.c; exact rfl; apply Rn3.r; exact Rn.v rfl; apply RnT3.c; exact rfl; apply Rn3.r; exact Rn.clo inferInstance rfl; apply RnT3.c
 exact rfl; apply Rn3.r; exact Rn.v rfl; apply RnT3.c; exact rfl; apply Rn3.r; exact Rn.pt rfl rfl; apply RnT3.c; exact rfl; apply Rn3.r; exact Rn.pt rfl rfl
 apply RnT3.c; exact rfl; apply Rn3.r; exact Rn.v rfl; apply RnT3.c; exact rfl; apply Rn3.r; exact Rn.v rfl; exact RnT3.n; apply RnH3.c; exact rfl; exact rfl
 apply RnC.cl; rfl; exact inferInstance; exact rfl; exact rfl; apply RnH3.c; exact rfl; exact rfl; apply RnC.cl; rfl; exact inferInstance; exact rfl; exact rfl
 exact RnH3.n; exact rfl; exact rfl)
  intro i hi
  (
 refine Gol.seq ?_; apply Gol.sr; apply t0; exact sM rfl; apply t0; exact sM rfl; apply t0; exact s_len rfl ln_ex; apply t0; exact s_ltn rfl rfl
 dsimp only [reduceAdd, reduceMul]; exact dn; exact rfl)
  refine Gol.cond rfl (fun h => ?_) (fun h => ?_)
  rotate_left
  · have hge : ¬ i < vs.length := of_decide_eq_false h
    rw [List.take_of_length_le (by omega)]
    (
 refine Gol.exit ?_; refine thn_x ?_; refine rnd_x ?_; refine inBlk_hit ?_; refine thn_n ?_
 apply Gol.sr; apply t0; exact sM rfl; apply t0; exact sA rfl; dsimp only [reduceAdd, reduceMul]; exact dn; exact rfl; refine Gol.ret ?_)
    (apply RetQ.mk (by first | exact .inr rfl | exact .inl rfl); apply res_1 rfl; exact res_tmp rfl; exact out_val)
  have hlt : i < vs.length := of_decide_eq_true h
  have hx : vs[i]? = some vs[i] := List.getElem?_eq_getElem hlt
  generalize vs[i] = x at hx
  have hN := vtr_next (m := m) (k := k) (p := p) (v := v) hx
  generalize vtrN (vs.take i) m k p v = a at hN ⊢
  unfold vtrS at hN
  have hval := refValid_ok x
  have hhas := refHas_ok m x.signer
  have hbit := refBit_ok x.signer
  cases h1 : validB x with
  | false =>
    rw [if_neg (by rw [h1]; simp)] at hN
    rw [h1] at hval
    (
 refine Gol.skip ?_; refine thn_n ?_; refine Gol.seq ?_; refine Gol.block ?_; apply Gol.sr
 apply t0; exact sM rfl; apply t0; exact sM rfl; apply t0; exact s_ixeD rfl rfl (by omega) (vts_ne (by omega)) (vts_at (by assumption)); apply t0
 exact s_loadEN rfl (lb rfl) agu_vt; apply t1; exact s_alloc; apply n1; exact s_storeW rfl rfl rfl rfl rfl rfl; dsimp only [reduceAdd, reduceMul]
 exact dn; exact rfl; apply Gol.sr; apply t0; exact s_loadW rfl rfl rfl (agu_cuv _); apply tq; exact s_call (f := 112) rfl (eC rfl eN) (aC aL aN) hval (lb rfl)
 dsimp only [reduceAdd, reduceMul, reduceSub, na, ca, nbk, mc, ml]; apply t0; exact sM rfl
 apply sk; exact wnt_g rfl rfl rfl rfl; apply sk; exact wnt_g rfl rfl rfl rfl; apply sk; exact wnt_g rfl rfl rfl rfl; apply sk; exact wnt_g rfl rfl rfl rfl
 apply t0; exact s_pick_f rfl rfl rfl; apply t0; exact sM rfl; apply sk; exact wnt_g rfl rfl rfl rfl; apply sk; exact wnt_g rfl rfl rfl rfl; apply sk
 exact wnt_g rfl rfl rfl rfl; apply sk; exact wnt_g rfl rfl rfl rfl; apply t0; exact s_pick_f rfl rfl rfl; apply t0; exact sM rfl; apply sk; exact wnt_g rfl rfl rfl rfl
 apply sk; exact wnt_g rfl rfl rfl rfl; apply sk; exact wnt_g rfl rfl rfl rfl; apply sk; exact wnt_g rfl rfl rfl rfl; apply t0; exact s_pick_f rfl rfl rfl
 apply t0; exact sM rfl; apply sk; exact wnt_g rfl rfl rfl rfl; apply sk; exact wnt_g rfl rfl rfl rfl; apply sk; exact wnt_g rfl rfl rfl rfl; apply sk
 exact wnt_g rfl rfl rfl rfl; apply t0; exact s_pick_f rfl rfl rfl; dsimp only [reduceAdd, reduceMul]; exact dn; exact rfl)
    refine Gol.cond_f rfl (by first | rfl | assumption) ?_
    (
 refine Gol.skip ?_; refine inBlk_n ?_; refine thn_n ?_; apply Gol.region; apply t0
 exact sM rfl; apply t0; exact s_addn rfl rfl (by simp <;> omega); apply t0; exact sA rfl; dsimp only [reduceAdd, reduceMul]; exact dn
 exact rfl)
    refine rnd_n (i + 1) hlt (by omega) ?_
    rw [hN]
    (
 apply Le.mk3' []; apply RnT3.c; exact rfl; apply Rn3.r; exact Rn.v rfl; apply RnT3.c; exact rfl; apply Rn3.r; exact Rn.clo inferInstance rfl; apply RnT3.c
 exact rfl; apply Rn3.r; exact Rn.v rfl; apply RnT3.c; exact rfl; apply Rn3.r; exact Rn.pt rfl rfl; apply RnT3.c; exact rfl; apply Rn3.r; exact Rn.pt rfl rfl
 apply RnT3.c; exact rfl; apply Rn3.r; exact Rn.v rfl; apply RnT3.c; exact rfl; apply Rn3.r; exact Rn.v rfl; exact RnT3.n; apply RnH3.c; exact rfl; exact rfl
 apply RnC.cl; rfl; exact inferInstance; exact rfl; exact rfl; apply RnH3.c; exact rfl; exact rfl; apply RnC.cl; rfl; exact inferInstance; exact rfl; exact rfl
 exact RnH3.n; exact rfl; exact rfl)
  | true =>
    rw [h1] at hval
    by_cases h2 : x.kind = k
    rotate_left
    · have d2 : decide (x.kind = k) = false := decide_eq_false h2
      rw [if_neg (fun q => h2 q.2.1)] at hN
      (
 refine Gol.skip ?_; refine thn_n ?_; refine Gol.seq ?_; refine Gol.block ?_; apply Gol.sr
 apply t0; exact sM rfl; apply t0; exact sM rfl; apply t0; exact s_ixeD rfl rfl (by omega) (vts_ne (by omega)) (vts_at (by assumption)); apply t0
 exact s_loadEN rfl (lb rfl) agu_vt; apply t1; exact s_alloc; apply n1; exact s_storeW rfl rfl rfl rfl rfl rfl; dsimp only [reduceAdd, reduceMul]
 exact dn; exact rfl; apply Gol.sr; apply t0; exact s_loadW rfl rfl rfl (agu_cuv _); apply tq; exact s_call (f := 112) rfl (eC rfl eN) (aC aL aN) hval (lb rfl)
 dsimp only [reduceAdd, reduceMul, reduceSub, na, ca, nbk, mc, ml]; apply t0; exact sM rfl
 apply g0; exact wnt_g rfl rfl rfl rfl; exact sF rfl; apply g0; exact wnt_g rfl rfl rfl rfl; exact s_load rfl rfl rfl; apply g0; exact wnt_g rfl rfl rfl rfl
 exact sM rfl; apply g0; exact wnt_g rfl rfl rfl rfl; exact s_eq rfl rfl; apply t0; exact s_pick_t rfl rfl rfl; apply t0; exact sM rfl; apply sk
 exact wnt_g rfl rfl rfl (by simp only [*]; rfl); apply sk; exact wnt_g rfl rfl rfl (by simp only [*]; rfl); apply sk; exact wnt_g rfl rfl rfl (by simp only [*]; rfl)
 apply sk; exact wnt_g rfl rfl rfl (by simp only [*]; rfl); apply t0; exact s_pick_f rfl (by assumption) rfl; apply t0; exact sM rfl; apply sk
 exact wnt_g rfl rfl rfl rfl; apply sk; exact wnt_g rfl rfl rfl rfl; apply sk; exact wnt_g rfl rfl rfl rfl; apply sk; exact wnt_g rfl rfl rfl rfl; apply t0
 exact s_pick_f rfl rfl rfl; apply t0; exact sM rfl; apply sk; exact wnt_g rfl rfl rfl rfl; apply sk; exact wnt_g rfl rfl rfl rfl; apply sk; exact wnt_g rfl rfl rfl rfl
 apply sk; exact wnt_g rfl rfl rfl rfl; apply t0; exact s_pick_f rfl rfl rfl; dsimp only [reduceAdd, reduceMul]; exact dn; exact rfl)
      refine Gol.cond_f rfl (by first | rfl | assumption) ?_
      (
 refine Gol.skip ?_; refine inBlk_n ?_; refine thn_n ?_; apply Gol.region; apply t0
 exact sM rfl; apply t0; exact s_addn rfl rfl (by simp <;> omega); apply t0; exact sA rfl; dsimp only [reduceAdd, reduceMul]; exact dn
 exact rfl)
      refine rnd_n (i + 1) hlt (by omega) ?_
      rw [hN]
      (
 apply Le.mk3' []; apply RnT3.c; exact rfl; apply Rn3.r; exact Rn.v rfl; apply RnT3.c; exact rfl; apply Rn3.r; exact Rn.clo inferInstance rfl; apply RnT3.c
 exact rfl; apply Rn3.r; exact Rn.v rfl; apply RnT3.c; exact rfl; apply Rn3.r; exact Rn.pt rfl rfl; apply RnT3.c; exact rfl; apply Rn3.r; exact Rn.pt rfl rfl
 apply RnT3.c; exact rfl; apply Rn3.r; exact Rn.v rfl; apply RnT3.c; exact rfl; apply Rn3.r; exact Rn.v rfl; exact RnT3.n; apply RnH3.c; exact rfl; exact rfl
 apply RnC.cl; rfl; exact inferInstance; exact rfl; exact rfl; apply RnH3.c; exact rfl; exact rfl; apply RnC.cl; rfl; exact inferInstance; exact rfl; exact rfl
 exact RnH3.n; exact rfl; exact rfl)
    have d2 : decide (x.kind = k) = true := decide_eq_true h2
    cases h3 : x.parent == p with
    | false =>
      rw [if_neg (fun q => by rw [q.2.2.1] at h3; simp at h3)] at hN
      (
 refine Gol.skip ?_; refine thn_n ?_; refine Gol.seq ?_; refine Gol.block ?_; apply Gol.sr
 apply t0; exact sM rfl; apply t0; exact sM rfl; apply t0; exact s_ixeD rfl rfl (by omega) (vts_ne (by omega)) (vts_at (by assumption)); apply t0
 exact s_loadEN rfl (lb rfl) agu_vt; apply t1; exact s_alloc; apply n1; exact s_storeW rfl rfl rfl rfl rfl rfl; dsimp only [reduceAdd, reduceMul]
 exact dn; exact rfl; apply Gol.sr; apply t0; exact s_loadW rfl rfl rfl (agu_cuv _); apply tq; exact s_call (f := 112) rfl (eC rfl eN) (aC aL aN) hval (lb rfl)
 dsimp only [reduceAdd, reduceMul, reduceSub, na, ca, nbk, mc, ml]; apply t0; exact sM rfl
 apply g0; exact wnt_g rfl rfl rfl rfl; exact sF rfl; apply g0; exact wnt_g rfl rfl rfl rfl; exact s_load rfl rfl rfl; apply g0; exact wnt_g rfl rfl rfl rfl
 exact sM rfl; apply g0; exact wnt_g rfl rfl rfl rfl; exact s_eq rfl rfl; apply t0; exact s_pick_t rfl rfl rfl; apply t0; exact sM rfl; apply g0
 exact wnt_g rfl rfl rfl (by simp only [*]; rfl); exact sF rfl; apply g0; exact wnt_g rfl rfl rfl (by simp only [*]; rfl); exact s_loadN rfl rfl (lb rfl) (agu_nm8 rfl)
 apply g0; exact wnt_g rfl rfl rfl (by simp only [*]; rfl); exact s_loadW rfl rfl rfl (agu_cuv _); apply g0; exact wnt_g rfl rfl rfl (by simp only [*]; rfl)
 exact s_eqN rfl rfl; apply t0; exact s_pick_t rfl (by assumption) rfl; apply t0; exact sM rfl; apply sk; exact wnt_g rfl rfl rfl (by simp only [*]; rfl)
 apply sk; exact wnt_g rfl rfl rfl (by simp only [*]; rfl); apply sk; exact wnt_g rfl rfl rfl (by simp only [*]; rfl); apply sk; exact wnt_g rfl rfl rfl (by simp only [*]; rfl)
 apply t0; exact s_pick_f rfl (by assumption) rfl; apply t0; exact sM rfl; apply sk; exact wnt_g rfl rfl rfl rfl; apply sk; exact wnt_g rfl rfl rfl rfl
 apply sk; exact wnt_g rfl rfl rfl rfl; apply sk; exact wnt_g rfl rfl rfl rfl; apply t0; exact s_pick_f rfl rfl rfl; dsimp only [reduceAdd, reduceMul]
 exact dn; exact rfl)
      refine Gol.cond_f rfl (by first | rfl | assumption) ?_
      (
 refine Gol.skip ?_; refine inBlk_n ?_; refine thn_n ?_; apply Gol.region; apply t0
 exact sM rfl; apply t0; exact s_addn rfl rfl (by simp <;> omega); apply t0; exact sA rfl; dsimp only [reduceAdd, reduceMul]; exact dn
 exact rfl)
      refine rnd_n (i + 1) hlt (by omega) ?_
      rw [hN]
      (
 apply Le.mk3' []; apply RnT3.c; exact rfl; apply Rn3.r; exact Rn.v rfl; apply RnT3.c; exact rfl; apply Rn3.r; exact Rn.clo inferInstance rfl; apply RnT3.c
 exact rfl; apply Rn3.r; exact Rn.v rfl; apply RnT3.c; exact rfl; apply Rn3.r; exact Rn.pt rfl rfl; apply RnT3.c; exact rfl; apply Rn3.r; exact Rn.pt rfl rfl
 apply RnT3.c; exact rfl; apply Rn3.r; exact Rn.v rfl; apply RnT3.c; exact rfl; apply Rn3.r; exact Rn.v rfl; exact RnT3.n; apply RnH3.c; exact rfl; exact rfl
 apply RnC.cl; rfl; exact inferInstance; exact rfl; exact rfl; apply RnH3.c; exact rfl; exact rfl; apply RnC.cl; rfl; exact inferInstance; exact rfl; exact rfl
 exact RnH3.n; exact rfl; exact rfl)
    | true =>
      cases h4 : x.value == v with
      | false =>
        rw [if_neg (fun q => by rw [q.2.2.2.1] at h4; simp at h4)] at hN
        (
 refine Gol.skip ?_; refine thn_n ?_; refine Gol.seq ?_; refine Gol.block ?_; apply Gol.sr
 apply t0; exact sM rfl; apply t0; exact sM rfl; apply t0; exact s_ixeD rfl rfl (by omega) (vts_ne (by omega)) (vts_at (by assumption)); apply t0
 exact s_loadEN rfl (lb rfl) agu_vt; apply t1; exact s_alloc; apply n1; exact s_storeW rfl rfl rfl rfl rfl rfl; dsimp only [reduceAdd, reduceMul]
 exact dn; exact rfl; apply Gol.sr; apply t0; exact s_loadW rfl rfl rfl (agu_cuv _); apply tq; exact s_call (f := 112) rfl (eC rfl eN) (aC aL aN) hval (lb rfl)
 dsimp only [reduceAdd, reduceMul, reduceSub, na, ca, nbk, mc, ml]; apply t0; exact sM rfl
 apply g0; exact wnt_g rfl rfl rfl rfl; exact sF rfl; apply g0; exact wnt_g rfl rfl rfl rfl; exact s_load rfl rfl rfl; apply g0; exact wnt_g rfl rfl rfl rfl
 exact sM rfl; apply g0; exact wnt_g rfl rfl rfl rfl; exact s_eq rfl rfl; apply t0; exact s_pick_t rfl rfl rfl; apply t0; exact sM rfl; apply g0
 exact wnt_g rfl rfl rfl (by simp only [*]; rfl); exact sF rfl; apply g0; exact wnt_g rfl rfl rfl (by simp only [*]; rfl); exact s_loadN rfl rfl (lb rfl) (agu_nm8 rfl)
 apply g0; exact wnt_g rfl rfl rfl (by simp only [*]; rfl); exact s_loadW rfl rfl rfl (agu_cuv _); apply g0; exact wnt_g rfl rfl rfl (by simp only [*]; rfl)
 exact s_eqN rfl rfl; apply t0; exact s_pick_t rfl (by assumption) rfl; apply t0; exact sM rfl; apply g0; exact wnt_g rfl rfl rfl (by simp only [*]; rfl)
 exact sF rfl; apply g0; exact wnt_g rfl rfl rfl (by simp only [*]; rfl); exact s_loadN rfl rfl (lb rfl) (agu_nm8 rfl)
 apply g0; exact wnt_g rfl rfl rfl (by simp only [*]; rfl); exact s_loadW rfl rfl rfl (agu_cuv _); apply g0; exact wnt_g rfl rfl rfl (by simp only [*]; rfl)
 exact s_eqN rfl rfl; apply t0; exact s_pick_t rfl (by assumption) rfl; apply t0; exact sM rfl; apply sk; exact wnt_g rfl rfl rfl (by simp only [*]; rfl)
 apply sk; exact wnt_g rfl rfl rfl (by simp only [*]; rfl); apply sk; exact wnt_g rfl rfl rfl (by simp only [*]; rfl); apply sk; exact wnt_g rfl rfl rfl (by simp only [*]; rfl)
 apply t0; exact s_pick_f rfl (by assumption) rfl; dsimp only [reduceAdd, reduceMul]; exact dn; exact rfl)
        refine Gol.cond_f rfl (by first | rfl | assumption) ?_
        (
 refine Gol.skip ?_; refine inBlk_n ?_; refine thn_n ?_; apply Gol.region; apply t0
 exact sM rfl; apply t0; exact s_addn rfl rfl (by simp <;> omega); apply t0; exact sA rfl; dsimp only [reduceAdd, reduceMul]; exact dn
 exact rfl)
        refine rnd_n (i + 1) hlt (by omega) ?_
        rw [hN]
        (
 apply Le.mk3' []; apply RnT3.c; exact rfl; apply Rn3.r; exact Rn.v rfl; apply RnT3.c; exact rfl; apply Rn3.r; exact Rn.clo inferInstance rfl; apply RnT3.c
 exact rfl; apply Rn3.r; exact Rn.v rfl; apply RnT3.c; exact rfl; apply Rn3.r; exact Rn.pt rfl rfl; apply RnT3.c; exact rfl; apply Rn3.r; exact Rn.pt rfl rfl
 apply RnT3.c; exact rfl; apply Rn3.r; exact Rn.v rfl; apply RnT3.c; exact rfl; apply Rn3.r; exact Rn.v rfl; exact RnT3.n; apply RnH3.c; exact rfl; exact rfl
 apply RnC.cl; rfl; exact inferInstance; exact rfl; exact rfl; apply RnH3.c; exact rfl; exact rfl; apply RnC.cl; rfl; exact inferInstance; exact rfl; exact rfl
 exact RnH3.n; exact rfl; exact rfl)
      | true =>
        cases h5 : hasB m x.signer with
        | false =>
          rw [if_neg (fun q => by rw [q.2.2.2.2] at h5; cases h5)] at hN
          rw [h5] at hhas
          (
 refine Gol.skip ?_; refine thn_n ?_; refine Gol.seq ?_; refine Gol.block ?_; apply Gol.sr
 apply t0; exact sM rfl; apply t0; exact sM rfl; apply t0; exact s_ixeD rfl rfl (by omega) (vts_ne (by omega)) (vts_at (by assumption)); apply t0
 exact s_loadEN rfl (lb rfl) agu_vt; apply t1; exact s_alloc; apply n1; exact s_storeW rfl rfl rfl rfl rfl rfl; dsimp only [reduceAdd, reduceMul]
 exact dn; exact rfl; apply Gol.sr; apply t0; exact s_loadW rfl rfl rfl (agu_cuv _); apply tq; exact s_call (f := 112) rfl (eC rfl eN) (aC aL aN) hval (lb rfl)
 dsimp only [reduceAdd, reduceMul, reduceSub, na, ca, nbk, mc, ml]; apply t0; exact sM rfl
 apply g0; exact wnt_g rfl rfl rfl rfl; exact sF rfl; apply g0; exact wnt_g rfl rfl rfl rfl; exact s_load rfl rfl rfl; apply g0; exact wnt_g rfl rfl rfl rfl
 exact sM rfl; apply g0; exact wnt_g rfl rfl rfl rfl; exact s_eq rfl rfl; apply t0; exact s_pick_t rfl rfl rfl; apply t0; exact sM rfl; apply g0
 exact wnt_g rfl rfl rfl (by simp only [*]; rfl); exact sF rfl; apply g0; exact wnt_g rfl rfl rfl (by simp only [*]; rfl); exact s_loadN rfl rfl (lb rfl) (agu_nm8 rfl)
 apply g0; exact wnt_g rfl rfl rfl (by simp only [*]; rfl); exact s_loadW rfl rfl rfl (agu_cuv _); apply g0; exact wnt_g rfl rfl rfl (by simp only [*]; rfl)
 exact s_eqN rfl rfl; apply t0; exact s_pick_t rfl (by assumption) rfl; apply t0; exact sM rfl; apply g0; exact wnt_g rfl rfl rfl (by simp only [*]; rfl)
 exact sF rfl; apply g0; exact wnt_g rfl rfl rfl (by simp only [*]; rfl); exact s_loadN rfl rfl (lb rfl) (agu_nm8 rfl)
 apply g0; exact wnt_g rfl rfl rfl (by simp only [*]; rfl); exact s_loadW rfl rfl rfl (agu_cuv _); apply g0; exact wnt_g rfl rfl rfl (by simp only [*]; rfl)
 exact s_eqN rfl rfl; apply t0; exact s_pick_t rfl (by assumption) rfl; apply t0; exact sM rfl; apply g0; exact wnt_g rfl rfl rfl (by simp only [*]; rfl)
 exact sM rfl; apply g0; exact wnt_g rfl rfl rfl (by simp only [*]; rfl); exact sF rfl; apply g0; exact wnt_g rfl rfl rfl (by simp only [*]; rfl)
 exact s_load rfl rfl rfl; apply gq; exact wnt_g rfl rfl rfl (by simp only [*]; rfl); exact s_call (f := 113) rfl (eC rfl (eC rfl eN)) (aC aL (aC aL aN)) hhas (lb rfl)
 dsimp only [reduceAdd, reduceMul, reduceSub, na, ca, nbk, mc, ml]; apply t0; exact s_pick_t rfl (by assumption) rfl
 dsimp only [reduceAdd, reduceMul]; exact dn; exact rfl)
          refine Gol.cond_f rfl (by first | rfl | assumption) ?_
          (
 refine Gol.skip ?_; refine inBlk_n ?_; refine thn_n ?_; apply Gol.region; apply t0
 exact sM rfl; apply t0; exact s_addn rfl rfl (by simp <;> omega); apply t0; exact sA rfl; dsimp only [reduceAdd, reduceMul]; exact dn
 exact rfl)
          refine rnd_n (i + 1) hlt (by omega) ?_
          rw [hN]
          (
 apply Le.mk3' []; apply RnT3.c; exact rfl; apply Rn3.r; exact Rn.v rfl; apply RnT3.c; exact rfl; apply Rn3.r; exact Rn.clo inferInstance rfl; apply RnT3.c
 exact rfl; apply Rn3.r; exact Rn.v rfl; apply RnT3.c; exact rfl; apply Rn3.r; exact Rn.pt rfl rfl; apply RnT3.c; exact rfl; apply Rn3.r; exact Rn.pt rfl rfl
 apply RnT3.c; exact rfl; apply Rn3.r; exact Rn.v rfl; apply RnT3.c; exact rfl; apply Rn3.r; exact Rn.v rfl; exact RnT3.n; apply RnH3.c; exact rfl; exact rfl
 apply RnC.cl; rfl; exact inferInstance; exact rfl; exact rfl; apply RnH3.c; exact rfl; exact rfl; apply RnC.cl; rfl; exact inferInstance; exact rfl; exact rfl
 exact RnH3.n; exact rfl; exact rfl)
        | true =>
          rw [if_pos ⟨h1, h2, by simpa using h3, by simpa using h4, h5⟩] at hN
          rw [h5] at hhas
          (
 refine Gol.skip ?_; refine thn_n ?_; refine Gol.seq ?_; refine Gol.block ?_; apply Gol.sr
 apply t0; exact sM rfl; apply t0; exact sM rfl; apply t0; exact s_ixeD rfl rfl (by omega) (vts_ne (by omega)) (vts_at (by assumption)); apply t0
 exact s_loadEN rfl (lb rfl) agu_vt; apply t1; exact s_alloc; apply n1; exact s_storeW rfl rfl rfl rfl rfl rfl; dsimp only [reduceAdd, reduceMul]
 exact dn; exact rfl; apply Gol.sr; apply t0; exact s_loadW rfl rfl rfl (agu_cuv _); apply tq; exact s_call (f := 112) rfl (eC rfl eN) (aC aL aN) hval (lb rfl)
 dsimp only [reduceAdd, reduceMul, reduceSub, na, ca, nbk, mc, ml]; apply t0; exact sM rfl
 apply g0; exact wnt_g rfl rfl rfl rfl; exact sF rfl; apply g0; exact wnt_g rfl rfl rfl rfl; exact s_load rfl rfl rfl; apply g0; exact wnt_g rfl rfl rfl rfl
 exact sM rfl; apply g0; exact wnt_g rfl rfl rfl rfl; exact s_eq rfl rfl; apply t0; exact s_pick_t rfl rfl rfl; apply t0; exact sM rfl; apply g0
 exact wnt_g rfl rfl rfl (by simp only [*]; rfl); exact sF rfl; apply g0; exact wnt_g rfl rfl rfl (by simp only [*]; rfl); exact s_loadN rfl rfl (lb rfl) (agu_nm8 rfl)
 apply g0; exact wnt_g rfl rfl rfl (by simp only [*]; rfl); exact s_loadW rfl rfl rfl (agu_cuv _); apply g0; exact wnt_g rfl rfl rfl (by simp only [*]; rfl)
 exact s_eqN rfl rfl; apply t0; exact s_pick_t rfl (by assumption) rfl; apply t0; exact sM rfl; apply g0; exact wnt_g rfl rfl rfl (by simp only [*]; rfl)
 exact sF rfl; apply g0; exact wnt_g rfl rfl rfl (by simp only [*]; rfl); exact s_loadN rfl rfl (lb rfl) (agu_nm8 rfl)
 apply g0; exact wnt_g rfl rfl rfl (by simp only [*]; rfl); exact s_loadW rfl rfl rfl (agu_cuv _); apply g0; exact wnt_g rfl rfl rfl (by simp only [*]; rfl)
 exact s_eqN rfl rfl; apply t0; exact s_pick_t rfl (by assumption) rfl; apply t0; exact sM rfl; apply g0; exact wnt_g rfl rfl rfl (by simp only [*]; rfl)
 exact sM rfl; apply g0; exact wnt_g rfl rfl rfl (by simp only [*]; rfl); exact sF rfl; apply g0; exact wnt_g rfl rfl rfl (by simp only [*]; rfl)
 exact s_load rfl rfl rfl; apply gq; exact wnt_g rfl rfl rfl (by simp only [*]; rfl); exact s_call (f := 113) rfl (eC rfl (eC rfl eN)) (aC aL (aC aL aN)) hhas (lb rfl)
 dsimp only [reduceAdd, reduceMul, reduceSub, na, ca, nbk, mc, ml]; apply t0; exact s_pick_t rfl (by assumption) rfl
 dsimp only [reduceAdd, reduceMul]; exact dn; exact rfl)
          refine Gol.cond_t rfl (by first | rfl | assumption) ?_
          (
 apply Gol.region; apply t0; exact sM rfl; apply t0; exact sF rfl; apply t0; exact s_load rfl rfl rfl; apply tq; exact s_call (f := 114) rfl (eC rfl eN) (aC aL aN) hbit (lb rfl)
 dsimp only [reduceAdd, reduceMul, reduceSub, na, ca, nbk, mc, ml]; apply t0; exact s_orI rfl rfl
 apply t0; exact sA rfl; dsimp only [reduceAdd, reduceMul]; exact dn; exact rfl; refine inBlk_n ?_; refine thn_n ?_
 apply Gol.region; apply t0; exact sM rfl; apply t0; exact s_addn rfl rfl (by simp <;> omega); apply t0; exact sA rfl; dsimp only [reduceAdd, reduceMul]
 exact dn; exact rfl)
          refine rnd_n (i + 1) hlt (by omega) ?_
          rw [hN]
          (
 apply Le.mk3' []; apply RnT3.c; exact rfl; apply Rn3.r; exact Rn.v rfl; apply RnT3.c; exact rfl; apply Rn3.r; exact Rn.clo inferInstance rfl; apply RnT3.c
 exact rfl; apply Rn3.r; exact Rn.v rfl; apply RnT3.c; exact rfl; apply Rn3.r; exact Rn.pt rfl rfl; apply RnT3.c; exact rfl; apply Rn3.r; exact Rn.pt rfl rfl
 apply RnT3.c; exact rfl; apply Rn3.r; exact Rn.v rfl; apply RnT3.c; exact rfl; apply Rn3.r; exact Rn.v rfl; exact RnT3.n; apply RnH3.c; exact rfl; exact rfl
 apply RnC.cl; rfl; exact inferInstance; exact rfl; exact rfl; apply RnH3.c; exact rfl; exact rfl; apply RnC.cl; rfl; exact inferInstance; exact rfl; exact rfl
 exact RnH3.n; exact rfl; exact rfl)
end Go.Proofs.YtneeclacmhhblaaGreat


namespace Go.Proofs.YtneeclacmhhblaaGreat
open Go.RowKit
open Nat (reduceAdd reduceMul reduceSub)

theorem Acts.sub {P : Program} {f : FuncId} {H0 : List ABlk} {cs ds : List AV} {v : AV} {H1 : List (Option ABlk)} (h : Acts P f H0 cs v H1) (hs : ∀ E xs, RVs E ds xs → RVs E cs xs) : Acts P f H0 ds v H1 := fun hid E0 xs h1 h2 h3 h4 h5 h6 => h hid E0 xs h1 h2 h3 h4 h5 (hs E0 xs h6)
theorem committee_ok (l : List It) (f : Bool) (n : UInt64) (hl : l.length ≤ 1000000) : Fresh Tryz.prog 27 [.ex l.length f (itsA l), .v (.agg (nameC n))] (fun _ => .v (.int .i64 (comN l n))) [] := by
  have ho := (open_ok l [] f false hl (by simp)).sub sub_nil2
  unfold comN
  cases hx : itOf l n with
  | none =>
    have hit := item_no l f n hl hx
    dsimp only
    refine Fresh.of (fn := Tryz.f27) Tryz.func27 rfl (lb rfl) fun w => ?_
    (
 apply Gol.sr; apply t1; exact s_box rfl rfl; apply t0; exact sA rfl; dsimp only [reduceAdd, reduceMul]; exact dn; exact rfl; apply Gol.sr
 apply t0; exact sM rfl; dsimp only [reduceAdd, reduceMul, reduceSub, na, ca, nbk, mc, ml]
 apply tq; apply s_acts (f := 45) [] rfl inferInstance; exact ho; apply eC rfl; apply eC rfl
 exact eN; exact rfl; exact ABs.nil; dsimp only [List.cons_append, List.nil_append, List.append_nil]; exact RenL.clo; apply Ren.pt; exact CaR.new 0 rfl rfl
 apply HRen.kept; exact CaR.new 0 rfl rfl; apply rK; apply rK; apply rK; apply rK; apply RenL.cons; apply Ren.mp; exact CaR.new 1 rfl rfl; exact RenL.nil; apply HRen.kept
 exact CaR.new 1 rfl rfl; exact RenL.clo; exact HRen.nil; exact lb rfl; dsimp only [reduceAdd, reduceMul, reduceSub, na, ca, nbk, nones, mc, ml]
 apply t0; exact sA rfl; dsimp only [reduceAdd, reduceMul]; exact dn; exact rfl; refine Gol.seq ?_; apply Gol.any
 kernel_rfl; apply t0; exact sM rfl; apply t0; exact s_nilCheck rfl rfl; apply t0; exact sF rfl; apply t0; exact s_loadN rfl rfl (lb rfl) (agu_ag _)
 apply t0; exact s_loadW rfl rfl rfl (agu_cuv _); dsimp only [reduceAdd, reduceMul, reduceSub, na, ca, nbk, mc, ml]
 apply tq; apply s_acts (f := 61) [] rfl inferInstance; exact hit; apply eC rfl; apply eC rfl
 exact eN; exact rfl; exact ABs.nil; dsimp only [List.cons_append, List.nil_append, List.append_nil]; exact RenL.clo; exact rZ
 exact HRen.nil; exact lb rfl; dsimp only [reduceAdd, reduceMul, reduceSub, na, ca, nbk, nones, mc, ml]
 apply t0; exact sM rfl; apply t0; exact s_extract rfl rfl; apply t0; exact s_extract rfl rfl; apply t1; exact s_alloc; apply n1; exact s_storeW rfl rfl rfl rfl rfl rfl
 apply t0; exact sA rfl; dsimp only [reduceAdd, reduceMul]; exact dn; kernel_rfl; exact rfl; refine thn_n ?_; refine Gol.seq ?_
 apply Gol.sr; apply t0; exact sM rfl; apply t0; exact s_not rfl; dsimp only [reduceAdd, reduceMul]; exact dn; exact rfl)
    refine Gol.cond_t rfl rfl ?_
    (apply Gol.sr; apply t0; exact sA rfl; dsimp only [reduceAdd, reduceMul]; exact dn; exact rfl; refine Gol.ret ?_; refine thn_r ?_)
    (apply RetQ.mk (by first | exact .inr rfl | exact .inl rfl); apply res_1 rfl; exact res_tmp rfl; exact out_val)
  | some x =>
    have hit := item_yes l f n x hl hx
    have hm := members_ok l [] f [] x hl
    dsimp only
    refine Fresh.of (fn := Tryz.f27) Tryz.func27 rfl (lb rfl) fun w => ?_
    (
 apply Gol.sr; apply t1; exact s_box rfl rfl; apply t0; exact sA rfl; dsimp only [reduceAdd, reduceMul]; exact dn; exact rfl; apply Gol.sr
 apply t0; exact sM rfl; dsimp only [reduceAdd, reduceMul, reduceSub, na, ca, nbk, mc, ml]
 apply tq; apply s_acts (f := 45) [] rfl inferInstance; exact ho; apply eC rfl; apply eC rfl
 exact eN; exact rfl; exact ABs.nil; dsimp only [List.cons_append, List.nil_append, List.append_nil]; exact RenL.clo; apply Ren.pt; exact CaR.new 0 rfl rfl
 apply HRen.kept; exact CaR.new 0 rfl rfl; apply rK; apply rK; apply rK; apply rK; apply RenL.cons; apply Ren.mp; exact CaR.new 1 rfl rfl; exact RenL.nil; apply HRen.kept
 exact CaR.new 1 rfl rfl; exact RenL.clo; exact HRen.nil; exact lb rfl; dsimp only [reduceAdd, reduceMul, reduceSub, na, ca, nbk, nones, mc, ml]
 apply t0; exact sA rfl; dsimp only [reduceAdd, reduceMul]; exact dn; exact rfl; refine Gol.seq ?_; apply Gol.any
 kernel_rfl; apply t0; exact sM rfl; apply t0; exact s_nilCheck rfl rfl; apply t0; exact sF rfl; apply t0; exact s_loadN rfl rfl (lb rfl) (agu_ag _)
 apply t0; exact s_loadW rfl rfl rfl (agu_cuv _); dsimp only [reduceAdd, reduceMul, reduceSub, na, ca, nbk, mc, ml]
 apply tq; apply s_acts (f := 61) [] rfl inferInstance; exact hit; apply eC rfl; apply eC rfl
 exact eN; exact rfl; exact ABs.nil; dsimp only [List.cons_append, List.nil_append, List.append_nil]; exact RenL.clo; exact rZ
 exact HRen.nil; exact lb rfl; dsimp only [reduceAdd, reduceMul, reduceSub, na, ca, nbk, nones, mc, ml]
 apply t0; exact sM rfl; apply t0; exact s_extract rfl rfl; apply t0; exact s_extract rfl rfl; apply t1; exact s_alloc; apply n1; exact s_storeW rfl rfl rfl rfl rfl rfl
 apply t0; exact sA rfl; dsimp only [reduceAdd, reduceMul]; exact dn; kernel_rfl; exact rfl; refine thn_n ?_; refine Gol.seq ?_
 apply Gol.sr; apply t0; exact sM rfl; apply t0; exact s_not rfl; dsimp only [reduceAdd, reduceMul]; exact dn; exact rfl)
    refine Gol.cond_f rfl rfl ?_
    (
 refine Gol.skip ?_; refine thn_n ?_; apply Gol.sr; apply t0; exact sM rfl; apply t0; exact s_loadW rfl rfl rfl (agu_cua _)
 dsimp only [reduceAdd, reduceMul, reduceSub, na, ca, nbk, mc, ml]; apply tq; apply s_acts (f := 62) [24, 25] rfl inferInstance; exact hm; apply eC rfl; apply eC rfl
 exact eN; exact rfl; apply ABs.cons; exact rfl; exact rfl; exact rfl; apply rK; apply rK
 apply rK; apply rK; apply RenL.cons; apply Ren.mp; exact CaR.old rfl; exact RenL.nil
 apply ABs.cons; exact rfl; exact rfl; exact rfl; exact RenL.clo; exact ABs.nil; dsimp only [List.cons_append, List.nil_append, List.append_nil]; apply RenL.cons
 apply Ren.pt; exact CaR.old rfl; apply rK; exact RenL.nil; exact rZ; apply HRen.kept; exact CaR.old rfl
 apply rK; apply rK; apply rK; apply rK; apply RenL.cons; apply Ren.mp; exact CaR.old rfl; exact RenL.nil; apply HRen.kept; exact CaR.old rfl; exact RenL.clo; exact HRen.nil
 exact lb rfl; dsimp only [reduceAdd, reduceMul, reduceSub, na, ca, nbk, nones, mc, ml]
 apply t0; exact sA rfl; dsimp only [reduceAdd, reduceMul]; exact dn; exact rfl; refine Gol.ret ?_)
    (apply RetQ.mk (by first | exact .inr rfl | exact .inl rfl); apply res_1 rfl; exact res_tmp rfl; exact out_val)
end Go.Proofs.YtneeclacmhhblaaGreat


namespace Go.Proofs.YtneeclacmhhblaaGreat
open Go.RowKit
open Nat (reduceAdd reduceMul reduceSub)

def vt26 (G : It) (val : UInt64) : List Vt := [sgV 5 (X7 G.n []) val 0, sgV 5 (X7 G.n []) val 1, sgV 5 (X7 G.n []) val 2, sgV 7 (X7 G.n []) val 0]
theorem vot26 {G : It} {val : UInt64} (hn : G.n ≠ n7) (hv : val ≠ 0) : votN (vt26 G val) ⟨5, G.n, val⟩ = 7 ∧ votN (vt26 G val) ⟨7, n7, val⟩ = 1 := by
  have e : ∀ k : Ky, alk ([] : List (Ky × Int)) k = none := fun _ => rfl
  have n57 : ¬ (⟨5, G.n, val⟩ : Ky) = ⟨7, n7, val⟩ := fun h => by injection h with h; cases h
  have n75 : ¬ (⟨7, n7, val⟩ : Ky) = ⟨5, G.n, val⟩ := fun h => by injection h with h; cases h
  have hstep : ∀ m k s, (k = 5 ∨ k = 7) → (0 ≤ s ∧ s ≤ 9) → vstep m (sgV k (X7 G.n []) val s) = aput m ⟨k, if k = 5 then G.n else n7, val⟩ (orI ((alk m ⟨k, if k = 5 then G.n else n7, val⟩).getD 0) (shlI 1 s.toNat)) := fun m k s hk hs => vstep_sg (X := X7 G.n []) m hk hs hv
  have h50 : ∀ m, vstep m (sgV 5 (X7 G.n []) val 0) = aput m ⟨5, G.n, val⟩ (orI ((alk m ⟨5, G.n, val⟩).getD 0) 1) := fun m => by rw [hstep m 5 0 (.inl rfl) (by decide)]; rfl
  have h51 : ∀ m, vstep m (sgV 5 (X7 G.n []) val 1) = aput m ⟨5, G.n, val⟩ (orI ((alk m ⟨5, G.n, val⟩).getD 0) 2) := fun m => by rw [hstep m 5 1 (.inl rfl) (by decide)]; rfl
  have h52 : ∀ m, vstep m (sgV 5 (X7 G.n []) val 2) = aput m ⟨5, G.n, val⟩ (orI ((alk m ⟨5, G.n, val⟩).getD 0) 4) := fun m => by rw [hstep m 5 2 (.inl rfl) (by decide)]; rfl
  have h70 : ∀ m, vstep m (sgV 7 (X7 G.n []) val 0) = aput m ⟨7, n7, val⟩ (orI ((alk m ⟨7, n7, val⟩).getD 0) 1) := fun m => by rw [hstep m 7 0 (.inr rfl) (by decide)]; rfl
  unfold votN votM vt26
  simp only [List.foldl_cons, List.foldl_nil]
  rw [h50, h51, h52, h70]
  constructor
  · rw [alk_aput, if_neg n57, alk_aput, if_pos rfl, Option.getD_some, alk_aput, if_pos rfl, Option.getD_some, alk_aput, if_pos rfl, Option.getD_some, e]
    decide
  · rw [alk_aput, if_pos rfl, Option.getD_some, alk_aput, if_neg n75, alk_aput, if_neg n75, alk_aput, if_neg n75, e]
    decide
section
variable (S : List UInt8 → UInt64) {G : It} (hk : G.k = 1) (hh : G.h = 0) (hc : G.cm = 15) (hn : G.n ≠ n7)
include hc hn in
theorem stq26 (hv : valN S (X7 G.n []) ≠ 0) : stqN S [G, X7 G.n []] (vt26 G (valN S (X7 G.n []))) n7 = ⟨15, 7, 1, false⟩ := by
  rw [stq_x S [] _ hn hc, (vot26 hn hv).1, (vot26 hn hv).2]
  have a1 : andI 15 7 = 7 := by decide
  have a2 : andI 15 1 = 1 := by decide
  rw [a1, a2]
include hk hh hn in
theorem hi26 (p : UInt64 → Bool) (hg : p G.n = true) : hiF p [G, X7 G.n []] = if p n7 = true then n7 else G.n := by
  have g : itOf [G, X7 G.n []] G.n = some G := it_two_g _ _
  have x : itOf [G, X7 G.n []] (X7 G.n []).n = some (X7 G.n []) := it_two_x (X := X7 G.n []) hn
  unfold hiF hiN
  rw [show ([G, X7 G.n []] : List It).take ([G, X7 G.n []] : List It).length = [G, X7 G.n []] from rfl, List.foldl_cons, List.foldl_cons, List.foldl_nil, hiOne_first g hg]
  by_cases h : p n7 = true
  · rw [hiOne_new x h (by unfold hiB; rw [hh]; show (decide ((1 : Int) < 0) || (decide ((1 : Int) = 0) && _)) = false; rfl), if_pos h]; rfl
  · rw [hiOne_no x ((Bool.not_eq_true _).mp h), if_neg h]; rfl
include hk hc in
theorem gen26 (g : Int) (l : List It) (vs : List Vt) (hx : itOf l G.n = some G) : lockedB (stqN S l vs G.n) g = true ∧ finalB (stqN S l vs G.n) g = true := by
  have : (stqN S l vs G.n).g = true := by
    unfold stqN stuN
    rw [hx]
    dsimp only
    rw [if_pos hk]
  unfold lockedB finalB
  rw [this]
  exact ⟨rfl, rfl⟩
include hn in
theorem com26 (hc : G.cm = 15) : comN [G, X7 G.n []] n7 = 15 := by
  have x : itOf [G, X7 G.n []] n7 = some (X7 G.n []) := it_two_x (X := X7 G.n []) hn
  unfold comN
  rw [x]
  dsimp only
  unfold cmOf
  rw [if_pos (show (X7 G.n []).k = 3 from rfl), show (X7 G.n []).p = G.n from rfl, it_two_g]
  exact hc
end
theorem wk_x0 (p : UInt64) : WkL [.v (.int .u8 7), .v (.int .u8 0), .v (.int .u8 0), .v (.int .u8 0), .v (.int .u8 0), .v (.int .u8 0), .v (.int .u8 0), .v (.int .u8 0), .v (.int .i64 3), .v (.int .i64 1), .v (.int .u8 ((nb p 7).toNat : Int)), .v (.int .u8 ((nb p 6).toNat : Int)), .v (.int .u8 ((nb p 5).toNat : Int)), .v (.int .u8 ((nb p 4).toNat : Int)), .v (.int .u8 ((nb p 3).toNat : Int)), .v (.int .u8 ((nb p 2).toNat : Int)), .v (.int .u8 ((nb p 1).toNat : Int)), .v (.int .u8 ((nb p 0).toNat : Int)), .v (.slice none 0 0), .v (.slice none 0 0), .v (.int .i64 15), .v (.slice none 0 0), .v (.slice none 0 0), .v (.slice none 0 0), .v (.slice none 0 0), .v (.int .i64 0), .v (.slice none 0 0), .v (.slice none 0 0)] (itA (X7 p [])) := by
  obtain ⟨h7, h6, h5, h4, h3, h2, h1, h0⟩ := nb_n7
  unfold itA X7
  dsimp only
  rw [h7, h6, h5, h4, h3, h2, h1, h0]
  repeat' (first | exact WkL.nil | refine WkL.cons (by first | exact Wk.refl | exact Wk.nil) ?_)
theorem b26 : fullB ⟨15, 7, 1, false⟩ 0 = false ∧ fullB ⟨15, 7, 1, false⟩ 8 = true ∧ lockedB ⟨15, 7, 1, false⟩ 8 = true ∧ finalB ⟨15, 7, 1, false⟩ 8 = false ∧ finalB ⟨15, 7, 1, false⟩ 14 = true ∧ countedB ⟨15, 7, 1, false⟩ 1 = true ∧ acksN ⟨15, 7, 1, false⟩ 8 = 1 := by decide +kernel
section
variable (S : List UInt8 → UInt64) (hS : HashF S)
include hS
set_option maxRecDepth 4000 in
set_option maxHeartbeats 3200000 in
theorem awake26_ok (hne : S (genB (gen0 S 0)) ≠ n7) (hv : ∀ p, valN S (X7 p []) ≠ 0) : Fresh Tryz.prog 9 [] (fun _ => .v (.bool true)) [] := by
  have hg := genesis_ok S hS 0 (by decide)
  have hnew := new_ok S hS (gen0 S 0) (gen0_ok S 0)
  have hk : (genIt S (gen0 S 0)).k = 1 := rfl
  have hh : (genIt S (gen0 S 0)).h = 0 := rfl
  have hc : (genIt S (gen0 S 0)).cm = 15 := gen0_cm S
  have hn : (genIt S (gen0 S 0)).n ≠ n7 := hne
  have hsm : Sm (genIt S (gen0 S 0)).st := genSt_sm _ (gen0_ok S 0)
  generalize genIt S (gen0 S 0) = G at hk hh hc hn hsm hnew
  generalize gen0 S 0 = g at hg hnew
  have hv := hv G.n
  have es := stq26 S hc hn hv
  have eg := gen26 S hk hc 8 [G, X7 G.n []] (vt26 G (valN S (X7 G.n []))) (it_two_g _ _)
  have ec := com26 hn hc
  obtain ⟨f1, f2, f3, f4, f5, f6, f7⟩ := b26
  have hsx : Sm (X7 G.n []).st := ⟨Nat.zero_le _, Nat.zero_le _, Nat.zero_le _, Nat.zero_le _⟩
  have hsmL : ∀ y ∈ [G, X7 G.n []], Sm y.st := fun y hy => by
    simp only [List.mem_cons, List.not_mem_nil, or_false] at hy
    rcases hy with rfl | rfl
    · exact hsm
    · exact hsx
  have eb : hiF (fun n => lockedB (stqN S [G, X7 G.n []] (vt26 G (valN S (X7 G.n []))) n) 8) [G, X7 G.n []] = n7 := by
    rw [hi26 hk hh hn _ eg.1, if_pos (by rw [es]; exact f3)]
  have el : hiF (fun n => finalB (stqN S [G, X7 G.n []] (vt26 G (valN S (X7 G.n []))) n) 8) [G, X7 G.n []] = G.n := by
    rw [hi26 hk hh hn _ eg.2, if_neg (by rw [es, f4]; simp)]
  have c0 : Fresh Tryz.prog 27 [.ex 2 false (itsA [G, X7 G.n []]), .v (.agg (nameC n7))] (fun _ => .v (.int .i64 15)) [] := by
    have h := committee_ok [G, X7 G.n []] false n7 (by simp); rw [ec] at h; exact h
  have c1 : Fresh Tryz.prog 28 [.ex 2 false (itsA [G, X7 G.n []]), .ex 4 false (vtsA (vt26 G (valN S (X7 G.n [])))), .v (.agg (nameC n7))] (fun _ => .v (.int .i64 7)) [] := by
    have h := signers_ok S hS [G, X7 G.n []] (vt26 G (valN S (X7 G.n []))) false false n7 (by simp) (by simp [vt26]) hsmL; rw [es] at h; exact h
  have c2 : Fresh Tryz.prog 29 [.ex 2 false (itsA [G, X7 G.n []]), .ex 4 false (vtsA (vt26 G (valN S (X7 G.n [])))), .v (.int .i64 0), .v (.agg (nameC n7))] (fun _ => .v (.bool false)) [] := by
    have h := full_ok S hS [G, X7 G.n []] (vt26 G (valN S (X7 G.n []))) false false n7 (by simp) (by simp [vt26]) hsmL 0; rw [es, f1] at h; exact h
  have c3 : Fresh Tryz.prog 29 [.ex 2 false (itsA [G, X7 G.n []]), .ex 4 false (vtsA (vt26 G (valN S (X7 G.n [])))), .v (.int .i64 8), .v (.agg (nameC n7))] (fun _ => .v (.bool true)) [] := by
    have h := full_ok S hS [G, X7 G.n []] (vt26 G (valN S (X7 G.n []))) false false n7 (by simp) (by simp [vt26]) hsmL 8; rw [es, f2] at h; exact h
  have c4 : Fresh Tryz.prog 30 [.ex 2 false (itsA [G, X7 G.n []]), .ex 4 false (vtsA (vt26 G (valN S (X7 G.n [])))), .v (.int .i64 8), .v (.agg (nameC n7))] (fun _ => .v (.bool true)) [] := by
    have h := locked_ok S hS [G, X7 G.n []] (vt26 G (valN S (X7 G.n []))) false false n7 (by simp) (by simp [vt26]) hsmL 8; rw [es, f3] at h; exact h
  have c5 : Fresh Tryz.prog 31 [.ex 2 false (itsA [G, X7 G.n []]), .ex 4 false (vtsA (vt26 G (valN S (X7 G.n [])))), .v (.int .i64 8), .v (.agg (nameC n7))] (fun _ => .v (.bool false)) [] := by
    have h := final_ok S hS [G, X7 G.n []] (vt26 G (valN S (X7 G.n []))) false false n7 (by simp) (by simp [vt26]) hsmL 8; rw [es, f4] at h; exact h
  have c6 : Fresh Tryz.prog 31 [.ex 2 false (itsA [G, X7 G.n []]), .ex 4 false (vtsA (vt26 G (valN S (X7 G.n [])))), .v (.int .i64 14), .v (.agg (nameC n7))] (fun _ => .v (.bool true)) [] := by
    have h := final_ok S hS [G, X7 G.n []] (vt26 G (valN S (X7 G.n []))) false false n7 (by simp) (by simp [vt26]) hsmL 14; rw [es, f5] at h; exact h
  have c7 : Fresh Tryz.prog 32 [.ex 2 false (itsA [G, X7 G.n []]), .ex 4 false (vtsA (vt26 G (valN S (X7 G.n [])))), .v (.int .i64 1), .v (.agg (nameC n7))] (fun _ => .v (.bool true)) [] := by
    have h := counted_ok S hS [G, X7 G.n []] (vt26 G (valN S (X7 G.n []))) false false n7 (by simp) (by simp [vt26]) hsmL 1; rw [es, f6] at h; exact h
  have c8 : Fresh Tryz.prog 33 [.ex 2 false (itsA [G, X7 G.n []]), .ex 4 false (vtsA (vt26 G (valN S (X7 G.n [])))), .v (.int .i64 8), .v (.agg (nameC n7))] (fun _ => .v (.int .i64 1)) [] := by
    have h := acks_ok S hS [G, X7 G.n []] (vt26 G (valN S (X7 G.n []))) false false n7 (by simp) (by simp [vt26]) hsmL 8; rw [es, f7] at h; exact h
  have c9 : Fresh Tryz.prog 13 [.ex 2 false (itsA [G, X7 G.n []]), .ex 4 false (vtsA (vt26 G (valN S (X7 G.n [])))), .v (.int .i64 8)] (fun _ => .v (.agg (nameC n7))) [] := by
    have h := base_ok S hS [G, X7 G.n []] (vt26 G (valN S (X7 G.n []))) false false (by simp) (by simp [vt26]) hsmL 8; rw [eb] at h; exact h
  have c10 : Fresh Tryz.prog 15 [.ex 2 false (itsA [G, X7 G.n []]), .ex 4 false (vtsA (vt26 G (valN S (X7 G.n [])))), .v (.int .i64 8)] (fun _ => .v (.agg (nameC G.n))) [] := by
    have h := last_ok S hS [G, X7 G.n []] (vt26 G (valN S (X7 G.n []))) false false (by simp) (by simp [vt26]) hsmL 8; rw [el] at h; exact h
  have c11 : Fresh Tryz.prog 13 [.v (.slice none 0 0), .ex 4 false (vtsA (vt26 G (valN S (X7 G.n [])))), .v (.int .i64 0)] (fun _ => .v (.agg (nameC 0))) [] := by
    have h := base_ok S hS [] (vt26 G (valN S (X7 G.n []))) false false (by simp) (by simp [vt26]) (fun y hy => by cases hy) 0
    exact Fresh.sub h sub_nil
  have v1 := value_ok S hS (X7 G.n []) hsx
  have v2 := refValue_ok S hS (X7 G.n []) hsx
  have hsg := signO_ok S hS g.n g.s 0 (.ex g.vs.length false (byA (flat g.vs))) (.ex g.ac.length false (byA (flat g.ac))) (.ex g.bl.length false (inA g.bl)) (.ex 0 false []) (.ex 1 false (itsA [G])) [] 0 (X7 G.n []) 5 [0, 1, 2] rfl (by decide) hsx
  have hsg2 := signO_ok S hS g.n g.s 0 (.ex g.vs.length false (byA (flat g.vs))) (.ex g.ac.length false (byA (flat g.ac))) (.ex g.bl.length false (inA g.bl)) (.ex 0 false []) (.ex 1 false (itsA [G])) ([] ++ [0, 1, 2].map (sgV 5 (X7 G.n []) (valN S (X7 G.n [])))) (0 + [0, 1, 2].length) (X7 G.n []) 7 [0] rfl (by decide) hsx
  generalize hval : valN S (X7 G.n []) = val at *
  have hne1 : itsA [G] ≠ [] := its_ne (i := 0) (by simp)
  have h0 : ([G] : List It)[0]? = some G := rfl
  refine Fresh.of (fn := Tryz.f9) Tryz.func9 rfl (lb rfl) fun w => ?_
  (
 apply Gol.sr; apply t0; exact sA rfl; dsimp only [reduceAdd, reduceMul]; exact dn; exact rfl; apply Gol.sr; apply tq
 apply s_acts (f := 25) [] rfl inferInstance; exact hg; apply eC rfl; apply eC rfl; exact eN; exact rfl
 exact ABs.nil; dsimp only [List.cons_append, List.nil_append, List.append_nil]; exact RenL.clo; exact rZ; exact HRen.nil; exact lb rfl
 dsimp only [reduceAdd, reduceMul, reduceSub, na, ca, nbk, nones, mc, ml]; apply tq; apply s_acts (f := 24) [] rfl inferInstance; exact hnew; apply eC rfl; exact eN; exact rfl
 exact ABs.nil; dsimp only [List.cons_append, List.nil_append, List.append_nil]; exact RenL.clo; apply Ren.pt; exact CaR.new 0 rfl rfl; apply HRen.kept
 exact CaR.new 0 rfl rfl; apply rK; apply rK; apply rK
 apply rK; apply rK; apply RenL.cons; apply Ren.sl; exact CaR.new 1 rfl rfl; apply rK; apply rK; apply rK; exact RenL.nil; apply HRen.kept
 exact CaR.new 1 rfl rfl; exact RenL.clo; exact HRen.nil; exact lb rfl; dsimp only [reduceAdd, reduceMul, reduceSub, na, ca, nbk, nones, mc, ml]
 apply t0; exact sA rfl; dsimp only [reduceAdd, reduceMul]; exact dn; exact rfl; refine Gol.seq ?_; apply Gol.sr; apply t0
 exact sM rfl; apply t0; exact s_nilCheck rfl rfl; apply t0; exact sF rfl; apply t0; exact s_load rfl rfl rfl; apply t0; exact s_len rfl ln_ex
 apply t0; exact s_nen rfl rfl; dsimp only [reduceAdd, reduceMul]; exact dn; exact rfl)
  refine Gol.cond_f rfl rfl ?_
  (
 refine Gol.skip ?_; refine thn_n ?_; apply Gol.sr; apply tq; apply s_bld
 exact rfl; (focus (dsimp only [splB, cuB, spl, cu, Value.cells, nameC, List.map, List.take, List.drop, List.append, List.length, List.cons_append, List.nil_append, Nat.reduceAdd, List.take_succ_cons, List.take_zero, List.drop_succ_cons, List.drop_zero, List.take_nil, List.drop_nil, List.append_nil, List.length_cons, List.length_nil]; done))
 dsimp only [reduceAdd, reduceMul, reduceSub, na, ca, nbk, mc, ml]; apply t0; exact sM rfl
 apply t0; exact s_nilCheck rfl rfl; apply t0; exact sF rfl; apply t0; exact s_load rfl rfl rfl; apply t0; exact s_ixeD rfl rfl (by decide) (by assumption) (its_at (by assumption))
 apply t0; exact s_fieldAddrE rfl; apply t0; exact s_loadEN rfl (lb rfl) (agu_nm8 rfl); dsimp only [reduceAdd, reduceMul, reduceSub, na, ca, nbk, mc, ml]
 apply tq; apply s_bld; exact rfl; (focus (dsimp only [splB, cuB, spl, cu, Value.cells, nameC, List.map, List.take, List.drop, List.append, List.length, List.cons_append, List.nil_append, Nat.reduceAdd, List.take_succ_cons, List.take_zero, List.drop_succ_cons, List.drop_zero, List.take_nil, List.drop_nil, List.append_nil, List.length_cons, List.length_nil]; done))
 dsimp only [reduceAdd, reduceMul, reduceSub, na, ca, nbk, mc, ml]; apply t1; exact s_alloc
 apply n1; exact s_storeW rfl rfl rfl rfl rfl rfl; dsimp only [reduceAdd, reduceMul]; exact dn; exact rfl)
  refine Gol.le (Le.tell (B := 16) [.v (.int .i64 g.n), .v (.int .i64 g.s), .ex g.vs.length false (byA (flat g.vs)), .ex g.ac.length false (byA (flat g.ac)), .ex g.bl.length false (inA g.bl), .sl 17 0, .v (.int .i64 0), .ex 0 false [], .ex 1 false (itsA [G])] 57 9 rfl rfl WkL.same) ?_
  refine Gol.le (Le.tell (B := 152) (itA (X7 G.n [])) 35 28 rfl rfl (wk_x0 G.n)) ?_
  (
 refine Gol.seq ?_; apply Gol.any; kernel_rfl; apply t0; exact sM rfl; apply t0; exact s_nilCheck rfl rfl; apply t0
 exact sF rfl; apply t0; exact s_load rfl rfl rfl; apply t0; exact s_ixeD rfl rfl (by decide) (by assumption) (its_at (by assumption)); apply t0
 exact s_loadEN rfl (lb rfl) agu_it; apply t0; exact s_loadW rfl rfl rfl (agu_cua _); apply t1; exact s_lit (PA.cons rfl rfl rfl (PA.cons rfl rfl rfl PA.nil)) rfl (by first | omega | exact lb rfl | decide | (simp <;> omega) | (dsimp <;> omega))
 apply t0; exact sA rfl; dsimp only [reduceAdd, reduceMul]; exact dn; kernel_rfl; exact rfl; refine thn_n ?_)
  refine Gol.le (Le.tell (B := 224) (itsA [G, X7 G.n []]) 35 28 rfl rfl (its_two G (X7 G.n []) ▸ WkL.same)) ?_
  (
 apply Gol.sr; apply t0; exact sM rfl; apply t0; exact s_loadW rfl rfl rfl (agu_cua _); apply tq; exact s_bytesP (PV.cons rfl rfl rfl (PV.cons rfl rfl rfl (PV.cons rfl rfl rfl PV.nil))) rfl (by omega)
 dsimp only [reduceAdd, reduceMul, reduceSub, na, ca, nbk, mc, ml]; apply tq; apply s_acts (f := 26) [16, 17, 256] rfl inferInstance; exact hsg; apply eC rfl; apply eC rfl
 apply eC rfl; apply eC rfl; exact eN; exact rfl; apply ABs.cons; exact rfl; exact rfl; exact rfl; apply rK
 apply rK; apply rK; apply rK; apply rK; apply RenL.cons; apply Ren.sl; exact CaR.old rfl; apply rK; apply rK
 apply rK; exact RenL.nil; apply ABs.cons; exact rfl; exact rfl; exact rfl; exact RenL.clo; apply ABs.cons; exact rfl
 exact rfl; exact rfl; exact RenL.clo; exact ABs.nil; dsimp only [List.cons_append, List.nil_append, List.append_nil]; apply RenL.cons; apply Ren.pt; exact CaR.old rfl
 apply rK; apply rK; apply RenL.cons; apply Ren.sl; exact CaR.old rfl; exact RenL.nil
 exact rZ; apply HRen.kept; exact CaR.old rfl; apply rK; apply rK
 apply rK; apply rK; apply rK; apply RenL.cons
 apply Ren.sl; exact CaR.new 0 rfl rfl; apply rK; apply rK; apply rK
 exact RenL.nil; apply HRen.gone; exact CaR.old rfl; apply HRen.gone; exact CaR.old rfl; apply HRen.kept; exact CaR.new 0 rfl rfl; exact RenL.clo; exact HRen.nil
 exact lb rfl; dsimp only [reduceAdd, reduceMul, reduceSub, na, ca, nbk, nones, mc, ml]
 exact dn; exact rfl)
  (
 apply Gol.sr; apply t0; exact sM rfl; apply t0; exact s_loadW rfl rfl rfl (agu_cua _); apply tq; exact s_bytesP (PV.cons rfl rfl rfl PV.nil) rfl (by omega)
 dsimp only [reduceAdd, reduceMul, reduceSub, na, ca, nbk, mc, ml]; apply tq; apply s_acts (f := 26) [16, 264, 288] rfl inferInstance; exact hsg2; apply eC rfl; apply eC rfl
 apply eC rfl; apply eC rfl; exact eN; exact rfl; apply ABs.cons; exact rfl; exact rfl; exact rfl; apply rK
 apply rK; apply rK; apply rK; apply rK; apply RenL.cons; apply Ren.sl; exact CaR.old rfl; apply rK; apply rK
 apply rK; exact RenL.nil; apply ABs.cons; exact rfl; exact rfl; exact rfl; exact RenL.clo; apply ABs.cons; exact rfl
 exact rfl; exact rfl; exact RenL.clo; exact ABs.nil; dsimp only [List.cons_append, List.nil_append, List.append_nil]; apply RenL.cons; apply Ren.pt; exact CaR.old rfl
 apply rK; apply rK; apply RenL.cons; apply Ren.sl; exact CaR.old rfl; exact RenL.nil
 exact rZ; apply HRen.kept; exact CaR.old rfl; apply rK; apply rK
 apply rK; apply rK; apply rK; apply RenL.cons
 apply Ren.sl; exact CaR.new 0 rfl rfl; apply rK; apply rK; apply rK
 exact RenL.nil; apply HRen.gone; exact CaR.old rfl; apply HRen.gone; exact CaR.old rfl; apply HRen.kept; exact CaR.new 0 rfl rfl; exact RenL.clo; exact HRen.nil
 exact lb rfl; dsimp only [reduceAdd, reduceMul, reduceSub, na, ca, nbk, nones, mc, ml]
 exact dn; exact rfl)
  refine Gol.le (Le.giveT (B := 16) (b := 296) (us := [.v (.int .i64 g.n), .v (.int .i64 g.s), .ex g.vs.length false (byA (flat g.vs)), .ex g.ac.length false (byA (flat g.ac)), .ex g.bl.length false (inA g.bl), .ex 4 false (vtsA (vt26 G val)), .v (.int .i64 0), .ex 0 false [], .ex 1 false (itsA [G])]) 5 (vtsA (vt26 G val)) 57 9 rfl rfl rfl rfl rfl rfl WkL.same) ?_
  refine Gol.le (Le.give (i := 3) (b := 224) (n' := 2) (cs := itsA [G, X7 G.n []]) rfl rfl rfl rfl) ?_
  clear hsg hsg2 hg hnew
  (
 apply Gol.sr; apply t0; exact sM rfl; apply t0; exact s_nilCheck rfl rfl; apply t0; exact sF rfl; apply t0; exact sF rfl; apply t0
 exact s_load rfl rfl rfl; apply t0; exact sA rfl; dsimp only [reduceAdd, reduceMul]; exact dn; exact rfl)
  (
 apply Gol.sr; apply t0; exact sF rfl; apply t0; exact s_loadN rfl rfl (lb rfl) (agu_nm8 rfl); apply t1; exact s_alloc; apply n1
 exact s_storeW rfl rfl rfl rfl rfl rfl; dsimp only [reduceAdd, reduceMul]; exact dn; exact rfl)
  refine Gol.le (?_ : Le _ 384 _ _ 384 [(16, some ⟨[.v (.int .i64 g.n), .v (.int .i64 g.s), .ex g.vs.length false (byA (flat g.vs)), .ex g.ac.length false (byA (flat g.ac)), .ex g.bl.length false (inA g.bl), .ex 4 false (vtsA (vt26 G val)), .v (.int .i64 0), .ex 0 false [], .ex 1 false (itsA [G])], 57, 9⟩), (152, some ⟨itA (X7 G.n []), 35, 28⟩), (368, some ⟨cu (.v (.agg (nameC n7))), 23, 8⟩)] [(1, .pt 16 0), (2, .pt 152 0), (3, .ex 2 false (itsA [G, X7 G.n []])), (4, .ex 4 false (vtsA (vt26 G val))), (5, .pt 368 0)]) ?_
  · (
 apply Le.mk3' []; apply RnT3.c; exact rfl; apply Rn3.r; exact Rn.pt rfl rfl; apply RnT3.c; exact rfl; apply Rn3.r; exact Rn.pt rfl rfl; apply RnT3.c; exact rfl
 apply Rn3.r; exact Rn.clo inferInstance rfl; apply RnT3.c; exact rfl; apply Rn3.r; exact Rn.clo inferInstance rfl; apply RnT3.c; exact rfl; apply Rn3.r
 exact Rn.pt rfl rfl; exact RnT3.n; apply RnH3.c; exact rfl; exact rfl; apply RnC.cl; rfl; exact inferInstance; exact rfl; exact rfl; apply RnH3.c; exact rfl
 exact rfl; apply RnC.cl; rfl; exact inferInstance; exact rfl; exact rfl; apply RnH3.c; exact rfl; exact rfl; apply RnC.cl; rfl; exact inferInstance; exact rfl
 exact rfl; exact RnH3.n; exact rfl; exact rfl)
  (
 refine Gol.seq ?_; apply Gol.any; kernel_rfl; apply t0; exact sM rfl; apply t0; exact s_loadW rfl rfl rfl (agu_cuv _)
 apply tq; exact s_call (f := 27) rfl (eC rfl (eC rfl eN)) (aC aL (aC aL aN)) c0 (lb rfl)
 dsimp only [reduceAdd, reduceMul, reduceSub, na, ca, nbk, mc, ml]; apply t0; exact s_eqn rfl rfl
 apply t0; exact sM rfl; apply g0; exact wnt_g rfl rfl rfl rfl; exact sM rfl; apply g0; exact wnt_g rfl rfl rfl rfl; exact sM rfl; apply g0
 exact wnt_g rfl rfl rfl rfl; exact s_loadW rfl rfl rfl (agu_cuv _); apply gq; exact wnt_g rfl rfl rfl rfl; exact s_call (f := 28) rfl (eC rfl (eC rfl (eC rfl eN))) (aC aL (aC aL (aC aL aN))) c1 (lb rfl)
 dsimp only [reduceAdd, reduceMul, reduceSub, na, ca, nbk, mc, ml]; apply g0; exact wnt_g rfl rfl rfl rfl
 exact s_eqn rfl rfl; apply t0; exact s_pick_t rfl rfl rfl; apply t0; exact sM rfl; apply g0; exact wnt_g rfl rfl rfl rfl; exact sM rfl; apply g0
 exact wnt_g rfl rfl rfl rfl; exact sM rfl; apply g0; exact wnt_g rfl rfl rfl rfl; exact s_loadW rfl rfl rfl (agu_cuv _); apply gq; exact wnt_g rfl rfl rfl rfl
 exact s_call (f := 29) rfl (eC rfl (eC rfl (eC rfl (eC rfl eN)))) (aC aL (aC aL (aC aL (aC aL aN)))) c2 (lb rfl)
 dsimp only [reduceAdd, reduceMul, reduceSub, na, ca, nbk, mc, ml]; apply g0; exact wnt_g rfl rfl rfl rfl
 exact s_not rfl; apply t0; exact s_pick_t rfl rfl rfl; apply t0; exact sM rfl; apply g0; exact wnt_g rfl rfl rfl rfl; exact sM rfl; apply g0; exact wnt_g rfl rfl rfl rfl
 exact sM rfl; apply g0; exact wnt_g rfl rfl rfl rfl; exact s_loadW rfl rfl rfl (agu_cuv _); apply gq; exact wnt_g rfl rfl rfl rfl; exact s_call (f := 29) rfl (eC rfl (eC rfl (eC rfl (eC rfl eN)))) (aC aL (aC aL (aC aL (aC aL aN)))) c3 (lb rfl)
 dsimp only [reduceAdd, reduceMul, reduceSub, na, ca, nbk, mc, ml]; apply t0; exact s_pick_t rfl rfl rfl
 apply t0; exact sM rfl; apply g0; exact wnt_g rfl rfl rfl rfl; exact sM rfl; apply g0; exact wnt_g rfl rfl rfl rfl; exact sM rfl; apply g0
 exact wnt_g rfl rfl rfl rfl; exact s_loadW rfl rfl rfl (agu_cuv _); apply gq; exact wnt_g rfl rfl rfl rfl; exact s_call (f := 30) rfl (eC rfl (eC rfl (eC rfl (eC rfl eN)))) (aC aL (aC aL (aC aL (aC aL aN)))) c4 (lb rfl)
 dsimp only [reduceAdd, reduceMul, reduceSub, na, ca, nbk, mc, ml]; apply t0; exact s_pick_t rfl rfl rfl
 apply t0; exact sM rfl; apply g0; exact wnt_g rfl rfl rfl rfl; exact sM rfl; apply g0; exact wnt_g rfl rfl rfl rfl; exact sM rfl; apply g0
 exact wnt_g rfl rfl rfl rfl; exact s_loadW rfl rfl rfl (agu_cuv _); apply gq; exact wnt_g rfl rfl rfl rfl; exact s_call (f := 31) rfl (eC rfl (eC rfl (eC rfl (eC rfl eN)))) (aC aL (aC aL (aC aL (aC aL aN)))) c5 (lb rfl)
 dsimp only [reduceAdd, reduceMul, reduceSub, na, ca, nbk, mc, ml]; apply g0; exact wnt_g rfl rfl rfl rfl
 exact s_not rfl; apply t0; exact s_pick_t rfl rfl rfl; apply t0; exact sM rfl; apply g0; exact wnt_g rfl rfl rfl rfl; exact sM rfl; apply g0; exact wnt_g rfl rfl rfl rfl
 exact sM rfl; apply g0; exact wnt_g rfl rfl rfl rfl; exact s_loadW rfl rfl rfl (agu_cuv _); apply gq; exact wnt_g rfl rfl rfl rfl; exact s_call (f := 31) rfl (eC rfl (eC rfl (eC rfl (eC rfl eN)))) (aC aL (aC aL (aC aL (aC aL aN)))) c6 (lb rfl)
 dsimp only [reduceAdd, reduceMul, reduceSub, na, ca, nbk, mc, ml]; apply t0; exact s_pick_t rfl rfl rfl
 apply t0; exact sM rfl; apply g0; exact wnt_g rfl rfl rfl rfl; exact sM rfl; apply g0; exact wnt_g rfl rfl rfl rfl; exact sM rfl; apply g0
 exact wnt_g rfl rfl rfl rfl; exact s_loadW rfl rfl rfl (agu_cuv _); apply gq; exact wnt_g rfl rfl rfl rfl; exact s_call (f := 32) rfl (eC rfl (eC rfl (eC rfl (eC rfl eN)))) (aC aL (aC aL (aC aL (aC aL aN)))) c7 (lb rfl)
 dsimp only [reduceAdd, reduceMul, reduceSub, na, ca, nbk, mc, ml]; apply t0; exact s_pick_t rfl rfl rfl
 apply t0; exact sM rfl; apply g0; exact wnt_g rfl rfl rfl rfl; exact sM rfl; apply g0; exact wnt_g rfl rfl rfl rfl; exact sM rfl; apply g0
 exact wnt_g rfl rfl rfl rfl; exact s_loadW rfl rfl rfl (agu_cuv _); apply gq; exact wnt_g rfl rfl rfl rfl; exact s_call (f := 33) rfl (eC rfl (eC rfl (eC rfl (eC rfl eN)))) (aC aL (aC aL (aC aL (aC aL aN)))) c8 (lb rfl)
 dsimp only [reduceAdd, reduceMul, reduceSub, na, ca, nbk, mc, ml]; apply g0; exact wnt_g rfl rfl rfl rfl
 exact s_eqn rfl rfl; apply t0; exact s_pick_t rfl rfl rfl; apply t0; exact sM rfl; apply g0; exact wnt_g rfl rfl rfl rfl; exact sM rfl; apply g0
 exact wnt_g rfl rfl rfl rfl; exact sM rfl; apply gq; exact wnt_g rfl rfl rfl rfl; exact s_call (f := 13) rfl (eC rfl (eC rfl (eC rfl eN))) (aC aL (aC aL (aC aL aN))) c9 (lb rfl)
 dsimp only [reduceAdd, reduceMul, reduceSub, na, ca, nbk, mc, ml]; apply g0; exact wnt_g rfl rfl rfl rfl
 exact s_loadW rfl rfl rfl (agu_cuv _); apply g0; exact wnt_g rfl rfl rfl rfl; exact s_eqN rfl rfl; apply t0; exact s_pick_t rfl rfl rfl; apply t0; exact sM rfl
 apply g0; exact wnt_g rfl rfl rfl rfl; exact sM rfl; apply g0; exact wnt_g rfl rfl rfl rfl; exact sM rfl; apply gq; exact wnt_g rfl rfl rfl rfl
 exact s_call (f := 15) rfl (eC rfl (eC rfl (eC rfl eN))) (aC aL (aC aL (aC aL aN))) c10 (lb rfl)
 dsimp only [reduceAdd, reduceMul, reduceSub, na, ca, nbk, mc, ml]; apply g0; exact wnt_g rfl rfl rfl rfl
 exact sM rfl; apply g0; exact wnt_g rfl rfl rfl rfl; exact s_nilCheck rfl rfl; apply g0; exact wnt_g rfl rfl rfl rfl; exact sF rfl; apply g0
 exact wnt_g rfl rfl rfl rfl; exact s_load rfl rfl rfl; apply g0; exact wnt_g rfl rfl rfl rfl; exact s_ixeD rfl rfl (by decide) (by assumption) (its_at (by assumption))
 apply g0; exact wnt_g rfl rfl rfl rfl; exact s_fieldAddrE rfl; apply g0; exact wnt_g rfl rfl rfl rfl; exact s_loadEN rfl (lb rfl) (agu_nm8 rfl)
 apply g0; exact wnt_g rfl rfl rfl rfl; exact s_eqN rfl rfl; apply t0; exact s_pick_t rfl rfl rfl; apply t0; exact sM rfl; apply g0; exact wnt_g rfl rfl rfl (by focus (simp [*]; done))
 exact sM rfl; apply gq; exact wnt_g rfl rfl rfl (by focus (simp [*]; done)); exact s_call (f := 13) rfl (eC rfl (eC rfl (eC rfl eN))) (aC aL (aC aL (aC aL aN))) c11 (lb rfl)
 dsimp only [reduceAdd, reduceMul, reduceSub, na, ca, nbk, mc, ml]; apply g0; exact wnt_g rfl rfl rfl (by focus (simp [*]; done))
 exact s_zero; apply g0; exact wnt_g rfl rfl rfl (by focus (simp [*]; done)); exact s_eqN rfl rfl; apply t0; exact s_pick_t rfl (by focus (simp [*]; done)) rfl
 apply t0; exact sM rfl; apply g0; exact wnt_g rfl rfl rfl rfl; exact s_loadW rfl rfl rfl (agu_cua _); apply gq; exact wnt_g rfl rfl rfl rfl; exact s_call (f := 10) rfl (eC rfl eN) (aC aL aN) v1 (lb rfl)
 dsimp only [reduceAdd, reduceMul, reduceSub, na, ca, nbk, mc, ml]; apply g0; exact wnt_g rfl rfl rfl rfl
 exact s_loadW rfl rfl rfl (agu_cua _); apply gq; exact wnt_g rfl rfl rfl rfl; exact s_call (f := 11) rfl (eC rfl eN) (aC aL aN) v2 (lb rfl)
 dsimp only [reduceAdd, reduceMul, reduceSub, na, ca, nbk, mc, ml]; apply g0; exact wnt_g rfl rfl rfl rfl
 exact s_eqN rfl rfl; apply t0; exact s_pick_t rfl rfl rfl; apply t0; exact sA rfl; dsimp only [reduceAdd, reduceMul]; exact dn; kernel_rfl
 exact rfl; refine thn_n ?_; refine Gol.ret ?_)
  apply RetQ.bool
  · (apply RetQ.mk (by first | exact .inr rfl | exact .inl rfl); apply res_1 rfl; exact res_tmp rfl; exact out_val)
  · simp
end
end Go.Proofs.YtneeclacmhhblaaGreat


namespace Go.Proofs.YtneeclacmhhblaaGreat
open Go.RowKit
def fc {α : Type} (n : Nat) (f : Nat → α) : α := match n with
  | 0 => f 0
  | m + 1 => f (m + 1)
theorem fc_eq {α : Type} (n : Nat) (f : Nat → α) : fc n f = f n := by cases n <;> rfl
def rotK (x a b : Nat) : Nat := Nat.lor (Nat.mod (Nat.mul x a) 18446744073709551616) (Nat.div x b)
def mixK {α : Type} (x y : Nat) (f : Nat → Nat → α) : α :=
  fc (Nat.mod (Nat.add x y) 18446744073709551616) fun a =>
  fc (Nat.xor (rotK y 8192 2251799813685248) a) fun y' =>
  fc (Nat.mod (Nat.mul (rotK a 4294967296 4294967296) 11400714819323198485) 18446744073709551616) fun x' => f x' y'
def absK {α : Type} : List Nat → Nat → Nat → (Nat → Nat → α) → α
  | [], x, y, f => f x y
  | w :: ws, x, y, f => mixK (Nat.xor x w) y fun x y => mixK x y fun x y => absK ws x y f
def finK (x y n : Nat) : Nat := mixK x (Nat.xor y n) fun x y => mixK x y fun x y => mixK x y fun x y => mixK x y fun x y => Nat.xor x y
def sumK (ws : List Nat) (n : Nat) : Nat := absK ws 2611923443488327891 1376283091369227076 fun x y => finK x y n
theorem rotK_13 (x : UInt64) : rotK x.toNat 8192 2251799813685248 = (rotl x 13).toNat := by
  have hx := x.toNat_lt
  have h1 : (shlU x 13).toNat = x.toNat * 8192 % 18446744073709551616 := by unfold shlU; rw [UInt64.toNat_ofNat']
  have h2 : (shrU x 51).toNat = x.toNat / 2251799813685248 := by
    unfold shrU; rw [UInt64.toNat_ofNat']; simp only [Nat.reducePow]; omega
  unfold rotl orU
  rw [UInt64.toNat_or, h1, h2]; rfl
theorem rotK_32 (x : UInt64) : rotK x.toNat 4294967296 4294967296 = (rotl x 32).toNat := by
  have hx := x.toNat_lt
  have h1 : (shlU x 32).toNat = x.toNat * 4294967296 % 18446744073709551616 := by unfold shlU; rw [UInt64.toNat_ofNat']
  have h2 : (shrU x 32).toNat = x.toNat / 4294967296 := by
    unfold shrU; rw [UInt64.toNat_ofNat']; simp only [Nat.reducePow]; omega
  unfold rotl orU
  rw [UInt64.toNat_or, h1, h2]; rfl
theorem mixK_eq {α : Type} (x y : UInt64) (f : Nat → Nat → α) : mixK x.toNat y.toNat f = f (mixU (x, y)).1.toNat (mixU (x, y)).2.toNat := by
  unfold mixK
  simp only [fc_eq]
  have ha : Nat.mod (Nat.add x.toNat y.toNat) 18446744073709551616 = (addU x y).toNat := by
    unfold addU; rw [UInt64.toNat_add]; rfl
  rw [ha, rotK_13, rotK_32]
  have h1 : Nat.mod (Nat.mul (rotl (addU x y) 32).toNat 11400714819323198485) 18446744073709551616 = (mixU (x, y)).1.toNat := by
    unfold mixU mulU factor; rw [UInt64.toNat_mul]; rfl
  have h2 : Nat.xor (rotl y 13).toNat (addU x y).toNat = (mixU (x, y)).2.toNat := by
    unfold mixU xorU; rw [UInt64.toNat_xor]; rfl
  rw [h1, h2]
def wstep (s : UInt64 × UInt64) (w : UInt64) : UInt64 × UInt64 := mixN 2 (xorU s.1 w, s.2)
theorem absK_eq {α : Type} : ∀ (ws : List UInt64) (s : UInt64 × UInt64) (f : Nat → Nat → α), absK (ws.map (·.toNat)) s.1.toNat s.2.toNat f = f (ws.foldl wstep s).1.toNat (ws.foldl wstep s).2.toNat
  | [], s, f => rfl
  | w :: ws, s, f => by
    simp only [List.map_cons, absK, List.foldl_cons]
    have hx : Nat.xor s.1.toNat w.toNat = (xorU s.1 w).toNat := by unfold xorU; rw [UInt64.toNat_xor]; rfl
    rw [hx, mixK_eq, mixK_eq]
    exact absK_eq ws (wstep s w) f
theorem sumTo_fold (bs : List UInt8) : ∀ k, sumTo bs k = ((List.range k).map fun j => wordOf (bs.drop (8 * j))).foldl wstep startS
  | 0 => rfl
  | k + 1 => by rw [List.range_succ, List.map_append, List.foldl_append, ← sumTo_fold bs k]; rfl
theorem finK_eq (x y : UInt64) (n : Nat) (hn : n < 18446744073709551616) : finK x.toNat y.toNat n = (xorU (mixN 4 (x, xorU y (lenU n))).1 (mixN 4 (x, xorU y (lenU n))).2).toNat := by
  unfold finK
  have hx : Nat.xor y.toNat n = (xorU y (lenU n)).toNat := by
    unfold xorU lenU; rw [UInt64.toNat_xor, UInt64.toNat_ofNat_of_lt' hn]; rfl
  rw [hx, mixK_eq, mixK_eq, mixK_eq, mixK_eq]
  unfold xorU
  rw [UInt64.toNat_xor]; rfl
theorem sumN_K (bs : List UInt8) (ws : List UInt64) (n : Nat) (hn : bs.length = n) (hlt : n < 18446744073709551616) (hw : ((List.range ((n + 7) / 8)).map fun j => wordOf (bs.drop (8 * j))) = ws) : (sumN bs).toNat = sumK (ws.map (·.toNat)) n := by
  subst hn
  unfold sumK
  have h := absK_eq ws startS fun x y => finK x y bs.length
  have e : startS.1.toNat = 2611923443488327891 ∧ startS.2.toNat = 1376283091369227076 := by decide
  rw [e.1, e.2] at h
  rw [h, finK_eq _ _ _ hlt]
  unfold sumN sumFin sumEnd
  rw [sumTo_fold, hw]
end Go.Proofs.YtneeclacmhhblaaGreat


namespace Go.Proofs.YtneeclacmhhblaaGreat
def hornK : Nat → List Nat → Nat → Nat
  | 0, _, a => a
  | k + 1, [], a => hornK k [] (Nat.mul a 256)
  | k + 1, c :: l, a => hornK k l (Nat.add (Nat.mul a 256) c)
def wordsK : Nat → List Nat → List Nat
  | 0, _ => []
  | k + 1, l => hornK 8 l 0 :: wordsK k (l.drop 8)
def hK (l : List Nat) (n : Nat) : Nat := sumK (wordsK (Nat.div (Nat.add n 7) 8) l) n
def beK (n : Nat) : List Nat := [Nat.mod (Nat.div n 72057594037927936) 256, Nat.mod (Nat.div n 281474976710656) 256, Nat.mod (Nat.div n 1099511627776) 256, Nat.mod (Nat.div n 4294967296) 256, Nat.mod (Nat.div n 16777216) 256, Nat.mod (Nat.div n 65536) 256, Nat.mod (Nat.div n 256) 256, Nat.mod n 256]
def flK : List Nat → List Nat
  | [] => []
  | n :: l => beK n ++ flK l
def stepK (v c p : Nat) : Nat := sumK [Nat.add 2377900603251621888 (Nat.div v 256), Nat.add (Nat.mul (Nat.mod v 256) 72057594037927936) (Nat.add (Nat.mul c 281474976710656) (Nat.mul p 1099511627776))] 11
def chK (v c : Nat) : Nat → Nat
  | 0 => v
  | k + 1 => fc (chK v c k) fun u => stepK u c k
def endK (s c : Nat) : Nat := fc (hK (32 :: (beK s ++ [c])) 10) fun v => chK v c 15
def lsK {α : Type} (f : Nat → Nat) : Nat → List Nat → (List Nat → α) → α
  | 0, acc, k => k acc
  | n + 1, acc, k => fc (f n) fun v => lsK f n (v :: acc) k
theorem lsK_eq {α : Type} (f : Nat → Nat) : ∀ (n : Nat) (acc : List Nat) (k : List Nat → α), lsK f n acc k = k ((List.range n).map f ++ acc)
  | 0, acc, k => rfl
  | n + 1, acc, k => by
    rw [lsK, fc_eq, lsK_eq f n, List.range_succ, List.map_append, List.append_assoc]; rfl
def oneK (s : Nat) : Nat := lsK (endK s) 18 [] fun l => hK (34 :: flK l) 145
def leK (s j : Nat) : Nat := fc (hK (48 :: (beK s ++ [1, 0, 0, j])) 13) oneK
def rtK : Nat → List Nat → Nat
  | 0, l => hK (17 :: beK (l.headD 0)) 9
  | d + 1, l => fc (rtK d (l.take (Nat.pow 2 d))) fun a => fc (rtK d (l.drop (Nat.pow 2 d))) fun b => hK (18 :: (beK a ++ beK b)) 17
def pubK (s : Nat) : Nat := lsK (leK s) 32 [] fun l => rtK 5 l
theorem pubK_0 : Nat.beq (pubK 144396663052566528) 7777661556218401820 = true := by decide +kernel
theorem pubK_1 : Nat.beq (pubK 144678138029277184) 3328988323590226759 = true := by decide +kernel
theorem pubK_2 : Nat.beq (pubK 144959613005987840) 7795977363967174611 = true := by decide +kernel
def gtxK : List Nat := [1, 4, 0, 0, 0, 0, 0, 60, 6, 3, 1, 0, 0, 0, 0, 0, 0, 3, 2, 0, 0, 0, 0, 0, 0, 3, 3, 0, 0, 0, 0, 0, 0, 3, 4, 0, 0, 0, 0, 0, 0, 3, 5, 0, 0, 0, 0, 0, 0, 3, 6, 0, 0, 0, 0, 0, 0, 3, 107, 239, 205, 250, 65, 156, 20, 28, 0, 0, 0, 0, 0, 100, 46, 50, 241, 62, 25, 4, 195, 71, 0, 0, 0, 0, 0, 50, 108, 48, 224, 27, 144, 63, 231, 211, 0, 0, 0, 0, 0, 0]
theorem gtxK_h : Nat.beq (hK gtxK 100) 7484118400017695999 = true := by decide +kernel
end Go.Proofs.YtneeclacmhhblaaGreat


namespace Go.Proofs.YtneeclacmhhblaaGreat
open Go.RowKit
def tn (l : List UInt8) : List Nat := l.map (·.toNat)
theorem topB_first (b : Nat → UInt8) : ∀ k, topB b (k + 1) = (b 0).toNat * 256 ^ k + topB (fun i => b (i + 1)) k
  | 0 => by simp [topB]
  | k + 1 => by
    rw [topB, topB_first b k, topB, Nat.pow_succ, Nat.add_mul, Nat.mul_assoc, Nat.add_assoc]
theorem hornK_eq : ∀ (k : Nat) (l : List UInt8) (a : Nat), hornK k (tn l) a = a * 256 ^ k + topB (fun i => l.getD i 0) k
  | 0, l, a => by simp [hornK, topB]
  | k + 1, [], a => by
    have h := hornK_eq k [] (Nat.mul a 256)
    have e : hornK (k + 1) (tn []) a = hornK k (tn []) (Nat.mul a 256) := rfl
    rw [e, h, topB_first, Nat.pow_succ]
    show a * 256 * 256 ^ k + _ = _
    simp only [List.getD_nil]
    rw [Nat.mul_assoc, Nat.mul_comm 256]
    simp
  | k + 1, c :: l, a => by
    have h := hornK_eq k l (Nat.add (Nat.mul a 256) c.toNat)
    have e : hornK (k + 1) (tn (c :: l)) a = hornK k (tn l) (Nat.add (Nat.mul a 256) c.toNat) := rfl
    rw [e, h, topB_first, Nat.pow_succ]
    show (a * 256 + c.toNat) * 256 ^ k + _ = _
    simp only [List.getD_cons_zero, List.getD_cons_succ]
    rw [Nat.add_mul, Nat.mul_assoc, Nat.mul_comm 256, Nat.add_assoc]
theorem wordOf_K (l : List UInt8) : (wordOf l).toNat = hornK 8 (tn l) 0 := by rw [hornK_eq, wordOf, nameOf_topB, Nat.zero_mul, Nat.zero_add]
theorem wordsK_eq : ∀ (k : Nat) (l : List UInt8), ((List.range k).map fun j => wordOf (l.drop (8 * j))).map (·.toNat) = wordsK k (tn l)
  | 0, l => rfl
  | k + 1, l => by
    have ih := wordsK_eq k (l.drop 8)
    rw [List.range_succ_eq_map, List.map_cons, List.map_cons, Nat.mul_zero, List.drop_zero, wordOf_K, wordsK]
    refine List.cons_eq_cons.2 ⟨rfl, ?_⟩
    rw [show (tn l).drop 8 = tn (l.drop 8) by simp [tn], ← ih, List.map_map, List.map_map, List.map_map]
    refine List.map_congr_left fun j _ => ?_
    simp only [Function.comp, List.drop_drop, Nat.mul_succ, Nat.succ_eq_add_one, Nat.mul_add, Nat.add_comm]
theorem hK_eq (l : List UInt8) (n : Nat) (hn : l.length = n) (hlt : n < 18446744073709551616) : (sumN l).toNat = hK (tn l) n := by
  rw [sumN_K l _ n hn hlt rfl, wordsK_eq]; rfl
theorem nameB_K (x : UInt64) : tn (nameB x) = beK x.toNat := by
  simp only [tn, nameB, List.map_cons, List.map_nil, nb_lt, beK, Nat.reducePow, Nat.div_one]
  rfl
theorem tn_app (a b : List UInt8) : tn (a ++ b) = tn a ++ tn b := List.map_append
theorem flK_eq : ∀ l : List UInt64, tn (flat l) = flK (l.map (·.toNat))
  | [] => rfl
  | x :: l => by
    have : flat (x :: l) = nameB x ++ flat l := rfl
    rw [this, tn_app, nameB_K, flK_eq l]; rfl
theorem toU8_n (c : Nat) (h : c < 256) : (toU8 (c : Int)).toNat = c := by
  unfold toU8
  rw [UInt8.toNat_ofNat']
  omega
theorem stepK_eq (v : UInt64) (c p : Nat) (hc : c < 256) (hp : p < 256) : (sumN (0x21 :: (nameB v ++ [toU8 (c : Int), toU8 (p : Int)]))).toNat = stepK v.toNat c p := by
  rw [hK_eq _ 11 rfl (by decide)]
  have e : tn (0x21 :: (nameB v ++ [toU8 (c : Int), toU8 (p : Int)])) = 33 :: (beK v.toNat ++ [c, p]) := by
    show (33 : Nat) :: tn (nameB v ++ [toU8 (c : Int), toU8 (p : Int)]) = _
    rw [tn_app, nameB_K]
    simp only [tn, List.map_cons, List.map_nil, toU8_n c hc, toU8_n p hp]
  rw [e]
  have hv := v.toNat_lt
  generalize v.toNat = x at hv
  unfold hK stepK
  have h1 : wordsK (Nat.div (Nat.add 11 7) 8) (33 :: (beK x ++ [c, p])) = [Nat.add 2377900603251621888 (Nat.div x 256), Nat.add (Nat.mul (Nat.mod x 256) 72057594037927936) (Nat.add (Nat.mul c 281474976710656) (Nat.mul p 1099511627776))] := by
    show [((((((((0 * 256 + 33) * 256 + x / 72057594037927936 % 256) * 256 + x / 281474976710656 % 256) * 256 + x / 1099511627776 % 256) * 256 + x / 4294967296 % 256) * 256 + x / 16777216 % 256) * 256 + x / 65536 % 256) * 256 + x / 256 % 256), ((((((((0 * 256 + x % 256) * 256 + c) * 256 + p) * 256) * 256) * 256) * 256) * 256)] = [2377900603251621888 + x / 256, x % 256 * 72057594037927936 + (c * 281474976710656 + p * 1099511627776)]
    exact List.cons_eq_cons.2 ⟨by omega, List.cons_eq_cons.2 ⟨by omega, rfl⟩⟩
  rw [h1]
theorem chK_eq (v : UInt64) (c : Nat) (hc : c < 256) : ∀ k, k < 256 → (chainN sumN v c 0 k).toNat = chK v.toNat c k
  | 0, _ => rfl
  | k + 1, h => by
    rw [chainN, chK, fc_eq, ← chK_eq v c hc k (by omega), ← stepK_eq _ c k hc (by omega), Int.zero_add]
theorem endK_eq (s : UInt64) (c : Nat) (hc : c < 256) : (endN sumN s c).toNat = endK s.toNat c := by
  unfold endN endK
  rw [fc_eq, chK_eq _ c hc 15 (by decide), startN, hK_eq _ 10 rfl (by decide)]
  refine congrArg (fun u => chK u c 15) ?_
  show hK (32 :: tn (nameB s ++ [toU8 (c : Int)])) 10 = _
  rw [tn_app, nameB_K]
  simp only [tn, List.map_cons, List.map_nil, toU8_n c hc]
theorem listF_K (f : Nat → UInt64) (g : Nat → Nat) (n : Nat) (h : ∀ j, j < n → (f j).toNat = g j) : (listF f n).map (·.toNat) = (List.range n).map g := by
  unfold listF
  rw [List.map_map]
  exact List.map_congr_left fun j hj => h j (List.mem_range.1 hj)
theorem oneK_eq (s : UInt64) : (onePub sumN s).toNat = oneK s.toNat := by
  have hl : (flat (listF (endN sumN s) 18)).length = 144 := by rw [flat_length, listF_length]
  unfold onePub oneK
  rw [lsK_eq, hK_eq _ 145 (by rw [List.length_cons, hl]) (by decide), List.append_nil]
  refine congrArg (fun l => hK l 145) ?_
  show 34 :: tn (flat (listF (endN sumN s) 18)) = _
  rw [flK_eq, listF_K _ (endK s.toNat) 18 fun j hj => endK_eq s j (by omega)]
theorem leK_eq (s : UInt64) (j : Nat) (hj : j < 256) : (leafK sumN s j).toNat = leK s.toNat j := by
  unfold leafK leK
  rw [fc_eq, oneK_eq, keyN, hK_eq _ 13 rfl (by decide)]
  refine congrArg oneK ?_
  show hK (48 :: tn (nameB s ++ [1, 0, 0, toU8 (j : Int)])) 13 = _
  rw [tn_app, nameB_K]
  simp only [tn, List.map_cons, List.map_nil, toU8_n j hj]
  rfl
theorem split_2 : splitN 2 = 1 := by rw [splitN, spl2_end (by decide)]
theorem split_4 : splitN 4 = 2 := by rw [splitN, spl2_step (by decide) (by decide), spl2_end (by decide)]
theorem split_8 : splitN 8 = 4 := by rw [splitN, spl2_step (by decide) (by decide), spl2_step (by decide) (by decide), spl2_end (by decide)]
theorem split_16 : splitN 16 = 8 := by rw [splitN, spl2_step (by decide) (by decide), spl2_step (by decide) (by decide), spl2_step (by decide) (by decide), spl2_end (by decide)]
theorem split_32 : splitN 32 = 16 := by rw [splitN, spl2_step (by decide) (by decide), spl2_step (by decide) (by decide), spl2_step (by decide) (by decide), spl2_step (by decide) (by decide), spl2_end (by decide)]
theorem rtK_0 (l : List UInt64) (h : l.length = 1) : (rootN sumN l).toNat = rtK 0 (l.map (·.toNat)) := by
  match l, h with
  | [x], _ =>
    rw [rootN, dif_neg (by simp), if_pos (show [x].length = 1 from rfl), rtK, hK_eq _ 9 rfl (by decide)]
    refine congrArg (fun l => hK l 9) ?_
    show 17 :: tn (nameB x) = _
    rw [nameB_K]; rfl
theorem rtK_s (d : Nat) (hs : splitN (2 ^ (d + 1)) = 2 ^ d) (ih : ∀ l : List UInt64, l.length = 2 ^ d → (rootN sumN l).toNat = rtK d (l.map (·.toNat))) (l : List UInt64) (h : l.length = 2 ^ (d + 1)) : (rootN sumN l).toNat = rtK (d + 1) (l.map (·.toNat)) := by
  have hp : 0 < 2 ^ d := Nat.pow_pos (by decide)
  have h2 : 2 ^ (d + 1) = 2 ^ d + 2 ^ d := by rw [Nat.pow_succ]; omega
  rw [rootN, dif_pos (by omega), h, hs, rtK, fc_eq, fc_eq, hK_eq _ 17 rfl (by decide)]
  refine congrArg (fun l => hK l 17) ?_
  show 18 :: tn (nameB _ ++ nameB _) = _
  rw [tn_app, nameB_K, nameB_K, ih _ (by rw [List.length_take]; omega), ih _ (by rw [List.length_drop]; omega), List.map_take, List.map_drop]
  rfl
theorem pubK_eq (s : UInt64) : (pubN sumN s).toNat = pubK s.toNat := by
  have h5 := rtK_s 4 split_32 (rtK_s 3 split_16 (rtK_s 2 split_8 (rtK_s 1 split_4 (rtK_s 0 split_2 rtK_0))))
  unfold pubN pubK
  rw [lsK_eq, List.append_nil, h5 (treeN sumN s 32) (listF_length _ _)]
  refine congrArg (rtK 5) ?_
  exact listF_K _ (leK s.toNat) 32 fun j hj => leK_eq s j (by omega)
theorem pub_at (s p : UInt64) (h : Nat.beq (pubK s.toNat) p.toNat = true) : pubN sumN s = p := UInt64.toNat_inj.1 (by rw [pubK_eq]; exact Nat.eq_of_beq_eq_true h)
end Go.Proofs.YtneeclacmhhblaaGreat


namespace Go.Proofs.YtneeclacmhhblaaGreat
open Go.RowKit
def vxK : Nat := hK (87 :: (beK 504403158265495552 ++ beK (rtK 0 [hK [86, 0, 0] 3]))) 17
theorem vxK_h : Nat.beq vxK 0 = false := by decide +kernel
theorem leavesX (p : UInt64) (rc : List Rc) : leavesN sumN (X7 p rc).st = [leafG sumN 0] := rfl
theorem val_ne (p : UInt64) (rc : List Rc) : valN sumN (X7 p rc) ≠ 0 := by
  intro h
  have e : (valN sumN (X7 p rc)).toNat = vxK := by
    unfold valN
    rw [leavesX p rc]
    have h1 := rtK_0 [leafG sumN 0] rfl
    have h2 : (leafG sumN 0).toNat = hK [86, 0, 0] 3 := by
      rw [show leafG sumN 0 = sumN [86, 0, 0] from rfl, hK_eq _ 3 rfl (by decide)]; rfl
    rw [hK_eq _ 17 rfl (by decide)]
    unfold vxK
    refine congrArg (fun l => hK l 17) ?_
    show 87 :: tn (nameB (X7 p rc).n ++ nameB (rootN sumN [leafG sumN 0])) = _
    rw [tn_app, nameB_K, nameB_K, h1]
    rw [show List.map (fun x : UInt64 => x.toNat) [leafG sumN 0] = [hK [86, 0, 0] 3] by rw [← h2]; rfl]
    rfl
  rw [h] at e
  have := vxK_h
  rw [← e] at this
  exact absurd this (by decide)
theorem pub_0 : pubN sumN (accS 0) = 7777661556218401820 := pub_at _ _ pubK_0
theorem pub_1 : pubN sumN (accS 1) = 3328988323590226759 := pub_at _ _ pubK_1
theorem pub_2 : pubN sumN (accS 2) = 7795977363967174611 := pub_at _ _ pubK_2
theorem accs_eq : listF (fun i => pubN sumN (accS i)) 3 = [7777661556218401820, 3328988323590226759, 7795977363967174611] := by
  rw [show listF (fun i => pubN sumN (accS i)) 3 = [pubN sumN (accS 0), pubN sumN (accS 1), pubN sumN (accS 2)] from rfl, pub_0, pub_1, pub_2]
theorem genT_eq : tn (genB (gen0 sumN 0)) = gtxK := by
  unfold gen0
  rw [accs_eq]
  decide +kernel
theorem genT_len : (genB (gen0 sumN 0)).length = 100 := by
  have h := congrArg List.length genT_eq
  rw [show (tn (genB (gen0 sumN 0))).length = (genB (gen0 sumN 0)).length from List.length_map _] at h
  exact h
theorem gen_ne : sumN (genB (gen0 sumN 0)) ≠ n7 := by
  intro h
  have e : (sumN (genB (gen0 sumN 0))).toNat = 7484118400017695999 := by
    rw [hK_eq _ 100 genT_len (by decide), genT_eq]
    exact Nat.eq_of_beq_eq_true gtxK_h
  rw [h] at e
  exact absurd e (by decide)
end Go.Proofs.YtneeclacmhhblaaGreat


namespace Go.Proofs.YtneeclacmhhblaaGreat
open Go.RowKit
open Nat (reduceAdd reduceMul reduceSub)

def genB2 (l : List It) (n : UInt64) : Bool := match itOf l n with | none => false | some x => decide (x.k = 1)
section
variable (S : List UInt8 → UInt64)
theorem stq_none {l : List It} {vs : List Vt} {n : UInt64} (h : itOf l n = none) : stqN S l vs n = ⟨0, 0, 0, false⟩ := by unfold stqN; rw [h]
theorem stq_gen {l : List It} {vs : List Vt} {n : UInt64} {x : It} (h : itOf l n = some x) (h1 : x.k = 1) : stqN S l vs n = ⟨cmOf l x, andI (cmOf l x) 1023, andI (cmOf l x) 1023, true⟩ := by
  unfold stqN stuN; rw [h]; dsimp only; rw [if_pos h1]
theorem stq_not {l : List It} {vs : List Vt} {n : UInt64} {x : It} (h : itOf l n = some x) (h1 : ¬ x.k = 1) : stqN S l vs n = ⟨cmOf l x, if x.k = 3 then vtrN vs (andI (cmOf l x) 1023) 5 x.p (valN S x) else if x.k = 4 then vtrN vs (andI (cmOf l x) 1023) 6 n (valN S x) else 0, vtrN vs (andI (cmOf l x) 1023) 7 n (valN S x), false⟩ := by
  obtain ⟨i, _, _, hn⟩ := fnd_some h
  unfold stqN stuN; rw [h]; dsimp only; rw [if_neg h1, vtr_eq _ _ _ _ _ (by decide), vtr_eq _ _ _ _ _ (by decide), vtr_eq _ _ _ _ _ (by decide), hn]
theorem stq_g2 (l : List It) (vs : List Vt) (n : UInt64) : (stqN S l vs n).g = genB2 l n := by
  unfold genB2
  cases h : itOf l n with
  | none => rw [stq_none S h]
  | some x =>
    dsimp only
    by_cases h1 : x.k = 1
    · rw [stq_gen S h h1, decide_eq_true h1]
    · rw [stq_not S h h1, decide_eq_false h1]
theorem stq_c2 (l : List It) (vs : List Vt) (n : UInt64) : (stqN S l vs n).c = comN l n := by
  unfold comN
  cases h : itOf l n with
  | none => rw [stq_none S h]
  | some x =>
    dsimp only
    by_cases h1 : x.k = 1
    · rw [stq_gen S h h1]
    · rw [stq_not S h h1]
theorem acks_in (l : List It) (vs : List Vt) (n : UInt64) (g : Int) : InM (acksN (stqN S l vs n) g) := by
  unfold acksN
  split
  · exact (stq_s_in S l vs n).2
  · exact InM.zero
end
theorem refGen_ok (l : List It) (f : Bool) (n : UInt64) (hl : l.length ≤ 140737488351232) : Fresh Tryz.prog 77 [.ex l.length f (itsA l), .v (.agg (nameC n))] (fun _ => .v (.bool (genB2 l n))) [] := by
  unfold genB2
  cases hx : itOf l n with
  | none =>
    dsimp only
    refine Fresh.of (fn := Tryz.f77) Tryz.func77 rfl (lb rfl) fun w => ?_
    (
 apply Gol.sr; apply t1; exact s_box rfl rfl; apply t0; exact sA rfl; dsimp only [reduceAdd, reduceMul]; exact dn; exact rfl; apply Gol.sr
 apply t0; exact sM rfl; apply t0; exact s_loadW rfl rfl rfl (agu_cuv _); apply tq; exact s_call (f := 47) rfl (eC rfl (eC rfl eN)) (aC aL (aC aL aN)) (refFind_no (fnd_none hx) hl) (lb rfl)
 dsimp only [reduceAdd, reduceMul, reduceSub, na, ca, nbk, mc, ml]; apply t0; exact sA rfl
 dsimp only [reduceAdd, reduceMul]; exact dn; exact rfl; apply Gol.sr; apply t0; exact sM rfl; apply t0; exact s_ge rfl rfl; apply t0; exact sM rfl
 apply sk; exact wnt_g rfl rfl rfl rfl; apply sk; exact wnt_g rfl rfl rfl rfl; apply sk; exact wnt_g rfl rfl rfl rfl; apply sk; exact wnt_g rfl rfl rfl rfl
 apply sk; exact wnt_g rfl rfl rfl rfl; apply sk; exact wnt_g rfl rfl rfl rfl; apply t0; exact s_pick_f rfl rfl rfl; apply t0; exact sA rfl; dsimp only [reduceAdd, reduceMul]
 exact dn; exact rfl; refine Gol.ret ?_)
    (apply RetQ.mk (by first | exact .inr rfl | exact .inl rfl); apply res_1 rfl; exact res_tmp rfl; exact out_val)
  | some x =>
    dsimp only
    obtain ⟨i, hfi, hxi, hxn⟩ := fnd_some hx
    have hlt := (List.getElem?_eq_some_iff.1 hxi).1
    have d0 : decide (0 ≤ i) = true := decide_eq_true (Nat.zero_le _)
    refine Fresh.of (fn := Tryz.f77) Tryz.func77 rfl (lb rfl) fun w => ?_
    (
 apply Gol.sr; apply t1; exact s_box rfl rfl; apply t0; exact sA rfl; dsimp only [reduceAdd, reduceMul]; exact dn; exact rfl; apply Gol.sr
 apply t0; exact sM rfl; apply t0; exact s_loadW rfl rfl rfl (agu_cuv _); apply tq; exact s_call (f := 47) rfl (eC rfl (eC rfl eN)) (aC aL (aC aL aN)) (refFind_yes (f := f) hfi hl) (lb rfl)
 dsimp only [reduceAdd, reduceMul, reduceSub, na, ca, nbk, mc, ml]; apply t0; exact sA rfl
 dsimp only [reduceAdd, reduceMul]; exact dn; exact rfl; apply Gol.sr; apply t0; exact sM rfl; apply t0; exact s_gen rfl rfl; apply t0; exact sM rfl
 apply g0; exact wnt_g rfl rfl rfl rfl; exact sM rfl; apply g0; exact wnt_g rfl rfl rfl rfl; exact sM rfl; apply g0; exact wnt_g rfl rfl rfl rfl
 exact s_ixeD rfl rfl (by omega) (its_ne (by omega)) (its_at (by assumption)); apply g0; exact wnt_g rfl rfl rfl rfl; exact s_fieldAddrE rfl; apply g0
 exact wnt_g rfl rfl rfl rfl; exact s_loadE rfl rfl; apply g0; exact wnt_g rfl rfl rfl rfl; exact s_eq rfl rfl; apply t0; exact s_pick_t rfl rfl rfl; apply t0
 exact sA rfl; dsimp only [reduceAdd, reduceMul]; exact dn; exact rfl; refine Gol.ret ?_)
    (apply RetQ.mk (by first | exact .inr rfl | exact .inl rfl); apply res_1 rfl; exact res_tmp rfl; exact out_val)
section
variable (S : List UInt8 → UInt64) (hS : HashF S) (l : List It) (vs : List Vt) (f f2 : Bool) (hl : l.length ≤ 1000000) (hv : vs.length ≤ 1000000) (hsm : ∀ x ∈ l, Sm x.st)
include hS hl hv hsm
set_option maxHeartbeats 1600000 in
theorem refSigners_ok (n : UInt64) : Fresh Tryz.prog 39 [.ex l.length f (itsA l), .ex vs.length f2 (vtsA vs), .v (.agg (nameC n))] (fun _ => .v (.int .i64 (stqN S l vs n).s)) [] := by
  have hC := refCommittee_ok l f n (by omega)
  cases hx : itOf l n with
  | none =>
    rw [stq_none S hx]
    dsimp only
    refine Fresh.of (fn := Tryz.f39) Tryz.func39 rfl (lb rfl) fun w => ?_
    (
 apply Gol.sr; apply t1; exact s_box rfl rfl; apply t0; exact sA rfl; dsimp only [reduceAdd, reduceMul]; exact dn; exact rfl; apply Gol.sr
 apply t0; exact sM rfl; apply t0; exact s_loadW rfl rfl rfl (agu_cuv _); apply tq; exact s_call (f := 47) rfl (eC rfl (eC rfl eN)) (aC aL (aC aL aN)) (refFind_no (fnd_none hx) (by omega)) (lb rfl)
 dsimp only [reduceAdd, reduceMul, reduceSub, na, ca, nbk, mc, ml]; apply t0; exact sA rfl
 dsimp only [reduceAdd, reduceMul]; exact dn; exact rfl; refine Gol.seq ?_; apply Gol.sr; apply t0; exact sM rfl; apply t0
 exact s_lt rfl rfl; dsimp only [reduceAdd, reduceMul]; exact dn; exact rfl)
    refine Gol.cond_t rfl rfl ?_
    (apply Gol.sr; apply t0; exact sA rfl; dsimp only [reduceAdd, reduceMul]; exact dn; exact rfl; refine Gol.ret ?_; refine thn_r ?_)
    (apply RetQ.mk (by first | exact .inr rfl | exact .inl rfl); apply res_1 rfl; exact res_tmp rfl; exact out_val)
  | some x =>
    obtain ⟨i, hfi, hxi, hxn⟩ := fnd_some hx
    have hlt := (List.getElem?_eq_some_iff.1 hxi).1
    have hF := refFind_yes (f := f) hfi (by omega)
    have hV := refValue_ok S hS x (hsm x (List.mem_of_getElem? hxi))
    have ec : comN l n = cmOf l x := by unfold comN; rw [hx]
    rw [ec] at hC
    have hI := ids_ok (cmOf l x)
    by_cases h1 : x.k = 1
    · have d1 : decide (x.k = 1) = true := decide_eq_true h1
      rw [stq_gen S hx h1]
      dsimp only
      refine Fresh.of (fn := Tryz.f39) Tryz.func39 rfl (lb rfl) fun w => ?_
      (
 apply Gol.sr; apply t1; exact s_box rfl rfl; apply t0; exact sA rfl; dsimp only [reduceAdd, reduceMul]; exact dn; exact rfl; apply Gol.sr
 apply t0; exact sM rfl; apply t0; exact s_loadW rfl rfl rfl (agu_cuv _); apply tq; exact s_call (f := 47) rfl (eC rfl (eC rfl eN)) (aC aL (aC aL aN)) hF (lb rfl)
 dsimp only [reduceAdd, reduceMul, reduceSub, na, ca, nbk, mc, ml]; apply t0; exact sA rfl
 dsimp only [reduceAdd, reduceMul]; exact dn; exact rfl; refine Gol.seq ?_; apply Gol.sr; apply t0; exact sM rfl; apply t0
 exact s_ltn rfl rfl; dsimp only [reduceAdd, reduceMul]; exact dn; exact rfl)
      refine Gol.cond_f rfl (by simp) ?_
      (
 refine Gol.skip ?_; refine thn_n ?_; apply Gol.sr; apply t0; exact sM rfl; apply t0; exact s_loadW rfl rfl rfl (agu_cuv _)
 apply tq; exact s_call (f := 38) rfl (eC rfl (eC rfl eN)) (aC aL (aC aL aN)) hC (lb rfl)
 dsimp only [reduceAdd, reduceMul, reduceSub, na, ca, nbk, mc, ml]; apply tq; exact s_call (f := 75) rfl (eC rfl eN) (aC aL aN) hI (lb rfl)
 dsimp only [reduceAdd, reduceMul, reduceSub, na, ca, nbk, mc, ml]; apply t0; exact sA rfl
 dsimp only [reduceAdd, reduceMul]; exact dn; exact rfl; refine Gol.seq ?_; apply Gol.sr; apply t0; exact sM rfl; apply t0
 exact sM rfl; apply t0; exact s_ixeD rfl rfl (by omega) (its_ne (by omega)) (its_at (by assumption)); apply t0; exact s_fieldAddrE rfl; apply t0; exact s_loadE rfl rfl
 dsimp only [reduceAdd, reduceMul]; exact dn; exact rfl; refine Gol.block ?_; apply Gol.sr; apply t0; exact s_eq rfl rfl; apply t0
 exact sA rfl; dsimp only [reduceAdd, reduceMul]; exact dn; exact rfl)
      refine Gol.cond_t rfl d1 ?_
      (
 apply Gol.sr; apply t0; exact sM rfl; apply t0; exact sA rfl; dsimp only [reduceAdd, reduceMul]; exact dn; exact rfl; refine Gol.ret ?_
 refine inBlk_r ?_; refine thn_r ?_)
      (apply RetQ.mk (by first | exact .inr rfl | exact .inl rfl); apply res_1 rfl; exact res_tmp rfl; exact out_val)
    have d1 : decide (x.k = 1) = false := decide_eq_false h1
    rw [stq_not S hx h1]
    dsimp only
    by_cases h3 : x.k = 3
    · have d3 : decide (x.k = 3) = true := decide_eq_true h3
      rw [if_pos h3]
      have hW := voters_ok vs f2 (andI (cmOf l x) 1023) 5 x.p (valN S x) (by omega)
      refine Fresh.of (fn := Tryz.f39) Tryz.func39 rfl (lb rfl) fun w => ?_
      (
 apply Gol.sr; apply t1; exact s_box rfl rfl; apply t0; exact sA rfl; dsimp only [reduceAdd, reduceMul]; exact dn; exact rfl; apply Gol.sr
 apply t0; exact sM rfl; apply t0; exact s_loadW rfl rfl rfl (agu_cuv _); apply tq; exact s_call (f := 47) rfl (eC rfl (eC rfl eN)) (aC aL (aC aL aN)) hF (lb rfl)
 dsimp only [reduceAdd, reduceMul, reduceSub, na, ca, nbk, mc, ml]; apply t0; exact sA rfl
 dsimp only [reduceAdd, reduceMul]; exact dn; exact rfl; refine Gol.seq ?_; apply Gol.sr; apply t0; exact sM rfl; apply t0
 exact s_ltn rfl rfl; dsimp only [reduceAdd, reduceMul]; exact dn; exact rfl)
      refine Gol.cond_f rfl (by simp) ?_
      (
 refine Gol.skip ?_; refine thn_n ?_; apply Gol.sr; apply t0; exact sM rfl; apply t0; exact s_loadW rfl rfl rfl (agu_cuv _)
 apply tq; exact s_call (f := 38) rfl (eC rfl (eC rfl eN)) (aC aL (aC aL aN)) hC (lb rfl)
 dsimp only [reduceAdd, reduceMul, reduceSub, na, ca, nbk, mc, ml]; apply tq; exact s_call (f := 75) rfl (eC rfl eN) (aC aL aN) hI (lb rfl)
 dsimp only [reduceAdd, reduceMul, reduceSub, na, ca, nbk, mc, ml]; apply t0; exact sA rfl
 dsimp only [reduceAdd, reduceMul]; exact dn; exact rfl; refine Gol.seq ?_; apply Gol.sr; apply t0; exact sM rfl; apply t0
 exact sM rfl; apply t0; exact s_ixeD rfl rfl (by omega) (its_ne (by omega)) (its_at (by assumption)); apply t0; exact s_fieldAddrE rfl; apply t0; exact s_loadE rfl rfl
 dsimp only [reduceAdd, reduceMul]; exact dn; exact rfl; refine Gol.block ?_; apply Gol.sr; apply t0; exact s_eq rfl rfl; apply t0
 exact sA rfl; dsimp only [reduceAdd, reduceMul]; exact dn; exact rfl)
      refine Gol.cond_f rfl d1 ?_
      (apply Gol.sr; apply t0; exact s_eq rfl rfl; apply t0; exact sA rfl; dsimp only [reduceAdd, reduceMul]; exact dn; exact rfl)
      refine Gol.cond_t rfl d3 ?_
      (
 refine Gol.seq ?_; apply Gol.any; kernel_rfl; apply t0; exact sM rfl; apply t0; exact sM rfl; apply t0; exact sM rfl
 apply t0; exact sM rfl; apply t0; exact s_ixeD rfl rfl (by omega) (its_ne (by omega)) (its_at (by assumption)); apply t0; exact s_fieldAddrE rfl; apply t0
 exact s_loadEN rfl (lb rfl) (agu_nm8 rfl); apply t0; exact sM rfl; apply t0; exact sM rfl; apply t0; exact s_ixeD rfl rfl (by omega) (its_ne (by omega)) (its_at (by assumption))
 apply t0; exact s_loadEN rfl (lb rfl) agu_it; apply tq; exact s_call (f := 11) rfl (eC rfl eN) (aC aL aN) hV (lb rfl)
 dsimp only [reduceAdd, reduceMul, reduceSub, na, ca, nbk, mc, ml]; apply tq; exact s_call (f := 76) rfl (eC rfl (eC rfl (eC rfl (eC rfl (eC rfl eN))))) (aC aL (aC aL (aC aL (aC aL (aC aL aN))))) hW (lb rfl)
 dsimp only [reduceAdd, reduceMul, reduceSub, na, ca, nbk, mc, ml]; apply t0; exact sA rfl
 dsimp only [reduceAdd, reduceMul]; exact dn; kernel_rfl; exact rfl; refine thn_n ?_; refine Gol.ret ?_; refine inBlk_r ?_
 refine thn_r ?_)
      (apply RetQ.mk (by first | exact .inr rfl | exact .inl rfl); apply res_1 rfl; exact res_tmp rfl; exact out_val)
    have d3 : decide (x.k = 3) = false := decide_eq_false h3
    rw [if_neg h3]
    by_cases h4 : x.k = 4
    · have d4 : decide (x.k = 4) = true := decide_eq_true h4
      rw [if_pos h4]
      have hW := voters_ok vs f2 (andI (cmOf l x) 1023) 6 n (valN S x) (by omega)
      refine Fresh.of (fn := Tryz.f39) Tryz.func39 rfl (lb rfl) fun w => ?_
      (
 apply Gol.sr; apply t1; exact s_box rfl rfl; apply t0; exact sA rfl; dsimp only [reduceAdd, reduceMul]; exact dn; exact rfl; apply Gol.sr
 apply t0; exact sM rfl; apply t0; exact s_loadW rfl rfl rfl (agu_cuv _); apply tq; exact s_call (f := 47) rfl (eC rfl (eC rfl eN)) (aC aL (aC aL aN)) hF (lb rfl)
 dsimp only [reduceAdd, reduceMul, reduceSub, na, ca, nbk, mc, ml]; apply t0; exact sA rfl
 dsimp only [reduceAdd, reduceMul]; exact dn; exact rfl; refine Gol.seq ?_; apply Gol.sr; apply t0; exact sM rfl; apply t0
 exact s_ltn rfl rfl; dsimp only [reduceAdd, reduceMul]; exact dn; exact rfl)
      refine Gol.cond_f rfl (by simp) ?_
      (
 refine Gol.skip ?_; refine thn_n ?_; apply Gol.sr; apply t0; exact sM rfl; apply t0; exact s_loadW rfl rfl rfl (agu_cuv _)
 apply tq; exact s_call (f := 38) rfl (eC rfl (eC rfl eN)) (aC aL (aC aL aN)) hC (lb rfl)
 dsimp only [reduceAdd, reduceMul, reduceSub, na, ca, nbk, mc, ml]; apply tq; exact s_call (f := 75) rfl (eC rfl eN) (aC aL aN) hI (lb rfl)
 dsimp only [reduceAdd, reduceMul, reduceSub, na, ca, nbk, mc, ml]; apply t0; exact sA rfl
 dsimp only [reduceAdd, reduceMul]; exact dn; exact rfl; refine Gol.seq ?_; apply Gol.sr; apply t0; exact sM rfl; apply t0
 exact sM rfl; apply t0; exact s_ixeD rfl rfl (by omega) (its_ne (by omega)) (its_at (by assumption)); apply t0; exact s_fieldAddrE rfl; apply t0; exact s_loadE rfl rfl
 dsimp only [reduceAdd, reduceMul]; exact dn; exact rfl; refine Gol.block ?_; apply Gol.sr; apply t0; exact s_eq rfl rfl; apply t0
 exact sA rfl; dsimp only [reduceAdd, reduceMul]; exact dn; exact rfl)
      refine Gol.cond_f rfl d1 ?_
      (apply Gol.sr; apply t0; exact s_eq rfl rfl; apply t0; exact sA rfl; dsimp only [reduceAdd, reduceMul]; exact dn; exact rfl)
      refine Gol.cond_f rfl d3 ?_
      (apply Gol.sr; apply t0; exact s_eq rfl rfl; apply t0; exact sA rfl; dsimp only [reduceAdd, reduceMul]; exact dn; exact rfl)
      refine Gol.cond_t rfl d4 ?_
      (
 refine Gol.seq ?_; apply Gol.any; kernel_rfl; apply t0; exact sM rfl; apply t0; exact sM rfl; apply t0; exact s_loadW rfl rfl rfl (agu_cuv _)
 apply t0; exact sM rfl; apply t0; exact sM rfl; apply t0; exact s_ixeD rfl rfl (by omega) (its_ne (by omega)) (its_at (by assumption)); apply t0
 exact s_loadEN rfl (lb rfl) agu_it; apply tq; exact s_call (f := 11) rfl (eC rfl eN) (aC aL aN) hV (lb rfl)
 dsimp only [reduceAdd, reduceMul, reduceSub, na, ca, nbk, mc, ml]; apply tq; exact s_call (f := 76) rfl (eC rfl (eC rfl (eC rfl (eC rfl (eC rfl eN))))) (aC aL (aC aL (aC aL (aC aL (aC aL aN))))) hW (lb rfl)
 dsimp only [reduceAdd, reduceMul, reduceSub, na, ca, nbk, mc, ml]; apply t0; exact sA rfl
 dsimp only [reduceAdd, reduceMul]; exact dn; kernel_rfl; exact rfl; refine thn_n ?_; refine Gol.ret ?_; refine inBlk_r ?_
 refine thn_r ?_)
      (apply RetQ.mk (by first | exact .inr rfl | exact .inl rfl); apply res_1 rfl; exact res_tmp rfl; exact out_val)
    have d4 : decide (x.k = 4) = false := decide_eq_false h4
    rw [if_neg h4]
    refine Fresh.of (fn := Tryz.f39) Tryz.func39 rfl (lb rfl) fun w => ?_
    (
 apply Gol.sr; apply t1; exact s_box rfl rfl; apply t0; exact sA rfl; dsimp only [reduceAdd, reduceMul]; exact dn; exact rfl; apply Gol.sr
 apply t0; exact sM rfl; apply t0; exact s_loadW rfl rfl rfl (agu_cuv _); apply tq; exact s_call (f := 47) rfl (eC rfl (eC rfl eN)) (aC aL (aC aL aN)) hF (lb rfl)
 dsimp only [reduceAdd, reduceMul, reduceSub, na, ca, nbk, mc, ml]; apply t0; exact sA rfl
 dsimp only [reduceAdd, reduceMul]; exact dn; exact rfl; refine Gol.seq ?_; apply Gol.sr; apply t0; exact sM rfl; apply t0
 exact s_ltn rfl rfl; dsimp only [reduceAdd, reduceMul]; exact dn; exact rfl)
    refine Gol.cond_f rfl (by simp) ?_
    (
 refine Gol.skip ?_; refine thn_n ?_; apply Gol.sr; apply t0; exact sM rfl; apply t0; exact s_loadW rfl rfl rfl (agu_cuv _)
 apply tq; exact s_call (f := 38) rfl (eC rfl (eC rfl eN)) (aC aL (aC aL aN)) hC (lb rfl)
 dsimp only [reduceAdd, reduceMul, reduceSub, na, ca, nbk, mc, ml]; apply tq; exact s_call (f := 75) rfl (eC rfl eN) (aC aL aN) hI (lb rfl)
 dsimp only [reduceAdd, reduceMul, reduceSub, na, ca, nbk, mc, ml]; apply t0; exact sA rfl
 dsimp only [reduceAdd, reduceMul]; exact dn; exact rfl; refine Gol.seq ?_; apply Gol.sr; apply t0; exact sM rfl; apply t0
 exact sM rfl; apply t0; exact s_ixeD rfl rfl (by omega) (its_ne (by omega)) (its_at (by assumption)); apply t0; exact s_fieldAddrE rfl; apply t0; exact s_loadE rfl rfl
 dsimp only [reduceAdd, reduceMul]; exact dn; exact rfl; refine Gol.block ?_; apply Gol.sr; apply t0; exact s_eq rfl rfl; apply t0
 exact sA rfl; dsimp only [reduceAdd, reduceMul]; exact dn; exact rfl)
    refine Gol.cond_f rfl d1 ?_
    (apply Gol.sr; apply t0; exact s_eq rfl rfl; apply t0; exact sA rfl; dsimp only [reduceAdd, reduceMul]; exact dn; exact rfl)
    refine Gol.cond_f rfl d3 ?_
    (apply Gol.sr; apply t0; exact s_eq rfl rfl; apply t0; exact sA rfl; dsimp only [reduceAdd, reduceMul]; exact dn; exact rfl)
    refine Gol.cond_f rfl d4 ?_
    (
 refine Gol.skip ?_; refine inBlk_n ?_; refine thn_n ?_; apply Gol.sr; apply t0; exact sA rfl
 dsimp only [reduceAdd, reduceMul]; exact dn; exact rfl; refine Gol.ret ?_)
    (apply RetQ.mk (by first | exact .inr rfl | exact .inl rfl); apply res_1 rfl; exact res_tmp rfl; exact out_val)
theorem refCounted_ok (g : Int) (n : UInt64) : Fresh Tryz.prog 40 [.ex l.length f (itsA l), .ex vs.length f2 (vtsA vs), .v (.int .i64 g), .v (.agg (nameC n))] (fun _ => .v (.bool (countedB (stqN S l vs n) g))) [] := by
  have hG := refGen_ok l f n (by omega)
  have hg := stq_g2 S l vs n
  cases hgb : genB2 l n with
  | true =>
    rw [hgb] at hG hg
    rw [show countedB (stqN S l vs n) g = true by unfold countedB; rw [hg]; rfl]
    refine Fresh.of (fn := Tryz.f40) Tryz.func40 rfl (lb rfl) fun w => ?_
    (
 apply Gol.sr; apply t1; exact s_box rfl rfl; apply t0; exact sA rfl; dsimp only [reduceAdd, reduceMul]; exact dn; exact rfl; apply Gol.sr
 apply t0; exact sM rfl; apply t0; exact s_loadW rfl rfl rfl (agu_cuv _); apply tq; exact s_call (f := 77) rfl (eC rfl (eC rfl eN)) (aC aL (aC aL aN)) hG (lb rfl)
 dsimp only [reduceAdd, reduceMul, reduceSub, na, ca, nbk, mc, ml]; apply t0; exact sM rfl
 apply sk; exact wnt_g rfl rfl rfl rfl; apply sk; exact wnt_g rfl rfl rfl rfl; apply sk; exact wnt_g rfl rfl rfl rfl; apply sk; exact wnt_g rfl rfl rfl rfl
 apply sk; exact wnt_g rfl rfl rfl rfl; apply sk; exact wnt_g rfl rfl rfl rfl; apply sk; exact wnt_g rfl rfl rfl rfl; apply t0; exact s_pick_t rfl rfl rfl
 apply t0; exact sA rfl; dsimp only [reduceAdd, reduceMul]; exact dn; exact rfl; refine Gol.ret ?_)
    (apply RetQ.mk (by first | exact .inr rfl | exact .inl rfl); apply res_1 rfl; exact res_tmp rfl; exact out_val)
  | false =>
    rw [hgb] at hG hg
    have hs := refSigners_ok S hS l vs f f2 hl hv hsm n
    rw [show countedB (stqN S l vs n) g = !decide (andNotI (stqN S l vs n).s g = 0) by unfold countedB; rw [hg, ((stq_s_in S l vs n).1.andNot g).pos.1]; rfl]
    generalize (stqN S l vs n).s = s at hs ⊢
    refine Fresh.of (fn := Tryz.f40) Tryz.func40 rfl (lb rfl) fun w => ?_
    (
 apply Gol.sr; apply t1; exact s_box rfl rfl; apply t0; exact sA rfl; dsimp only [reduceAdd, reduceMul]; exact dn; exact rfl; apply Gol.sr
 apply t0; exact sM rfl; apply t0; exact s_loadW rfl rfl rfl (agu_cuv _); apply tq; exact s_call (f := 77) rfl (eC rfl (eC rfl eN)) (aC aL (aC aL aN)) hG (lb rfl)
 dsimp only [reduceAdd, reduceMul, reduceSub, na, ca, nbk, mc, ml]; apply t0; exact sM rfl
 apply g0; exact wnt_g rfl rfl rfl rfl; exact sM rfl; apply g0; exact wnt_g rfl rfl rfl rfl; exact sM rfl; apply g0; exact wnt_g rfl rfl rfl rfl
 exact s_loadW rfl rfl rfl (agu_cuv _); apply gq; exact wnt_g rfl rfl rfl rfl; exact s_call (f := 39) rfl (eC rfl (eC rfl (eC rfl eN))) (aC aL (aC aL (aC aL aN))) hs (lb rfl)
 dsimp only [reduceAdd, reduceMul, reduceSub, na, ca, nbk, mc, ml]; apply g0; exact wnt_g rfl rfl rfl rfl
 exact sM rfl; apply g0; exact wnt_g rfl rfl rfl rfl; exact s_andNotI rfl rfl; apply g0; exact wnt_g rfl rfl rfl rfl; exact s_ne rfl rfl; apply t0
 exact s_pick_f rfl rfl rfl; apply t0; exact sA rfl; dsimp only [reduceAdd, reduceMul]; exact dn; exact rfl; refine Gol.ret ?_)
    (apply RetQ.mk (by first | exact .inr rfl | exact .inl rfl); apply res_1 rfl; exact res_tmp rfl; exact out_val)
theorem refFull_ok (g : Int) (n : UInt64) : Fresh Tryz.prog 41 [.ex l.length f (itsA l), .ex vs.length f2 (vtsA vs), .v (.int .i64 g), .v (.agg (nameC n))] (fun _ => .v (.bool (fullB (stqN S l vs n) g))) [] := by
  have hG := refGen_ok l f n (by omega)
  have hg := stq_g2 S l vs n
  cases hgb : genB2 l n with
  | true =>
    rw [hgb] at hG hg
    rw [show fullB (stqN S l vs n) g = true by unfold fullB; rw [hg]; rfl]
    refine Fresh.of (fn := Tryz.f41) Tryz.func41 rfl (lb rfl) fun w => ?_
    (
 apply Gol.sr; apply t1; exact s_box rfl rfl; apply t0; exact sA rfl; dsimp only [reduceAdd, reduceMul]; exact dn; exact rfl; refine Gol.seq ?_
 apply Gol.sr; apply t0; exact sM rfl; apply t0; exact s_loadW rfl rfl rfl (agu_cuv _); apply tq; exact s_call (f := 77) rfl (eC rfl (eC rfl eN)) (aC aL (aC aL aN)) hG (lb rfl)
 dsimp only [reduceAdd, reduceMul, reduceSub, na, ca, nbk, mc, ml]; exact dn; exact rfl)
    refine Gol.cond_t rfl rfl ?_
    (apply Gol.sr; apply t0; exact sA rfl; dsimp only [reduceAdd, reduceMul]; exact dn; exact rfl; refine Gol.ret ?_; refine thn_r ?_)
    (apply RetQ.mk (by first | exact .inr rfl | exact .inl rfl); apply res_1 rfl; exact res_tmp rfl; exact out_val)
  | false =>
    rw [hgb] at hG hg
    have hs := refSigners_ok S hS l vs f f2 hl hv hsm n
    have hC := refCommittee_ok l f n (by omega)
    have hI := ids_ok (comN l n)
    rw [show fullB (stqN S l vs n) g = (!decide (andNotI (andI (comN l n) 1023) g = 0) && decide (andNotI (andNotI (andI (comN l n) 1023) g) (stqN S l vs n).s = 0)) by unfold fullB allB; rw [hg, all_low, stq_c2]; rfl]
    generalize (stqN S l vs n).s = s at hs ⊢
    generalize andI (comN l n) 1023 = r at hI ⊢
    by_cases hr : andNotI r g = 0
    · have dr : decide (andNotI r g = 0) = true := decide_eq_true hr
      rw [dr]
      refine Fresh.of (fn := Tryz.f41) Tryz.func41 rfl (lb rfl) fun w => ?_
      (
 apply Gol.sr; apply t1; exact s_box rfl rfl; apply t0; exact sA rfl; dsimp only [reduceAdd, reduceMul]; exact dn; exact rfl; refine Gol.seq ?_
 apply Gol.sr; apply t0; exact sM rfl; apply t0; exact s_loadW rfl rfl rfl (agu_cuv _); apply tq; exact s_call (f := 77) rfl (eC rfl (eC rfl eN)) (aC aL (aC aL aN)) hG (lb rfl)
 dsimp only [reduceAdd, reduceMul, reduceSub, na, ca, nbk, mc, ml]; exact dn; exact rfl)
      refine Gol.cond_f rfl rfl ?_
      (
 refine Gol.skip ?_; refine thn_n ?_; apply Gol.sr; apply t0; exact sM rfl; apply t0; exact s_loadW rfl rfl rfl (agu_cuv _)
 apply tq; exact s_call (f := 38) rfl (eC rfl (eC rfl eN)) (aC aL (aC aL aN)) hC (lb rfl)
 dsimp only [reduceAdd, reduceMul, reduceSub, na, ca, nbk, mc, ml]; apply tq; exact s_call (f := 75) rfl (eC rfl eN) (aC aL aN) hI (lb rfl)
 dsimp only [reduceAdd, reduceMul, reduceSub, na, ca, nbk, mc, ml]; apply t0; exact sM rfl
 apply t0; exact s_andNotI rfl rfl; apply t0; exact sA rfl; dsimp only [reduceAdd, reduceMul]; exact dn; exact rfl; apply Gol.sr; apply t0
 exact sM rfl; apply t0; exact s_ne rfl rfl; apply t0; exact sM rfl; apply sk; exact wnt_g rfl rfl rfl (by simp only [*]; rfl); apply sk
 exact wnt_g rfl rfl rfl (by simp only [*]; rfl); apply sk; exact wnt_g rfl rfl rfl (by simp only [*]; rfl); apply sk; exact wnt_g rfl rfl rfl (by simp only [*]; rfl)
 apply sk; exact wnt_g rfl rfl rfl (by simp only [*]; rfl); apply sk; exact wnt_g rfl rfl rfl (by simp only [*]; rfl); apply sk; exact wnt_g rfl rfl rfl (by simp only [*]; rfl)
 apply t0; exact s_pick_f rfl (by simp only [*]; rfl) rfl; apply t0; exact sA rfl; dsimp only [reduceAdd, reduceMul]; exact dn; exact rfl
 refine Gol.ret ?_)
      apply RetQ.bool
      · (apply RetQ.mk (by first | exact .inr rfl | exact .inl rfl); apply res_1 rfl; exact res_tmp rfl; exact out_val)
      · simp [hr]
    · have dr : decide (andNotI r g = 0) = false := decide_eq_false hr
      rw [dr]
      refine Fresh.of (fn := Tryz.f41) Tryz.func41 rfl (lb rfl) fun w => ?_
      (
 apply Gol.sr; apply t1; exact s_box rfl rfl; apply t0; exact sA rfl; dsimp only [reduceAdd, reduceMul]; exact dn; exact rfl; refine Gol.seq ?_
 apply Gol.sr; apply t0; exact sM rfl; apply t0; exact s_loadW rfl rfl rfl (agu_cuv _); apply tq; exact s_call (f := 77) rfl (eC rfl (eC rfl eN)) (aC aL (aC aL aN)) hG (lb rfl)
 dsimp only [reduceAdd, reduceMul, reduceSub, na, ca, nbk, mc, ml]; exact dn; exact rfl)
      refine Gol.cond_f rfl rfl ?_
      (
 refine Gol.skip ?_; refine thn_n ?_; apply Gol.sr; apply t0; exact sM rfl; apply t0; exact s_loadW rfl rfl rfl (agu_cuv _)
 apply tq; exact s_call (f := 38) rfl (eC rfl (eC rfl eN)) (aC aL (aC aL aN)) hC (lb rfl)
 dsimp only [reduceAdd, reduceMul, reduceSub, na, ca, nbk, mc, ml]; apply tq; exact s_call (f := 75) rfl (eC rfl eN) (aC aL aN) hI (lb rfl)
 dsimp only [reduceAdd, reduceMul, reduceSub, na, ca, nbk, mc, ml]; apply t0; exact sM rfl
 apply t0; exact s_andNotI rfl rfl; apply t0; exact sA rfl; dsimp only [reduceAdd, reduceMul]; exact dn; exact rfl; apply Gol.sr; apply t0
 exact sM rfl; apply t0; exact s_ne rfl rfl; apply t0; exact sM rfl; apply g0; exact wnt_g rfl rfl rfl (by simp only [*]; rfl); exact sM rfl
 apply g0; exact wnt_g rfl rfl rfl (by simp only [*]; rfl); exact sM rfl; apply g0; exact wnt_g rfl rfl rfl (by simp only [*]; rfl)
 exact sM rfl; apply g0; exact wnt_g rfl rfl rfl (by simp only [*]; rfl); exact s_loadW rfl rfl rfl (agu_cuv _); apply gq; exact wnt_g rfl rfl rfl (by simp only [*]; rfl)
 exact s_call (f := 39) rfl (eC rfl (eC rfl (eC rfl eN))) (aC aL (aC aL (aC aL aN))) hs (lb rfl)
 dsimp only [reduceAdd, reduceMul, reduceSub, na, ca, nbk, mc, ml]; apply g0; exact wnt_g rfl rfl rfl (by simp only [*]; rfl)
 exact s_andNotI rfl rfl; apply g0; exact wnt_g rfl rfl rfl (by simp only [*]; rfl); exact s_eq rfl rfl; apply t0; exact s_pick_t rfl (by simp only [*]; rfl) rfl
 apply t0; exact sA rfl; dsimp only [reduceAdd, reduceMul]; exact dn; exact rfl; refine Gol.ret ?_)
      apply RetQ.bool
      · (apply RetQ.mk (by first | exact .inr rfl | exact .inl rfl); apply res_1 rfl; exact res_tmp rfl; exact out_val)
      · simp
theorem refAcks_ok (g : Int) (n : UInt64) : Fresh Tryz.prog 42 [.ex l.length f (itsA l), .ex vs.length f2 (vtsA vs), .v (.int .i64 g), .v (.agg (nameC n))] (fun _ => .v (.int .i64 (acksN (stqN S l vs n) g))) [] := by
  have hU := refFull_ok S hS l vs f f2 hl hv hsm g n
  have hC := refCommittee_ok l f n (by omega)
  cases hx : itOf l n with
  | none =>
    rw [show acksN (stqN S l vs n) g = 0 by unfold acksN; rw [stq_none S hx]; split <;> rfl]
    refine Fresh.of (fn := Tryz.f42) Tryz.func42 rfl (lb rfl) fun w => ?_
    (
 apply Gol.sr; apply t1; exact s_box rfl rfl; apply t0; exact sA rfl; dsimp only [reduceAdd, reduceMul]; exact dn; exact rfl; apply Gol.sr
 apply t0; exact sM rfl; apply t0; exact s_loadW rfl rfl rfl (agu_cuv _); apply tq; exact s_call (f := 47) rfl (eC rfl (eC rfl eN)) (aC aL (aC aL aN)) (refFind_no (fnd_none hx) (by omega)) (lb rfl)
 dsimp only [reduceAdd, reduceMul, reduceSub, na, ca, nbk, mc, ml]; apply t0; exact sA rfl
 dsimp only [reduceAdd, reduceMul]; exact dn; exact rfl; refine Gol.seq ?_; apply Gol.sr; apply t0; exact sM rfl; apply t0
 exact s_lt rfl rfl; apply t0; exact sM rfl; apply sk; exact wnt_g rfl rfl rfl rfl; apply sk; exact wnt_g rfl rfl rfl rfl; apply sk; exact wnt_g rfl rfl rfl rfl
 apply sk; exact wnt_g rfl rfl rfl rfl; apply sk; exact wnt_g rfl rfl rfl rfl; apply sk; exact wnt_g rfl rfl rfl rfl; apply t0; exact s_pick_t rfl rfl rfl
 dsimp only [reduceAdd, reduceMul]; exact dn; exact rfl)
    refine Gol.cond_t rfl rfl ?_
    (apply Gol.sr; apply t0; exact sA rfl; dsimp only [reduceAdd, reduceMul]; exact dn; exact rfl; refine Gol.ret ?_; refine thn_r ?_)
    (apply RetQ.mk (by first | exact .inr rfl | exact .inl rfl); apply res_1 rfl; exact res_tmp rfl; exact out_val)
  | some x =>
    obtain ⟨i, hfi, hxi, hxn⟩ := fnd_some hx
    have hlt := (List.getElem?_eq_some_iff.1 hxi).1
    have hF := refFind_yes (f := f) hfi (by omega)
    have hV := refValue_ok S hS x (hsm x (List.mem_of_getElem? hxi))
    have ec : comN l n = cmOf l x := by unfold comN; rw [hx]
    rw [ec] at hC
    have hI := ids_ok (cmOf l x)
    have d0 : decide (i < 0) = false := decide_eq_false (Nat.not_lt_zero _)
    cases hfu : fullB (stqN S l vs n) g with
    | false =>
      rw [show acksN (stqN S l vs n) g = 0 by unfold acksN; rw [hfu]; rfl]
      rw [hfu] at hU
      refine Fresh.of (fn := Tryz.f42) Tryz.func42 rfl (lb rfl) fun w => ?_
      (
 apply Gol.sr; apply t1; exact s_box rfl rfl; apply t0; exact sA rfl; dsimp only [reduceAdd, reduceMul]; exact dn; exact rfl; apply Gol.sr
 apply t0; exact sM rfl; apply t0; exact s_loadW rfl rfl rfl (agu_cuv _); apply tq; exact s_call (f := 47) rfl (eC rfl (eC rfl eN)) (aC aL (aC aL aN)) hF (lb rfl)
 dsimp only [reduceAdd, reduceMul, reduceSub, na, ca, nbk, mc, ml]; apply t0; exact sA rfl
 dsimp only [reduceAdd, reduceMul]; exact dn; exact rfl; refine Gol.seq ?_; apply Gol.sr; apply t0; exact sM rfl; apply t0
 exact s_ltn rfl rfl; apply t0; exact sM rfl; apply g0; exact wnt_g rfl rfl rfl rfl; exact sM rfl; apply g0; exact wnt_g rfl rfl rfl rfl; exact sM rfl
 apply g0; exact wnt_g rfl rfl rfl rfl; exact sM rfl; apply g0; exact wnt_g rfl rfl rfl rfl; exact s_loadW rfl rfl rfl (agu_cuv _); apply gq; exact wnt_g rfl rfl rfl rfl
 exact s_call (f := 41) rfl (eC rfl (eC rfl (eC rfl (eC rfl eN)))) (aC aL (aC aL (aC aL (aC aL aN)))) hU (lb rfl)
 dsimp only [reduceAdd, reduceMul, reduceSub, na, ca, nbk, mc, ml]; apply g0; exact wnt_g rfl rfl rfl rfl
 exact s_not rfl; apply t0; exact s_pick_f rfl rfl rfl; dsimp only [reduceAdd, reduceMul]; exact dn; exact rfl)
      refine Gol.cond_t rfl rfl ?_
      (apply Gol.sr; apply t0; exact sA rfl; dsimp only [reduceAdd, reduceMul]; exact dn; exact rfl; refine Gol.ret ?_; refine thn_r ?_)
      (apply RetQ.mk (by first | exact .inr rfl | exact .inl rfl); apply res_1 rfl; exact res_tmp rfl; exact out_val)
    | true =>
      rw [show acksN (stqN S l vs n) g = (stqN S l vs n).a by unfold acksN; rw [hfu]; rfl]
      rw [hfu] at hU
      by_cases h1 : x.k = 1
      · have d1 : decide (x.k = 1) = true := decide_eq_true h1
        rw [stq_gen S hx h1]
        dsimp only
        refine Fresh.of (fn := Tryz.f42) Tryz.func42 rfl (lb rfl) fun w => ?_
        (
 apply Gol.sr; apply t1; exact s_box rfl rfl; apply t0; exact sA rfl; dsimp only [reduceAdd, reduceMul]; exact dn; exact rfl; apply Gol.sr
 apply t0; exact sM rfl; apply t0; exact s_loadW rfl rfl rfl (agu_cuv _); apply tq; exact s_call (f := 47) rfl (eC rfl (eC rfl eN)) (aC aL (aC aL aN)) hF (lb rfl)
 dsimp only [reduceAdd, reduceMul, reduceSub, na, ca, nbk, mc, ml]; apply t0; exact sA rfl
 dsimp only [reduceAdd, reduceMul]; exact dn; exact rfl; refine Gol.seq ?_; apply Gol.sr; apply t0; exact sM rfl; apply t0
 exact s_ltn rfl rfl; apply t0; exact sM rfl; apply g0; exact wnt_g rfl rfl rfl rfl; exact sM rfl; apply g0; exact wnt_g rfl rfl rfl rfl; exact sM rfl
 apply g0; exact wnt_g rfl rfl rfl rfl; exact sM rfl; apply g0; exact wnt_g rfl rfl rfl rfl; exact s_loadW rfl rfl rfl (agu_cuv _); apply gq; exact wnt_g rfl rfl rfl rfl
 exact s_call (f := 41) rfl (eC rfl (eC rfl (eC rfl (eC rfl eN)))) (aC aL (aC aL (aC aL (aC aL aN)))) hU (lb rfl)
 dsimp only [reduceAdd, reduceMul, reduceSub, na, ca, nbk, mc, ml]; apply g0; exact wnt_g rfl rfl rfl rfl
 exact s_not rfl; apply t0; exact s_pick_f rfl rfl rfl; dsimp only [reduceAdd, reduceMul]; exact dn; exact rfl)
        refine Gol.cond_f rfl rfl ?_
        (
 refine Gol.skip ?_; refine thn_n ?_; apply Gol.sr; apply t0; exact sM rfl; apply t0; exact s_loadW rfl rfl rfl (agu_cuv _)
 apply tq; exact s_call (f := 38) rfl (eC rfl (eC rfl eN)) (aC aL (aC aL aN)) hC (lb rfl)
 dsimp only [reduceAdd, reduceMul, reduceSub, na, ca, nbk, mc, ml]; apply tq; exact s_call (f := 75) rfl (eC rfl eN) (aC aL aN) hI (lb rfl)
 dsimp only [reduceAdd, reduceMul, reduceSub, na, ca, nbk, mc, ml]; apply t0; exact sA rfl
 dsimp only [reduceAdd, reduceMul]; exact dn; exact rfl; refine Gol.seq ?_; apply Gol.sr; apply t0; exact sM rfl; apply t0
 exact sM rfl; apply t0; exact s_ixeD rfl rfl (by omega) (its_ne (by omega)) (its_at (by assumption)); apply t0; exact s_fieldAddrE rfl; apply t0; exact s_loadE rfl rfl
 apply t0; exact s_eq rfl rfl; dsimp only [reduceAdd, reduceMul]; exact dn; exact rfl)
        refine Gol.cond_t rfl d1 ?_
        (
 apply Gol.sr; apply t0; exact sM rfl; apply t0; exact sA rfl; dsimp only [reduceAdd, reduceMul]; exact dn; exact rfl; refine Gol.ret ?_
 refine thn_r ?_)
        (apply RetQ.mk (by first | exact .inr rfl | exact .inl rfl); apply res_1 rfl; exact res_tmp rfl; exact out_val)
      · have d1 : decide (x.k = 1) = false := decide_eq_false h1
        rw [stq_not S hx h1]
        dsimp only
        have hW := voters_ok vs f2 (andI (cmOf l x) 1023) 7 n (valN S x) (by omega)
        refine Fresh.of (fn := Tryz.f42) Tryz.func42 rfl (lb rfl) fun w => ?_
        (
 apply Gol.sr; apply t1; exact s_box rfl rfl; apply t0; exact sA rfl; dsimp only [reduceAdd, reduceMul]; exact dn; exact rfl; apply Gol.sr
 apply t0; exact sM rfl; apply t0; exact s_loadW rfl rfl rfl (agu_cuv _); apply tq; exact s_call (f := 47) rfl (eC rfl (eC rfl eN)) (aC aL (aC aL aN)) hF (lb rfl)
 dsimp only [reduceAdd, reduceMul, reduceSub, na, ca, nbk, mc, ml]; apply t0; exact sA rfl
 dsimp only [reduceAdd, reduceMul]; exact dn; exact rfl; refine Gol.seq ?_; apply Gol.sr; apply t0; exact sM rfl; apply t0
 exact s_ltn rfl rfl; apply t0; exact sM rfl; apply g0; exact wnt_g rfl rfl rfl rfl; exact sM rfl; apply g0; exact wnt_g rfl rfl rfl rfl; exact sM rfl
 apply g0; exact wnt_g rfl rfl rfl rfl; exact sM rfl; apply g0; exact wnt_g rfl rfl rfl rfl; exact s_loadW rfl rfl rfl (agu_cuv _); apply gq; exact wnt_g rfl rfl rfl rfl
 exact s_call (f := 41) rfl (eC rfl (eC rfl (eC rfl (eC rfl eN)))) (aC aL (aC aL (aC aL (aC aL aN)))) hU (lb rfl)
 dsimp only [reduceAdd, reduceMul, reduceSub, na, ca, nbk, mc, ml]; apply g0; exact wnt_g rfl rfl rfl rfl
 exact s_not rfl; apply t0; exact s_pick_f rfl rfl rfl; dsimp only [reduceAdd, reduceMul]; exact dn; exact rfl)
        refine Gol.cond_f rfl rfl ?_
        (
 refine Gol.skip ?_; refine thn_n ?_; apply Gol.sr; apply t0; exact sM rfl; apply t0; exact s_loadW rfl rfl rfl (agu_cuv _)
 apply tq; exact s_call (f := 38) rfl (eC rfl (eC rfl eN)) (aC aL (aC aL aN)) hC (lb rfl)
 dsimp only [reduceAdd, reduceMul, reduceSub, na, ca, nbk, mc, ml]; apply tq; exact s_call (f := 75) rfl (eC rfl eN) (aC aL aN) hI (lb rfl)
 dsimp only [reduceAdd, reduceMul, reduceSub, na, ca, nbk, mc, ml]; apply t0; exact sA rfl
 dsimp only [reduceAdd, reduceMul]; exact dn; exact rfl; refine Gol.seq ?_; apply Gol.sr; apply t0; exact sM rfl; apply t0
 exact sM rfl; apply t0; exact s_ixeD rfl rfl (by omega) (its_ne (by omega)) (its_at (by assumption)); apply t0; exact s_fieldAddrE rfl; apply t0; exact s_loadE rfl rfl
 apply t0; exact s_eq rfl rfl; dsimp only [reduceAdd, reduceMul]; exact dn; exact rfl)
        refine Gol.cond_f rfl d1 ?_
        (
 refine Gol.skip ?_; refine thn_n ?_; refine Gol.seq ?_; apply Gol.any; kernel_rfl
 apply t0; exact sM rfl; apply t0; exact sM rfl; apply t0; exact s_loadW rfl rfl rfl (agu_cuv _); apply t0; exact sM rfl; apply t0; exact sM rfl
 apply t0; exact s_ixeD rfl rfl (by omega) (its_ne (by omega)) (its_at (by assumption)); apply t0; exact s_loadEN rfl (lb rfl) agu_it
 apply tq; exact s_call (f := 11) rfl (eC rfl eN) (aC aL aN) hV (lb rfl)
 dsimp only [reduceAdd, reduceMul, reduceSub, na, ca, nbk, mc, ml]; apply tq; exact s_call (f := 76) rfl (eC rfl (eC rfl (eC rfl (eC rfl (eC rfl eN))))) (aC aL (aC aL (aC aL (aC aL (aC aL aN))))) hW (lb rfl)
 dsimp only [reduceAdd, reduceMul, reduceSub, na, ca, nbk, mc, ml]; apply t0; exact sA rfl
 dsimp only [reduceAdd, reduceMul]; exact dn; kernel_rfl; exact rfl; refine thn_n ?_; refine Gol.ret ?_)
        (apply RetQ.mk (by first | exact .inr rfl | exact .inl rfl); apply res_1 rfl; exact res_tmp rfl; exact out_val)
theorem refLocked_ok (g : Int) (n : UInt64) : Fresh Tryz.prog 43 [.ex l.length f (itsA l), .ex vs.length f2 (vtsA vs), .v (.int .i64 g), .v (.agg (nameC n))] (fun _ => .v (.bool (lockedB (stqN S l vs n) g))) [] := by
  have hG := refGen_ok l f n (by omega)
  have hg := stq_g2 S l vs n
  cases hgb : genB2 l n with
  | true =>
    rw [hgb] at hG hg
    rw [show lockedB (stqN S l vs n) g = true by unfold lockedB; rw [hg]; rfl]
    refine Fresh.of (fn := Tryz.f43) Tryz.func43 rfl (lb rfl) fun w => ?_
    (
 apply Gol.sr; apply t1; exact s_box rfl rfl; apply t0; exact sA rfl; dsimp only [reduceAdd, reduceMul]; exact dn; exact rfl; apply Gol.sr
 apply t0; exact sM rfl; apply t0; exact s_loadW rfl rfl rfl (agu_cuv _); apply tq; exact s_call (f := 77) rfl (eC rfl (eC rfl eN)) (aC aL (aC aL aN)) hG (lb rfl)
 dsimp only [reduceAdd, reduceMul, reduceSub, na, ca, nbk, mc, ml]; apply t0; exact sM rfl
 apply sk; exact wnt_g rfl rfl rfl rfl; apply sk; exact wnt_g rfl rfl rfl rfl; apply sk; exact wnt_g rfl rfl rfl rfl; apply sk; exact wnt_g rfl rfl rfl rfl
 apply sk; exact wnt_g rfl rfl rfl rfl; apply sk; exact wnt_g rfl rfl rfl rfl; apply sk; exact wnt_g rfl rfl rfl rfl; apply sk; exact wnt_g rfl rfl rfl rfl
 apply t0; exact s_pick_t rfl rfl rfl; apply t0; exact sA rfl; dsimp only [reduceAdd, reduceMul]; exact dn; exact rfl; refine Gol.ret ?_)
    (apply RetQ.mk (by first | exact .inr rfl | exact .inl rfl); apply res_1 rfl; exact res_tmp rfl; exact out_val)
  | false =>
    rw [hgb] at hG hg
    have hs := refAcks_ok S hS l vs f f2 hl hv hsm g n
    rw [show lockedB (stqN S l vs n) g = !decide (andNotI (acksN (stqN S l vs n) g) g = 0) by unfold lockedB; rw [hg, ((acks_in S l vs n g).andNot g).pos.1]; rfl]
    generalize acksN (stqN S l vs n) g = s at hs ⊢
    refine Fresh.of (fn := Tryz.f43) Tryz.func43 rfl (lb rfl) fun w => ?_
    (
 apply Gol.sr; apply t1; exact s_box rfl rfl; apply t0; exact sA rfl; dsimp only [reduceAdd, reduceMul]; exact dn; exact rfl; apply Gol.sr
 apply t0; exact sM rfl; apply t0; exact s_loadW rfl rfl rfl (agu_cuv _); apply tq; exact s_call (f := 77) rfl (eC rfl (eC rfl eN)) (aC aL (aC aL aN)) hG (lb rfl)
 dsimp only [reduceAdd, reduceMul, reduceSub, na, ca, nbk, mc, ml]; apply t0; exact sM rfl
 apply g0; exact wnt_g rfl rfl rfl rfl; exact sM rfl; apply g0; exact wnt_g rfl rfl rfl rfl; exact sM rfl; apply g0; exact wnt_g rfl rfl rfl rfl
 exact sM rfl; apply g0; exact wnt_g rfl rfl rfl rfl; exact s_loadW rfl rfl rfl (agu_cuv _); apply gq; exact wnt_g rfl rfl rfl rfl; exact s_call (f := 42) rfl (eC rfl (eC rfl (eC rfl (eC rfl eN)))) (aC aL (aC aL (aC aL (aC aL aN)))) hs (lb rfl)
 dsimp only [reduceAdd, reduceMul, reduceSub, na, ca, nbk, mc, ml]; apply g0; exact wnt_g rfl rfl rfl rfl
 exact sM rfl; apply g0; exact wnt_g rfl rfl rfl rfl; exact s_andNotI rfl rfl; apply g0; exact wnt_g rfl rfl rfl rfl; exact s_ne rfl rfl; apply t0
 exact s_pick_f rfl rfl rfl; apply t0; exact sA rfl; dsimp only [reduceAdd, reduceMul]; exact dn; exact rfl; refine Gol.ret ?_)
    (apply RetQ.mk (by first | exact .inr rfl | exact .inl rfl); apply res_1 rfl; exact res_tmp rfl; exact out_val)
theorem refFinal_ok (g : Int) (n : UInt64) : Fresh Tryz.prog 44 [.ex l.length f (itsA l), .ex vs.length f2 (vtsA vs), .v (.int .i64 g), .v (.agg (nameC n))] (fun _ => .v (.bool (finalB (stqN S l vs n) g))) [] := by
  have hG := refGen_ok l f n (by omega)
  have hg := stq_g2 S l vs n
  cases hgb : genB2 l n with
  | true =>
    rw [hgb] at hG hg
    rw [show finalB (stqN S l vs n) g = true by unfold finalB; rw [hg]; rfl]
    refine Fresh.of (fn := Tryz.f44) Tryz.func44 rfl (lb rfl) fun w => ?_
    (
 apply Gol.sr; apply t1; exact s_box rfl rfl; apply t0; exact sA rfl; dsimp only [reduceAdd, reduceMul]; exact dn; exact rfl; refine Gol.seq ?_
 apply Gol.sr; apply t0; exact sM rfl; apply t0; exact s_loadW rfl rfl rfl (agu_cuv _); apply tq; exact s_call (f := 77) rfl (eC rfl (eC rfl eN)) (aC aL (aC aL aN)) hG (lb rfl)
 dsimp only [reduceAdd, reduceMul, reduceSub, na, ca, nbk, mc, ml]; exact dn; exact rfl)
    refine Gol.cond_t rfl rfl ?_
    (apply Gol.sr; apply t0; exact sA rfl; dsimp only [reduceAdd, reduceMul]; exact dn; exact rfl; refine Gol.ret ?_; refine thn_r ?_)
    (apply RetQ.mk (by first | exact .inr rfl | exact .inl rfl); apply res_1 rfl; exact res_tmp rfl; exact out_val)
  | false =>
    rw [hgb] at hG hg
    have hs := refAcks_ok S hS l vs f f2 hl hv hsm g n
    have hC := refCommittee_ok l f n (by omega)
    have hI := ids_ok (comN l n)
    rw [show finalB (stqN S l vs n) g = (!decide (andNotI (andI (comN l n) 1023) g = 0) && decide (andNotI (andNotI (andI (comN l n) 1023) g) (acksN (stqN S l vs n) g) = 0)) by unfold finalB allB; rw [hg, all_low, stq_c2]; rfl]
    generalize (acksN (stqN S l vs n) g) = s at hs ⊢
    generalize andI (comN l n) 1023 = r at hI ⊢
    by_cases hr : andNotI r g = 0
    · have dr : decide (andNotI r g = 0) = true := decide_eq_true hr
      rw [dr]
      refine Fresh.of (fn := Tryz.f44) Tryz.func44 rfl (lb rfl) fun w => ?_
      (
 apply Gol.sr; apply t1; exact s_box rfl rfl; apply t0; exact sA rfl; dsimp only [reduceAdd, reduceMul]; exact dn; exact rfl; refine Gol.seq ?_
 apply Gol.sr; apply t0; exact sM rfl; apply t0; exact s_loadW rfl rfl rfl (agu_cuv _); apply tq; exact s_call (f := 77) rfl (eC rfl (eC rfl eN)) (aC aL (aC aL aN)) hG (lb rfl)
 dsimp only [reduceAdd, reduceMul, reduceSub, na, ca, nbk, mc, ml]; exact dn; exact rfl)
      refine Gol.cond_f rfl rfl ?_
      (
 refine Gol.skip ?_; refine thn_n ?_; apply Gol.sr; apply t0; exact sM rfl; apply t0; exact s_loadW rfl rfl rfl (agu_cuv _)
 apply tq; exact s_call (f := 38) rfl (eC rfl (eC rfl eN)) (aC aL (aC aL aN)) hC (lb rfl)
 dsimp only [reduceAdd, reduceMul, reduceSub, na, ca, nbk, mc, ml]; apply tq; exact s_call (f := 75) rfl (eC rfl eN) (aC aL aN) hI (lb rfl)
 dsimp only [reduceAdd, reduceMul, reduceSub, na, ca, nbk, mc, ml]; apply t0; exact sM rfl
 apply t0; exact s_andNotI rfl rfl; apply t0; exact sA rfl; dsimp only [reduceAdd, reduceMul]; exact dn; exact rfl; apply Gol.sr; apply t0
 exact sM rfl; apply t0; exact s_ne rfl rfl; apply t0; exact sM rfl; apply sk; exact wnt_g rfl rfl rfl (by simp only [*]; rfl); apply sk
 exact wnt_g rfl rfl rfl (by simp only [*]; rfl); apply sk; exact wnt_g rfl rfl rfl (by simp only [*]; rfl); apply sk; exact wnt_g rfl rfl rfl (by simp only [*]; rfl)
 apply sk; exact wnt_g rfl rfl rfl (by simp only [*]; rfl); apply sk; exact wnt_g rfl rfl rfl (by simp only [*]; rfl); apply sk; exact wnt_g rfl rfl rfl (by simp only [*]; rfl)
 apply sk; exact wnt_g rfl rfl rfl (by simp only [*]; rfl); apply t0; exact s_pick_f rfl (by simp only [*]; rfl) rfl; apply t0; exact sA rfl
 dsimp only [reduceAdd, reduceMul]; exact dn; exact rfl; refine Gol.ret ?_)
      apply RetQ.bool
      · (apply RetQ.mk (by first | exact .inr rfl | exact .inl rfl); apply res_1 rfl; exact res_tmp rfl; exact out_val)
      · simp [hr]
    · have dr : decide (andNotI r g = 0) = false := decide_eq_false hr
      rw [dr]
      refine Fresh.of (fn := Tryz.f44) Tryz.func44 rfl (lb rfl) fun w => ?_
      (
 apply Gol.sr; apply t1; exact s_box rfl rfl; apply t0; exact sA rfl; dsimp only [reduceAdd, reduceMul]; exact dn; exact rfl; refine Gol.seq ?_
 apply Gol.sr; apply t0; exact sM rfl; apply t0; exact s_loadW rfl rfl rfl (agu_cuv _); apply tq; exact s_call (f := 77) rfl (eC rfl (eC rfl eN)) (aC aL (aC aL aN)) hG (lb rfl)
 dsimp only [reduceAdd, reduceMul, reduceSub, na, ca, nbk, mc, ml]; exact dn; exact rfl)
      refine Gol.cond_f rfl rfl ?_
      (
 refine Gol.skip ?_; refine thn_n ?_; apply Gol.sr; apply t0; exact sM rfl; apply t0; exact s_loadW rfl rfl rfl (agu_cuv _)
 apply tq; exact s_call (f := 38) rfl (eC rfl (eC rfl eN)) (aC aL (aC aL aN)) hC (lb rfl)
 dsimp only [reduceAdd, reduceMul, reduceSub, na, ca, nbk, mc, ml]; apply tq; exact s_call (f := 75) rfl (eC rfl eN) (aC aL aN) hI (lb rfl)
 dsimp only [reduceAdd, reduceMul, reduceSub, na, ca, nbk, mc, ml]; apply t0; exact sM rfl
 apply t0; exact s_andNotI rfl rfl; apply t0; exact sA rfl; dsimp only [reduceAdd, reduceMul]; exact dn; exact rfl; apply Gol.sr; apply t0
 exact sM rfl; apply t0; exact s_ne rfl rfl; apply t0; exact sM rfl; apply g0; exact wnt_g rfl rfl rfl (by simp only [*]; rfl); exact sM rfl
 apply g0; exact wnt_g rfl rfl rfl (by simp only [*]; rfl); exact sM rfl; apply g0; exact wnt_g rfl rfl rfl (by simp only [*]; rfl)
 exact sM rfl; apply g0; exact wnt_g rfl rfl rfl (by simp only [*]; rfl); exact sM rfl; apply g0; exact wnt_g rfl rfl rfl (by simp only [*]; rfl)
 exact s_loadW rfl rfl rfl (agu_cuv _); apply gq; exact wnt_g rfl rfl rfl (by simp only [*]; rfl); exact s_call (f := 42) rfl (eC rfl (eC rfl (eC rfl (eC rfl eN)))) (aC aL (aC aL (aC aL (aC aL aN)))) hs (lb rfl)
 dsimp only [reduceAdd, reduceMul, reduceSub, na, ca, nbk, mc, ml]; apply g0; exact wnt_g rfl rfl rfl (by simp only [*]; rfl)
 exact s_andNotI rfl rfl; apply g0; exact wnt_g rfl rfl rfl (by simp only [*]; rfl); exact s_eq rfl rfl; apply t0; exact s_pick_t rfl (by simp only [*]; rfl) rfl
 apply t0; exact sA rfl; dsimp only [reduceAdd, reduceMul]; exact dn; exact rfl; refine Gol.ret ?_)
      apply RetQ.bool
      · (apply RetQ.mk (by first | exact .inr rfl | exact .inl rfl); apply res_1 rfl; exact res_tmp rfl; exact out_val)
      · simp
end
end Go.Proofs.YtneeclacmhhblaaGreat

