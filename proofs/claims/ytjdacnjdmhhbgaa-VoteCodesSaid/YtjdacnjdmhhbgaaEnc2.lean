/-
  Votes: encodings back and forth, in plain words. Conditions: fields are 64 bit integers.
-/
import Derived.Test.YtjdacnjdmhhbgaaEnc
import Derived.Test.YtjdacnjdmhhbgaaOpv7
set_option linter.unusedSimpArgs false
set_option linter.unusedVariables false
set_option linter.unusedSectionVars false
namespace Go.Proofs.Ytjdacnjdmhhbgaa
open Go.RowKit

theorem tail_rc {v : Vt} (h : tailB v = true) : 0 ≤ v.round ∧ v.round ≤ 12 ∧ 0 ≤ v.choice ∧ v.choice ≤ 2 := by
  unfold tailB at h
  split at h
  · simp at h; omega
  · split at h
    · simp at h; omega
    · simp at h; omega
theorem toU8_id {a : Int} (h : 0 ≤ a ∧ a ≤ 255) : ((toU8 a).toNat : Int) = a := by rw [toU8, UInt8.toNat_ofNat']; omega
theorem toU8_byte (b : UInt8) : toU8 (b.toNat : Int) = b := by
  have := b.toNat_lt
  exact UInt8.toNat_inj.1 (by rw [toU8, UInt8.toNat_ofNat']; omega)
theorem rd_nameB (v : UInt64) : rdU (nameB v) = v := by
  have hv := v.toNat_lt
  apply UInt64.toNat_inj.1
  rw [rdU_toNat _ (by rw [nameB_length]; decide)]
  simp only [rdN, nameB, List.foldl_cons, List.foldl_nil, nb, UInt8.toNat_ofNat', Nat.reducePow]
  omega
theorem rd_be (s : Int) (h : 0 ≤ s ∧ s ≤ 1023) : ((rdU (beB (toU64 s) 2)).toNat : Int) = s := by
  rw [be_two s h, rdU_toNat _ (by simp)]
  obtain ⟨n, rfl⟩ := Int.eq_ofNat_of_zero_le h.1
  have e : shrI (n : Int) 8 = ((n / 256 : Nat) : Int) := by
    rw [shrI, Int.fdiv_eq_ediv_of_nonneg _ (by decide)]; simp
  rw [e]
  simp only [rdN, List.foldl_cons, List.foldl_nil, toU8, UInt8.toNat_ofNat']
  omega
theorem dec_enc {v : Vt} (hv : validB v = true) (ho : okV v) : decV (encV v) = v := by
  obtain ⟨h1, h2, _, _, h5⟩ := (valid_iff v).1 hv
  have h3 := tail_slot h5
  have h4 := tail_rc h5
  have h6 := support_bd hv ho.2.2.2.2.2
  have e6 := rd_be v.support h6
  obtain ⟨k, sl, r, c, sg, su, p, q⟩ := v
  have hb := beB_length (toU64 su) 2
  unfold decV encV encH
  have d5 : (((([toU8 k, toU8 sl, toU8 r, toU8 c, toU8 sg] ++ beB (toU64 su) 2) ++ nameB p) ++ nameB q).drop 5).take 2 = beB (toU64 su) 2 := by
    simp [List.take_append, hb]
  have d7 : (((([toU8 k, toU8 sl, toU8 r, toU8 c, toU8 sg] ++ beB (toU64 su) 2) ++ nameB p) ++ nameB q).drop 7).take 8 = nameB p := by
    rw [List.append_assoc ([toU8 k, toU8 sl, toU8 r, toU8 c, toU8 sg] ++ beB (toU64 su) 2), List.drop_left' (by simp [hb]), List.take_left' (nameB_length p)]
  have d15 : (((([toU8 k, toU8 sl, toU8 r, toU8 c, toU8 sg] ++ beB (toU64 su) 2) ++ nameB p) ++ nameB q).drop 15).take 8 = nameB q := by
    rw [List.drop_left' (by simp [hb, nameB_length]), List.take_of_length_le (by simp [nameB_length])]
  dsimp only at h1 h2 h3 h4 h6 e6 ⊢
  rw [d5, d7, d15, rd_nameB, rd_nameB, e6]
  simp only [List.cons_append, List.getD_cons_zero, List.getD_cons_succ]
  rw [toU8_id (by omega), toU8_id (by omega), toU8_id (by omega), toU8_id (by omega), toU8_id (by omega)]
theorem enc_dec {bs : List UInt8} (hn : bs.length = 23) (hv : validB (decV bs) = true) : encV (decV bs) = bs := by
  have hs := rdU2_lt bs 5
  have h6 := support_bd hv (by show _ ≤ ((rdU ((bs.drop 5).take 2)).toNat : Int) ∧ ((rdU ((bs.drop 5).take 2)).toNat : Int) ≤ _; omega)
  obtain ⟨b0, b1, b2, b3, b4, b5, b6, b7, b8, b9, b10, b11, b12, b13, b14, b15, b16, b17, b18, b19, b20, b21, b22, rfl⟩ := list23 hn
  have hb5 := b5.toNat_lt
  have hb6 := b6.toNat_lt
  have er : (rdU [b5, b6]).toNat = b5.toNat * 256 + b6.toNat := by rw [rdU_toNat _ (by simp)]; simp [rdN]
  unfold encV encH
  rw [be_two _ h6]
  unfold decV
  dsimp only
  simp only [List.drop_succ_cons, List.drop_zero, List.take_succ_cons, List.take_zero, List.getD_cons_zero, List.getD_cons_succ, toU8_byte]
  rw [nameB_rd (l := [b7, b8, b9, b10, b11, b12, b13, b14]) rfl, nameB_rd (l := [b15, b16, b17, b18, b19, b20, b21, b22]) rfl, er]
  have e1 : toU8 (shrI ((b5.toNat * 256 + b6.toNat : Nat) : Int) 8) = b5 := by
    have : shrI ((b5.toNat * 256 + b6.toNat : Nat) : Int) 8 = (b5.toNat : Int) := by rw [shrI, Int.fdiv_eq_ediv_of_nonneg _ (by decide)]; simp; omega
    rw [this, toU8_byte]
  have e2 : toU8 ((b5.toNat * 256 + b6.toNat : Nat) : Int) = b6 := by
    apply UInt8.toNat_inj.1
    rw [toU8, UInt8.toNat_ofNat']
    omega
  rw [e1, e2]
  rfl
theorem enc_inj {a b : Vt} (ha : validB a = true) (hb : validB b = true) (oa : okV a) (ob : okV b) : (encV a == encV b) = decide (a = b) := by
  by_cases h : a = b
  · subst h; simp
  · have : ¬ encV a = encV b := fun e => h (by rw [← dec_enc ha oa, ← dec_enc hb ob, e])
    simp [h, this]
theorem decR_enc {v : Vt} (hv : validB v = true) (ho : okV v) : decR (encV v) = v ∧ decE (encV v) = 0 := by
  have e := dec_enc hv ho
  simp [decR, decE, encV_length, e, hv]
theorem dec_ok {bs : List UInt8} (h : decE bs = 0) : bs.length = 23 ∧ validB (decV bs) = true ∧ decR bs = decV bs := by
  unfold decE at h
  split at h
  · cases h
  · split at h
    · cases h
    · split at h
      · rename_i h1 h2 h3
        have hl : bs.length = 23 := by omega
        exact ⟨hl, h3, by simp [decR, hl, h3]⟩
      · cases h
end Go.Proofs.Ytjdacnjdmhhbgaa
