/-
  The laws OnetimeDigits, OnetimeGuards of layer 4 return true, whatever names they are called with. Conditions: none.
-/
import Derived.Test.YtihgmdicglnndaaDig
namespace Go.Proofs.Ytihgmdicglnndaa
open Go.RowKit
attribute [local go_sem ↓] Go.wp_at_zero Go.wp_at_succ

/-- digit i -/
def dig (n : UInt64) (i : Nat) : Int := (digits n).getD i 0
theorem digits_length (n : UInt64) : (digits n).length = 18 := by simp [digits, digK_length]
theorem dig_at (n : UInt64) (i : Nat) (h : i < 18) : ((digits n).map (Value.int .i64))[i]? = some (.int .i64 (dig n i)) := by
  have : i < (digits n).length := by rw [digits_length]; exact h
  simp [dig, List.getElem?_map, List.getElem?_eq_getElem this, List.getD_eq_getElem?_getD]
theorem digs_bd : ∀ (l : List UInt8), ∀ d ∈ digs l, 0 ≤ d ∧ d ≤ 15
  | [], d, h => by cases h
  | c :: l, d, h => by
    have h1 := hi4_le c
    have h2 := lo4_le c
    simp only [digs, List.mem_cons] at h
    rcases h with rfl | rfl | h
    · omega
    · omega
    · exact digs_bd l d h
theorem dig_bd (n : UInt64) (i : Nat) (h : i < 18) : 0 ≤ dig n i ∧ dig n i ≤ 15 := by
  have hl : i < (digits n).length := by rw [digits_length]; exact h
  have hm : dig n i ∈ digits n := by
    unfold dig
    rw [List.getD_eq_getElem?_getD, List.getElem?_eq_getElem hl]
    exact List.getElem_mem hl
  have hr := restK_bd n 8 (by omega)
  unfold digits at hm
  rcases List.mem_append.1 hm with h' | h'
  · exact digs_bd _ _ h'
  · simp only [List.mem_cons, List.not_mem_nil, or_false] at h'
    rcases h' with h' | h' <;> rw [h'] <;> omega
def sumD (n : UInt64) (i : Nat) : Int := ((digits n).take (min i 16)).sum
theorem sumD_next (n : UInt64) (i : Nat) (h : i < 16) : sumD n (i + 1) = sumD n i + dig n i := by
  have hl : i < (digits n).length := by rw [digits_length]; omega
  unfold sumD dig
  rw [show min (i + 1) 16 = i + 1 from by omega, show min i 16 = i from by omega, List.take_add_one, List.sum_append, List.getElem?_eq_getElem hl, List.getD_eq_getElem?_getD, List.getElem?_eq_getElem hl]
  simp
theorem sumD_same (n : UInt64) (i : Nat) (h : 16 ≤ i) : sumD n (i + 1) = sumD n i := by
  unfold sumD; rw [show min (i + 1) 16 = min i 16 from by omega]
theorem sumD_end (n : UInt64) : sumD n 18 = 240 - restK n 8 := by
  unfold sumD digits restK restOf
  rw [show min 18 16 = (digK n 8).length from by rw [digK_length n 8 (by omega)]; rfl, List.take_left]
  unfold digK
  omega
theorem sumD_bd (n : UInt64) (i : Nat) : 0 ≤ sumD n i ∧ sumD n i ≤ 15 * (min i 16 : Nat) := by
  induction i with
  | zero => simp [sumD]
  | succ i ih =>
    by_cases h : i < 16
    · have := dig_bd n i (by omega)
      rw [sumD_next n i h]; omega
    · rw [sumD_same n i (by omega)]; omega
theorem dig_16 (n : UInt64) : dig n 16 = restK n 8 / 16 := by
  unfold dig digits
  rw [List.getD_eq_getElem?_getD, List.getElem?_append_right (by rw [digK_length n 8 (by omega)]; omega), digK_length n 8 (by omega)]; rfl
theorem dig_17 (n : UInt64) : dig n 17 = restK n 8 % 16 := by
  unfold dig digits
  rw [List.getD_eq_getElem?_getD, List.getElem?_append_right (by rw [digK_length n 8 (by omega)]; omega), digK_length n 8 (by omega)]; rfl

/-- what a caller gets of a list of 18 digits -/
theorem digs_cells {w : World} {base : Nat} {e : TypeId} {A : Option Addr} {c : Nat} (n : UInt64) (h : w.ownsRow base e 1 (.slice A 18 c) 18 ((digits n).map (Value.int .i64))) :
    ∃ g, A = some ⟨g, 0, none⟩ ∧ base ≤ g ∧ g < w.heap.size ∧ ∀ i, i < 18 → w.cell? ⟨g, i, none⟩ = some (.int .i64 (dig n i)) := by
  obtain ⟨g, rfl, hg, hl, hc⟩ := own_cells h (by decide)
  exact ⟨g, rfl, hg, hl, fun i hi => hc i _ (dig_at n i hi)⟩

set_option maxHeartbeats 400000 in
theorem awake4_calls (w : World) :
    Calls Try.prog 17 #[] w fun e w' => e = .returned (.bool true) ∧ Ext w w' := by
  have d0 : dig 0 0 = 0 := by decide +kernel
  have d16 : dig 0 16 = 15 := by decide +kernel
  have d17 : dig 0 17 = 0 := by decide +kernel
  go_enter Try.func17, Try.ntmps17
  go_wp2_with (go_at_call 15; refine (digits_calls 0 _).mono ?_; rintro e w1 ⟨A, c, rfl, hown, hb⟩; obtain ⟨g, rfl, _, _, hc⟩ := digs_cells 0 hown; have c0 := hc 0 (by decide); have c16 := hc 16 (by decide); have c17 := hc 17 (by decide); clear hc hown; rw [d0] at c0; rw [d16] at c16; rw [d17] at c17)
  go_ret
  exact ⟨rfl, hb⟩

set_option maxHeartbeats 1000000 in
theorem onetimeDigits_calls (n : UInt64) (w : World) :
    Calls Try.prog 3 #[.agg (nameC n)] w fun e w' => e = .returned (.bool true) ∧ Ext w w' := by
  go_enter Try.func3, Try.ntmps3
  go_upto_region 1 with (fail)
  have E : Ext w (w.alloc (.cells (nameC n) 23)) := by (repeat (first | exact Ext.refl _ | assumption | refine Ext.drew ?_ | refine Ext.drewN ?_ _ | refine Ext.alloc ?_ _ | refine Ext.trans ?_ (by assumption)))
  have R1 : rowAt (w.alloc (.cells (nameC n) 23)) w.heap.size = some (nameC n) := rowAt_new _ _ _ _ (by simp)
  generalize (w.alloc (.cells (nameC n) 23)) = W at E R1 ⊢
  have L1 := rowAt_lt R1
  go_region_held3 (fun w' => rowAt w' w.heap.size = some (nameC n) ∧ Ext w w') ((refine ⟨?_, ?_⟩ <;> (repeat (first | exact Ext.refl _ | assumption | refine Ext.drew ?_ | refine Ext.drewN ?_ _ | refine Ext.alloc ?_ _ | refine Ext.trans ?_ (by assumption) | refine rowAt_keep ?_ (by assumption) | refine cell_keep ?_ (by assumption) | (simp [go_sem]; done)))))
    (first
      | (go_at_call 15; refine (digits_calls _ _).mono ?_; rintro e w1 ⟨A1, c1, rfl, hown1, hb⟩)
      | (go_at_call 16; refine (refDigits_calls _ _).mono ?_; rintro e w2 ⟨A2, c2, rfl, hown2, hb2⟩))
  rename_i hh
  obtain ⟨hrow, hE⟩ := hh
  obtain ⟨g1, rfl, _, hl1, hc1⟩ := digs_cells n (own_keep hown1 hb2)
  obtain ⟨g2, rfl, _, hl2, hc2⟩ := digs_cells n hown2
  clear hown1 hown2 hb hb2 R1 L1 E hrow
  have H1 := Lib.hid hc1
  have H2 := Lib.hid hc2
  clear hc1 hc2
  go_wp2
  go_loopw [5, 6] (fun s i wr => ∃ k : Nat, k ≤ 18 ∧ i = .int .i64 k ∧ s = .int .i64 (sumD n k) ∧ Ext w2 wr) (fun _ i _ => 18 - (intOf i).toNat)
  case atStart => exact ⟨0, by omega, rfl, by simp [sumD], Ext.refl _⟩
  case round =>
    obtain ⟨k, hk, rfl, rfl, hx⟩ := hrel
    have hsb := sumD_bd n k
    by_cases hlt : k < 18
    · have hd := dig_bd n k hlt
      have q1 := cell_keep (H1.out k hlt) hx
      have q2 := cell_keep (H2.out k hlt) hx
      have b1 : decide (dig n k < 0) = false := by simp; omega
      have b2 : decide (15 < dig n k) = false := by simp; omega
      have hi0 : (0 : Int) ≤ (k : Int) := by omega
      have hi8 : (k : Int) < 18 := by omega
      have hsn := sumD_next n k
      have hss := sumD_same n k
      have HN := Lib.hid hsn
      have HS := Lib.hid hss
      clear hsn hss
      go_wp2
      go_region_held3 (fun w' => w'.cell? ⟨g1, k, none⟩ = some (.int .i64 (dig n k)) ∧ w'.cell? ⟨g2, k, none⟩ = some (.int .i64 (dig n k))) (first | (exact ⟨q1, q2⟩) | (constructor <;> simpa using by assumption)) (first | fail)
      rename_i hh
      obtain ⟨q3, q4⟩ := hh
      clear q1 q2
      go_wp2
      · go_roundw
        case rel => exact ⟨k + 1, by omega, by go_num, by rw [HN.out (by omega)], hx.drew⟩
        case measure => simp [intOf]; omega
      · go_roundw
        case rel => exact ⟨k + 1, by omega, by go_num, by rw [HS.out (by omega)], hx.drew⟩
        case measure => simp [intOf]; omega
    · obtain rfl : k = 18 := by omega
      have hd16 := dig_bd n 16 (by omega)
      have hd17 := dig_bd n 17 (by omega)
      have hrb := restK_bd n 8 (by omega)
      have q1 := cell_keep (H1.out 16 (by omega)) hx
      have q2 := cell_keep (H1.out 17 (by omega)) hx
      have e3 : IntKind.i64.wrap (16 * dig n 16) = 16 * dig n 16 := by rw [IntKind.wrap_i64]; omega
      have e4 : IntKind.i64.wrap (16 * dig n 16 + dig n 17) = 16 * dig n 16 + dig n 17 := by rw [IntKind.wrap_i64]; omega
      have e5 : IntKind.i64.wrap (240 - sumD n 18) = 240 - sumD n 18 := by rw [IntKind.wrap_i64]; omega
      have e6 : (16 * dig n 16 + dig n 17 == 240 - sumD n 18) = true := by rw [dig_16, dig_17, sumD_end, beq_iff_eq]; omega
      clear hlt hk H1 H2
      generalize dig n 16 = d16 at *
      generalize dig n 17 = d17 at *
      generalize sumD n 18 = s18 at *
      clear hrb hsb hd16 hd17
      go_wp2
      go_region_held3 (fun w' => w'.cell? ⟨g1, 16, none⟩ = some (.int .i64 d16) ∧ w'.cell? ⟨g1, 17, none⟩ = some (.int .i64 d17) ∧ Ext w w')
        (first | (exact ⟨q1, q2, (hE.trans hx).drew⟩) | ((refine ⟨?_, ?_, ?_⟩ <;> (repeat (first | exact Ext.refl _ | assumption | refine Ext.drew ?_ | refine Ext.drewN ?_ _ | refine Ext.alloc ?_ _ | refine Ext.trans ?_ (by assumption) | refine rowAt_keep ?_ (by assumption) | refine cell_keep ?_ (by assumption) | (simp [go_sem]; done)))))) (first | (go_at_call 17; refine (awake4_calls _).mono ?_; rintro e w' ⟨rfl, hb⟩))
      rename_i hh
      go_wp2
      go_ret
      exact ⟨rfl, hh.2.2⟩

/-! ### OnetimeGuards: the plain law -/
def someLess (a b : UInt64) (k : Nat) : Bool := (List.range k).any fun i => decide (dig a i < dig b i)
theorem someLess_next (a b : UInt64) (k : Nat) : someLess a b (k + 1) = (someLess a b k || decide (dig a k < dig b k)) := by
  simp [someLess, List.range_succ]
theorem dig_low (n : UInt64) (k : Nat) (h : k < 8) : dig n (2 * k) = hi4 (nb n (7 - k)) ∧ dig n (2 * k + 1) = lo4 (nb n (7 - k)) := by
  match k, h with
  | 0, _ | 1, _ | 2, _ | 3, _ | 4, _ | 5, _ | 6, _ | 7, _ => exact ⟨rfl, rfl⟩
theorem byte_of (c d : UInt8) (h : hi4 c = hi4 d) (l : lo4 c = lo4 d) : c = d := by
  apply UInt8.toNat_inj.1
  unfold hi4 at h
  unfold lo4 at l
  omega
theorem name_of_digs (a b : UInt64) (h : ∀ i, i < 16 → dig a i = dig b i) : a = b := by
  refine name_ext a b fun i hi => ?_
  have ha := dig_low a (7 - i) (by omega)
  have hb := dig_low b (7 - i) (by omega)
  rw [show 7 - (7 - i) = i from by omega] at ha hb
  have h1 := h (2 * (7 - i)) (by omega)
  have h2 := h (2 * (7 - i) + 1) (by omega)
  rw [ha.1, hb.1] at h1
  rw [ha.2, hb.2] at h2
  rw [byte_of (nb a i) (nb b i) (by omega) (by omega)]
/-- all digits of a are at least those of b: then the names are the same -/
theorem no_less (a b : UInt64) (h : someLess a b 18 = false) : a = b := by
  have hd : ∀ i, i < 18 → dig b i ≤ dig a i := by
    intro i hi
    unfold someLess at h
    rw [List.any_eq_false] at h
    have := h i (by simpa using hi)
    simpa using this
  -- the last two digits are at least as great, so the sum of the others is at most as great
  have h16 := hd 16 (by omega)
  have h17 := hd 17 (by omega)
  rw [dig_16, dig_16] at h16
  rw [dig_17, dig_17] at h17
  have hs := sumD_end a
  have hs' := sumD_end b
  have hsum : ∀ k, k ≤ 16 → sumD b k ≤ sumD a k := by
    intro k
    induction k with
    | zero => intro _; simp [sumD]
    | succ k ih =>
      intro hk
      rw [sumD_next a k (by omega), sumD_next b k (by omega)]
      have := hd k (by omega)
      have := ih (by omega)
      omega
  have hall : sumD b 16 = sumD a 16 := by
    have h1 := hsum 16 (by omega)
    have e1 : sumD a 18 = sumD a 16 := by unfold sumD; rfl
    have e2 : sumD b 18 = sumD b 16 := by unfold sumD; rfl
    omega
  have heq : ∀ k, k ≤ 16 → sumD b (16 - k) = sumD a (16 - k) := by
    intro k
    induction k with
    | zero => intro _; simpa using hall
    | succ k ih =>
      intro hk
      have h1 := ih (by omega)
      have e : 16 - k = 16 - (k + 1) + 1 := by omega
      rw [e, sumD_next a _ (by omega), sumD_next b _ (by omega)] at h1
      have := hd (16 - (k + 1)) (by omega)
      have := hsum (16 - (k + 1)) (by omega)
      omega
  refine name_of_digs a b fun i hi => ?_
  have h1 := heq (16 - i) (by omega)
  have h2 := heq (16 - (i + 1)) (by omega)
  rw [show 16 - (16 - i) = i from by omega] at h1
  rw [show 16 - (16 - (i + 1)) = i + 1 from by omega, sumD_next a _ hi, sumD_next b _ hi] at h2
  omega
theorem someLess_self (a : UInt64) (k : Nat) : someLess a a k = false := by
  simp [someLess]
theorem someLess_eq (a b : UInt64) : someLess a b 18 = !(a == b) := by
  by_cases h : a = b
  · subst h; rw [someLess_self]; simp
  · cases h' : someLess a b 18 with
    | false => exact absurd (no_less a b h') h
    | true => simp [h]
theorem someLess_eq' (a b : UInt64) : someLess b a 18 = !(a == b) := by
  rw [someLess_eq b a]
  by_cases h : a = b
  · subst h; rfl
  · rw [beq_eq_false_iff_ne.2 h, beq_eq_false_iff_ne.2 (Ne.symm h)]

set_option maxHeartbeats 1000000 in
theorem onetimeGuards_calls (a b : UInt64) (w : World) :
    Calls Try.prog 4 #[.agg (nameC a), .agg (nameC b)] w fun e w' => e = .returned (.bool true) ∧ Ext w w' := by
  go_enter Try.func4, Try.ntmps4
  go_upto_region 1 with (fail)
  have E : Ext w ((w.alloc (.cells (nameC a) 23)).alloc (.cells (nameC b) 23)) := by (repeat (first | exact Ext.refl _ | assumption | refine Ext.drew ?_ | refine Ext.drewN ?_ _ | refine Ext.alloc ?_ _ | refine Ext.trans ?_ (by assumption)))
  have R1 : rowAt ((w.alloc (.cells (nameC a) 23)).alloc (.cells (nameC b) 23)) w.heap.size = some (nameC a) := (rowAt_alloc _ _ _ (by simp <;> omega)).trans (rowAt_new _ _ _ _ (by simp))
  have R2 : rowAt ((w.alloc (.cells (nameC a) 23)).alloc (.cells (nameC b) 23)) (w.heap.size + 1) = some (nameC b) := rowAt_new _ _ _ _ (by simp)
  generalize ((w.alloc (.cells (nameC a) 23)).alloc (.cells (nameC b) 23)) = W at E R1 R2 ⊢
  have L1 := rowAt_lt R1
  have L2 := rowAt_lt R2
  have tok1 : True := trivial
  go_region_held3 (fun w' => rowAt w' w.heap.size = some (nameC a) ∧ rowAt w' (w.heap.size + 1) = some (nameC b) ∧ Ext w w') ((refine ⟨?_, ?_, ?_⟩ <;> (repeat (first | exact Ext.refl _ | assumption | refine Ext.drew ?_ | refine Ext.drewN ?_ _ | refine Ext.alloc ?_ _ | refine Ext.trans ?_ (by assumption) | refine rowAt_keep ?_ (by assumption) | refine cell_keep ?_ (by assumption) | (simp [go_sem]; done)))))
    (first
      | (go_at_call 15; have _t := tok1; refine (digits_calls _ _).mono ?_; rintro e w1 ⟨A1, c1, rfl, hown1, hb1⟩; clear tok1 _t)
      | (go_at_call 15; refine (digits_calls _ _).mono ?_; rintro e w2 ⟨A2, c2, rfl, hown2, hb2⟩))
  rename_i hh
  obtain ⟨r1, r2, hE⟩ := hh
  obtain ⟨g1, rfl, _, hl1, hc1⟩ := digs_cells a (own_keep hown1 hb2)
  obtain ⟨g2, rfl, _, hl2, hc2⟩ := digs_cells b hown2
  clear hown1 hown2 hb1 hb2 R1 R2 L1 L2 E
  have H1 := Lib.hid hc1
  have H2 := Lib.hid hc2
  clear hc1 hc2
  go_wp2
  go_loopw [7, 8, 9] (fun x y i wr => ∃ k : Nat, k ≤ 18 ∧ i = .int .i64 k ∧ x = .bool (someLess a b k) ∧ y = .bool (someLess b a k) ∧ Ext w2 wr) (fun _ _ i _ => 18 - (intOf i).toNat)
  case atStart => exact ⟨0, by omega, rfl, by simp [someLess], by simp [someLess], Ext.refl _⟩
  case round =>
    obtain ⟨k, hk, rfl, rfl, rfl, hx⟩ := hrel
    by_cases hlt : k < 18
    · have q1 := cell_keep (H1.out k hlt) hx
      have q2 := cell_keep (H2.out k hlt) hx
      have hi0 : (0 : Int) ≤ (k : Int) := by omega
      have hi8 : (k : Int) < 18 := by omega
      have N1 := Lib.hid (someLess_next a b k)
      have N2 := Lib.hid (someLess_next b a k)
      generalize someLess a b k = x1 at *
      generalize someLess b a k = x2 at *
      cases x1 <;> cases x2
      all_goals
        go_wp2
        go_quiet (fail)
        go_wp2
        go_roundw
        case rel => exact ⟨k + 1, by omega, by go_num, by simpa using N1.out.symm, by simpa using N2.out.symm, hx.drewN _⟩
        case measure => simp [intOf]; omega
    · obtain rfl : k = 18 := by omega
      have e1 := someLess_eq a b
      have e2 := someLess_eq' a b
      have r3 := rowAt_keep r1 hx
      have r4 := rowAt_keep r2 hx
      clear hlt hk H1 H2
      rw [e1, e2]
      clear e1 e2
      go_wp2_with (first | (go_at_call 17; refine (awake4_calls _).mono ?_; rintro e w3 ⟨rfl, hb⟩))
      go_ret
      exact ⟨rfl, (hE.trans hx).trans hb⟩
end Go.Proofs.Ytihgmdicglnndaa
