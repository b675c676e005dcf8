/-
  hash.word and the reference's: the number of the first 8 bytes. Conditions: none.
-/
import Derived.Test.YtihgmdicglnndaaHash
set_option linter.unusedSimpArgs false
set_option linter.unusedVariables false
set_option linter.unusedSectionVars false
namespace Go.Proofs.Ytihgmdicglnndaa
open Go.RowKit
attribute [local go_sem ↓] Go.wp_at_zero Go.wp_at_succ

/-- the number of the first 8 bytes, with zeros behind the last one -/
def wordOf (bs : List UInt8) : UInt64 := nameOf fun i => bs.getD i 0
/-- a byte at its place -/
def sh (c : UInt8) (k : Nat) : UInt64 := UInt64.ofNat (c.toNat * 256 ^ k)
theorem sh_toNat (c : UInt8) (k : Nat) (h : k ≤ 7) : (sh c k).toNat = c.toNat * 256 ^ k := by
  have hc := c.toNat_lt
  unfold sh
  rw [UInt64.toNat_ofNat']
  match k, h with
  | 0, _ | 1, _ | 2, _ | 3, _ | 4, _ | 5, _ | 6, _ | 7, _ => simp only [Nat.reducePow]; omega
theorem shB (c : UInt8) (k : Nat) (m : Int) (hm : m = ((256 ^ k : Nat) : Int)) : IntKind.u64.wrap ((c.toNat : Int) * m) = ((sh c k).toNat : Int) := by
  subst hm
  unfold sh
  rw [← wrap_ofNat, Int.natCast_mul]
theorem shB7 (c : UInt8) : IntKind.u64.wrap ((c.toNat : Int) * 72057594037927936) = ((sh c 7).toNat : Int) := shB c 7 _ rfl
theorem shB6 (c : UInt8) : IntKind.u64.wrap ((c.toNat : Int) * 281474976710656) = ((sh c 6).toNat : Int) := shB c 6 _ rfl
theorem shB5 (c : UInt8) : IntKind.u64.wrap ((c.toNat : Int) * 1099511627776) = ((sh c 5).toNat : Int) := shB c 5 _ rfl
theorem shB4 (c : UInt8) : IntKind.u64.wrap ((c.toNat : Int) * 4294967296) = ((sh c 4).toNat : Int) := shB c 4 _ rfl
theorem shB3 (c : UInt8) : IntKind.u64.wrap ((c.toNat : Int) * 16777216) = ((sh c 3).toNat : Int) := shB c 3 _ rfl
theorem shB2 (c : UInt8) : IntKind.u64.wrap ((c.toNat : Int) * 65536) = ((sh c 2).toNat : Int) := shB c 2 _ rfl
theorem shB1 (c : UInt8) : IntKind.u64.wrap ((c.toNat : Int) * 256) = ((sh c 1).toNat : Int) := shB c 1 _ rfl
theorem u8_u64 (c : UInt8) : IntKind.u64.wrap (c.toNat : Int) = (c.toNat : Int) := by
  have := c.toNat_lt
  rw [wrap_u64]; omega
theorem or_u8 (x : UInt64) (c : UInt8) : bits .or .u64 (x.toNat : Int) (c.toNat : Int) = ((orU x (sh c 0)).toNat : Int) := by
  rw [← u64_or, sh_toNat c 0 (by omega)]; simp
attribute [local go_sem] shB7 shB6 shB5 shB4 shB3 shB2 shB1 u8_u64 or_u8
/-- bytes behind one another -/
theorem or_next (q c k : Nat) (hc : c < 256) : q * 256 ^ (k + 1) ||| c * 256 ^ k = (q * 256 + c) * 256 ^ k := by
  have e : (256 : Nat) ^ k = 2 ^ (8 * k) := by rw [show (256 : Nat) = 2 ^ 8 from rfl, ← Nat.pow_mul]
  have h1 : q * 256 ||| c = q * 256 + c := by
    have := Nat.shiftLeft_add_eq_or_of_lt (b := c) (i := 8) (by omega) q
    rw [Nat.shiftLeft_eq] at this
    exact this.symm
  rw [Nat.pow_succ, Nat.mul_comm (256 ^ k) 256, ← Nat.mul_assoc, e, ← Nat.shiftLeft_eq, ← Nat.shiftLeft_eq, ← Nat.shiftLeft_eq, ← Nat.shiftLeft_or_distrib, h1]
theorem orU_toNat (x y : UInt64) : (orU x y).toNat = x.toNat ||| y.toNat := by unfold orU; rw [UInt64.toNat_or]
/-- the eight bytes put together -/
def or8 (b : Nat → UInt8) : UInt64 := orU (orU (orU (orU (orU (orU (orU (sh (b 0) 7) (sh (b 1) 6)) (sh (b 2) 5)) (sh (b 3) 4)) (sh (b 4) 3)) (sh (b 5) 2)) (sh (b 6) 1)) (sh (b 7) 0)
theorem or8_eq (b : Nat → UInt8) : or8 b = nameOf b := by
  have h1 := (b 1).toNat_lt; have h2 := (b 2).toNat_lt; have h3 := (b 3).toNat_lt
  have h4 := (b 4).toNat_lt; have h5 := (b 5).toNat_lt; have h6 := (b 6).toNat_lt; have h7 := (b 7).toNat_lt
  apply UInt64.toNat_inj.1
  unfold or8
  simp only [orU_toNat]
  rw [sh_toNat _ 7 (by omega), sh_toNat _ 6 (by omega), sh_toNat _ 5 (by omega), sh_toNat _ 4 (by omega), sh_toNat _ 3 (by omega), sh_toNat _ 2 (by omega), sh_toNat _ 1 (by omega), sh_toNat _ 0 (by omega),
    or_next _ _ 6 h1, or_next _ _ 5 h2, or_next _ _ 4 h3, or_next _ _ 3 h4, or_next _ _ 2 h5, or_next _ _ 1 h6, or_next _ _ 0 h7, nameOf_toNat]
  omega

theorem bytesV_at (bs : List UInt8) (j : Nat) (h : j < bs.length) : (bytesV bs)[j]? = some (.int .u8 ((bs.getD j 0).toNat : Int)) := by
  simp [bytesV, List.getElem?_map, List.getElem?_eq_getElem h, List.getD_eq_getElem?_getD]
theorem bytesV_length (bs : List UInt8) : (bytesV bs).length = bs.length := by simp [bytesV]

theorem bytesV_ne (bs : List UInt8) (h : 0 < bs.length) : bytesV bs ≠ [] := by
  intro e
  have := congrArg List.length e
  rw [bytesV_length] at this
  simp only [List.length_nil] at this
  omega
set_option maxRecDepth 100000 in
set_option maxHeartbeats 1000000 in
theorem word8_calls (g o c n : Nat) (b : Nat → UInt8) (w : World) (hn : 8 ≤ n) (hc : ∀ j, j < 8 → w.cell? ⟨g, o + j, none⟩ = some (.int .u8 ((b j).toNat : Int))) :
    Calls Try.prog 37 #[.slice (some ⟨g, o, none⟩) n c] w fun e w' => e = .returned (.int .u64 ((or8 b).toNat : Int)) ∧ Ext w w' := by
  have q0 := hc 0 (by omega); have q1 := hc 1 (by omega); have q2 := hc 2 (by omega); have q3 := hc 3 (by omega)
  have q4 := hc 4 (by omega); have q5 := hc 5 (by omega); have q6 := hc 6 (by omega); have q7 := hc 7 (by omega)
  clear hc
  simp only [Nat.add_zero] at q0
  have hi : (8 : Int) ≤ (n : Int) := by omega
  have i0 : (0 : Int) < (n : Int) := by omega
  have i1 : (1 : Int) < (n : Int) := by omega
  have i2 : (2 : Int) < (n : Int) := by omega
  have i3 : (3 : Int) < (n : Int) := by omega
  have i4 : (4 : Int) < (n : Int) := by omega
  have i5 : (5 : Int) < (n : Int) := by omega
  have i6 : (6 : Int) < (n : Int) := by omega
  have i7 : (7 : Int) < (n : Int) := by omega
  unfold or8
  generalize b 0 = b0 at *
  generalize b 1 = b1 at *
  generalize b 2 = b2 at *
  generalize b 3 = b3 at *
  generalize b 4 = b4 at *
  generalize b 5 = b5 at *
  generalize b 6 = b6 at *
  generalize b 7 = b7 at *
  go_enter Try.func37, Try.ntmps37
  go_wp2
  go_quiet (fail)
  go_wp2
  go_ret
  exact ⟨rfl, (Ext.refl w).drewN _⟩
theorem splice_name (bs : List UInt8) (h : bs.length ≤ 8) : spliceA (nameC 0) 0 ((bytesV bs).take 8).toArray = nameC (wordOf bs) := by
  unfold wordOf
  rw [nameC_nameOf, List.take_of_length_le (by rw [bytesV_length]; exact h)]
  match bs, h with
  | [], _ | [_], _ | [_, _], _ | [_, _, _], _ | [_, _, _, _], _ | [_, _, _, _, _], _ | [_, _, _, _, _, _], _ | [_, _, _, _, _, _, _], _ | [_, _, _, _, _, _, _, _], _ => rfl
set_option maxHeartbeats 1000000 in
theorem wordS_calls (A : Option Addr) (c : Nat) (bs : List UInt8) (w : World) (hn : bs.length < 8) (hr : Rd w A (bytesV bs)) :
    Calls Try.prog 37 #[.slice A bs.length c] w fun e w' => e = .returned (.int .u64 ((wordOf bs).toNat : Int)) ∧ Ext w w' := by
  have hlen : ¬ (8 : Int) ≤ (bs.length : Int) := by omega
  have hcp := fun ty => run_cp (P := Try.prog) (sT := 34) (ty := ty) (dc := 8) (c := c) Try.underlying34 (by kernel_rfl) (rowAt_new w (nameC 0) 23 w.heap.size rfl) (hr.keep ((Ext.refl w).alloc _)) (bytesV_length bs) (ones_bytes bs) (by simp [nameC_size]) _ (splice_name bs (by omega))
  generalize bs.length = L at *
  go_enter Try.func37, Try.ntmps37
  go_wp2_with (go_at_call 19; refine (number_calls _ _).mono ?_; rintro e w' ⟨rfl, hb⟩)
  go_ret
  exact ⟨rfl, ((Ext.refl w).alloc _).trans hb⟩
theorem word_calls (A : Option Addr) (c : Nat) (bs : List UInt8) (w : World) (hr : Rd w A (bytesV bs)) :
    Calls Try.prog 37 #[.slice A bs.length c] w fun e w' => e = .returned (.int .u64 ((wordOf bs).toNat : Int)) ∧ Ext w w' := by
  by_cases hn : bs.length < 8
  · exact wordS_calls A c bs w hn hr
  · obtain ⟨g, o, rfl, hc⟩ := hr.at (bytesV_ne bs (by omega))
    have := word8_calls g o c bs.length (fun i => bs.getD i 0) w (by omega) (fun j hj => hc j _ (bytesV_at bs j (by omega)))
    rw [or8_eq] at this
    exact this

set_option maxRecDepth 100000 in
set_option maxHeartbeats 1000000 in
theorem refWord8_calls (g o c n : Nat) (b : Nat → UInt8) (w : World) (hn : 8 ≤ n) (hc : ∀ j, j < 8 → w.cell? ⟨g, o + j, none⟩ = some (.int .u8 ((b j).toNat : Int))) :
    Calls Try.prog 39 #[.slice (some ⟨g, o, none⟩) n c] w fun e w' => e = .returned (.int .u64 ((or8 b).toNat : Int)) ∧ Ext w w' := by
  have q0 := hc 0 (by omega); have q1 := hc 1 (by omega); have q2 := hc 2 (by omega); have q3 := hc 3 (by omega)
  have q4 := hc 4 (by omega); have q5 := hc 5 (by omega); have q6 := hc 6 (by omega); have q7 := hc 7 (by omega)
  clear hc
  simp only [Nat.add_zero] at q0
  have hi : (8 : Int) ≤ (n : Int) := by omega
  have i0 : (0 : Int) < (n : Int) := by omega
  have i1 : (1 : Int) < (n : Int) := by omega
  have i2 : (2 : Int) < (n : Int) := by omega
  have i3 : (3 : Int) < (n : Int) := by omega
  have i4 : (4 : Int) < (n : Int) := by omega
  have i5 : (5 : Int) < (n : Int) := by omega
  have i6 : (6 : Int) < (n : Int) := by omega
  have i7 : (7 : Int) < (n : Int) := by omega
  unfold or8
  generalize b 0 = b0 at *
  generalize b 1 = b1 at *
  generalize b 2 = b2 at *
  generalize b 3 = b3 at *
  generalize b 4 = b4 at *
  generalize b 5 = b5 at *
  generalize b 6 = b6 at *
  generalize b 7 = b7 at *
  go_enter Try.func39, Try.ntmps39
  go_wp2
  go_quiet (fail)
  go_wp2
  go_ret
  exact ⟨rfl, (Ext.refl w).drewN _⟩
/-- the first k of at most 8 bytes -/
def wordK (bs : List UInt8) (k : Nat) : UInt64 := wordOf (bs.take k)
theorem take_getD (bs : List UInt8) (k i : Nat) : (bs.take k).getD i 0 = if i < k then bs.getD i 0 else 0 := by
  rw [List.getD_eq_getElem?_getD, List.getElem?_take]
  split
  · rw [List.getD_eq_getElem?_getD]
  · rfl
theorem wordK_toNat (bs : List UInt8) (k : Nat) (h : k ≤ 8) : (wordK bs k).toNat = topB (fun i => bs.getD i 0) k * 256 ^ (8 - k) := by
  unfold wordK wordOf
  rw [nameOf_topB]
  have h1 := topB_zeros (fun i => (bs.take k).getD i 0) k (8 - k) (fun i hi => by show (bs.take k).getD i 0 = 0; rw [take_getD, if_neg (by omega)])
  rw [show k + (8 - k) = 8 from by omega] at h1
  rw [h1, topB_congr _ (fun i => bs.getD i 0) k (fun i hi => by show (bs.take k).getD i 0 = bs.getD i 0; rw [take_getD, if_pos hi])]
theorem wordK_zero (bs : List UInt8) : (wordK bs 0).toNat = 0 := by rw [wordK_toNat bs 0 (by omega)]; simp [topB]
theorem wordK_next (bs : List UInt8) (k : Nat) (h : k < 8) :
    bits .or .u64 ((wordK bs k).toNat : Int) (IntKind.u64.wrap (((bs[k]?.getD 0).toNat : Int) * 2 ^ (56 - 8 * k))) = ((wordK bs (k + 1)).toNat : Int) := by
  have hc := (bs.getD k 0).toNat_lt
  have e0 : (256 : Nat) ^ (7 - k) = 2 ^ (56 - 8 * k) := by
    rw [show (256 : Nat) = 2 ^ 8 from rfl, ← Nat.pow_mul]
    congr 1
    omega
  have e1 : (2 : Int) ^ (56 - 8 * k) = ((256 ^ (7 - k) : Nat) : Int) := by rw [e0, Int.natCast_pow]; rfl
  clear e0
  rw [← List.getD_eq_getElem?_getD, shB _ (7 - k) _ e1, u64_or]
  congr 1
  rw [orU_toNat, wordK_toNat bs k (by omega), wordK_toNat bs (k + 1) (by omega), sh_toNat _ _ (by omega), show 8 - k = (7 - k) + 1 from by omega, or_next _ _ _ hc, show 8 - (k + 1) = 7 - k from by omega, topB]
set_option maxHeartbeats 1000000 in
theorem refWordS_calls (A : Option Addr) (c : Nat) (bs : List UInt8) (w : World) (hn : bs.length < 8) (hr : Rd w A (bytesV bs)) :
    Calls Try.prog 39 #[.slice A bs.length c] w fun e w' => e = .returned (.int .u64 ((wordOf bs).toNat : Int)) ∧ Ext w w' := by
  have hlen : ¬ (8 : Int) ≤ (bs.length : Int) := by omega
  generalize hL : bs.length = L at *
  have HL := Lib.hid hL
  clear hL
  go_enter Try.func39, Try.ntmps39
  go_wp2
  go_loop [3, 4] (fun v i => ∃ k : Nat, k ≤ L ∧ i = .int .i64 k ∧ v = .int .u64 ((wordK bs k).toNat : Int)) (fun _ i => L - (intOf i).toNat)
  case atStart => exact ⟨0, by omega, rfl, by rw [wordK_zero]; rfl⟩
  case round =>
    obtain ⟨k, hk, rfl, rfl⟩ := hrel
    by_cases hlt : k < L
    · obtain ⟨g, o, rfl, hc⟩ := hr.at (bytesV_ne bs (by rw [HL.out]; omega))
      have q1 := hc k _ (bytesV_at bs k (by rw [HL.out]; exact hlt))
      have Hr := Lib.hid hr
      have Hc := Lib.hid hc
      clear hr hc
      go_wp2
      go_round
      case rel => exact ⟨k + 1, by omega, by go_num, by rw [wordK_next bs k (by omega)]⟩
      case measure => simp [intOf]; omega
    · obtain rfl : k = L := by omega
      go_wp2
      go_ret
      refine ⟨?_, Ext.refl w⟩
      rw [show wordK bs k = wordOf bs from by unfold wordK; rw [← HL.out, List.take_length]]
      rfl
theorem refWord_calls (A : Option Addr) (c : Nat) (bs : List UInt8) (w : World) (hr : Rd w A (bytesV bs)) :
    Calls Try.prog 39 #[.slice A bs.length c] w fun e w' => e = .returned (.int .u64 ((wordOf bs).toNat : Int)) ∧ Ext w w' := by
  by_cases hn : bs.length < 8
  · exact refWordS_calls A c bs w hn hr
  · obtain ⟨g, o, rfl, hc⟩ := hr.at (bytesV_ne bs (by omega))
    have := refWord8_calls g o c bs.length (fun i => bs.getD i 0) w (by omega) (fun j hj => hc j _ (bytesV_at bs j (by omega)))
    rw [or8_eq] at this
    exact this
end Go.Proofs.Ytihgmdicglnndaa
