/-
  hash.Sum and the reference's: what each call returns. Conditions: none.
-/
import Derived.Test.YtihgmdicglnndaaNum
set_option linter.unusedSimpArgs false
set_option linter.unusedVariables false
set_option linter.unusedSectionVars false
namespace Go.Proofs.Ytihgmdicglnndaa
open Go.RowKit
attribute [local go_sem ↓] Go.wp_at_zero Go.wp_at_succ

def shlU (x : UInt64) (k : Nat) : UInt64 := UInt64.ofNat (x.toNat * 2 ^ k)
def shrU (x : UInt64) (k : Nat) : UInt64 := UInt64.ofNat (x.toNat / 2 ^ k)
def rotl (x : UInt64) (k : Nat) : UInt64 := orU (shlU x k) (shrU x (64 - k))
def factor : UInt64 := 11400714819323198485
/-- one step of mixing -/
def mixU (s : UInt64 × UInt64) : UInt64 × UInt64 :=
  (mulU (rotl (addU s.1 s.2) 32) factor, xorU (rotl s.2 13) (addU s.1 s.2))

theorem wrap_ofNat (n : Nat) : IntKind.u64.wrap (n : Int) = ((UInt64.ofNat n).toNat : Int) := by
  rw [wrap_u64, UInt64.toNat_ofNat']; omega
theorem shl13 (x : UInt64) : IntKind.u64.wrap ((x.toNat : Int) * 8192) = ((shlU x 13).toNat : Int) := by
  unfold shlU; rw [← wrap_ofNat]; simp only [Nat.reducePow, Int.natCast_mul]; rfl
theorem shl32 (x : UInt64) : IntKind.u64.wrap ((x.toNat : Int) * 4294967296) = ((shlU x 32).toNat : Int) := by
  unfold shlU; rw [← wrap_ofNat]; simp only [Nat.reducePow, Int.natCast_mul]; rfl
theorem shr51 (x : UInt64) : (x.toNat : Int) / 2251799813685248 = ((shrU x 51).toNat : Int) := by
  have := x.toNat_lt
  unfold shrU; rw [UInt64.toNat_ofNat']; simp only [Nat.reducePow]; omega
theorem shr32 (x : UInt64) : (x.toNat : Int) / 4294967296 = ((shrU x 32).toNat : Int) := by
  have := x.toNat_lt
  unfold shrU; rw [UInt64.toNat_ofNat']; simp only [Nat.reducePow]; omega
theorem fac (x : UInt64) : IntKind.u64.wrap ((x.toNat : Int) * 11400714819323198485) = ((mulU x factor).toNat : Int) := by
  have := u64_mul x factor
  exact this
theorem shl13_mod (x : UInt64) : (x.toNat : Int) * 8192 % 18446744073709551616 = ((shlU x 13).toNat : Int) := by rw [← wrap_u64]; exact shl13 x
theorem shl32_mod (x : UInt64) : (x.toNat : Int) * 4294967296 % 18446744073709551616 = ((shlU x 32).toNat : Int) := by rw [← wrap_u64]; exact shl32 x
theorem fac_mod (x : UInt64) : (x.toNat : Int) * 11400714819323198485 % 18446744073709551616 = ((mulU x factor).toNat : Int) := by rw [← wrap_u64]; exact fac x
attribute [local go_sem] shl13 shl32 shr51 shr32 fac shl13_mod shl32_mod fac_mod
theorem and63a : bits .and .u64 13 63 = 13 := by decide +kernel
theorem and63b : bits .and .u64 32 63 = 32 := by decide +kernel
attribute [local go_sem] and63a and63b

set_option maxHeartbeats 400000 in
theorem rot13_calls (x : UInt64) (w : World) :
    Calls Try.prog 47 #[.int .u64 (x.toNat : Int), .int .i64 13] w fun e w' => e = .returned (.int .u64 ((rotl x 13).toNat : Int)) ∧ w = w' := by
  go_enter Try.func47, Try.ntmps47
  go_wp2
  go_ret
  exact ⟨rfl, rfl⟩
set_option maxHeartbeats 400000 in
theorem rot32_calls (x : UInt64) (w : World) :
    Calls Try.prog 47 #[.int .u64 (x.toNat : Int), .int .i64 32] w fun e w' => e = .returned (.int .u64 ((rotl x 32).toNat : Int)) ∧ w = w' := by
  go_enter Try.func47, Try.ntmps47
  go_wp2
  go_ret
  exact ⟨rfl, rfl⟩
set_option maxHeartbeats 400000 in
theorem refRot13_calls (x : UInt64) (w : World) :
    Calls Try.prog 48 #[.int .u64 (x.toNat : Int), .int .u64 13] w fun e w' => e = .returned (.int .u64 ((rotl x 13).toNat : Int)) ∧ w = w' := by
  go_enter Try.func48, Try.ntmps48
  go_wp2
  go_ret
  exact ⟨rfl, rfl⟩
set_option maxHeartbeats 400000 in
theorem refRot32_calls (x : UInt64) (w : World) :
    Calls Try.prog 48 #[.int .u64 (x.toNat : Int), .int .u64 32] w fun e w' => e = .returned (.int .u64 ((rotl x 32).toNat : Int)) ∧ w = w' := by
  go_enter Try.func48, Try.ntmps48
  go_wp2
  go_ret
  exact ⟨rfl, rfl⟩
theorem rot_calls (x : UInt64) (k : Int) (hk : k = 13 ∨ k = 32) (w : World) :
    Calls Try.prog 47 #[.int .u64 (x.toNat : Int), .int .i64 k] w fun e w' => e = .returned (.int .u64 ((rotl x k.toNat).toNat : Int)) ∧ w = w' := by
  rcases hk with rfl | rfl
  · exact rot13_calls x w
  · exact rot32_calls x w
theorem refRot_calls (x : UInt64) (k : Int) (hk : k = 13 ∨ k = 32) (w : World) :
    Calls Try.prog 48 #[.int .u64 (x.toNat : Int), .int .u64 k] w fun e w' => e = .returned (.int .u64 ((rotl x k.toNat).toNat : Int)) ∧ w = w' := by
  rcases hk with rfl | rfl
  · exact refRot13_calls x w
  · exact refRot32_calls x w
set_option maxHeartbeats 400000 in
theorem refMix_calls (x y : UInt64) (w : World) :
    Calls Try.prog 40 #[.int .u64 (x.toNat : Int), .int .u64 (y.toNat : Int)] w fun e w' => e = .returned (.tuple #[.int .u64 ((mixU (x, y)).1.toNat : Int), .int .u64 ((mixU (x, y)).2.toNat : Int)]) ∧ w = w' := by
  go_enter Try.func40, Try.ntmps40
  go_wp2_with (first | (go_at_call 48; refine (refRot_calls _ _ (by decide) _).mono ?_; rintro e w' ⟨rfl, rfl⟩))
  go_ret2
  exact ⟨rfl, rfl⟩

/-- n steps -/
def mixN : Nat → UInt64 × UInt64 → UInt64 × UInt64
  | 0, s => s
  | n + 1, s => mixU (mixN n s)
def stC (s : UInt64 × UInt64) : Array Value := #[.int .u64 (s.1.toNat : Int), .int .u64 (s.2.toNat : Int)]
/-- only block g has changed -/
def Only (g : Nat) (w w' : World) : Prop := w.grownBy w' (some g)
theorem Only.refl (g : Nat) (w : World) : Only g w w := World.grownBy.refl _ _
theorem Only.drew {g : Nat} {w v : World} (h : Only g w v) : Only g w v.drew := ⟨h.os, h.tape, h.output, h.size, h.block⟩
theorem Only.set {g : Nat} {w v : World} (h : Only g w v) (o : Nat) (x : Value) : Only g w (v.setCell ⟨g, o, none⟩ x) :=
  ⟨h.os, h.tape, h.output, by simpa [World.setCell] using h.size, fun i hi hne => (Below.heap_setCell v ⟨g, o, none⟩ x i (fun e => hne (by rw [e]))).trans (h.block i hi hne)⟩
theorem Only.ext {g : Nat} {w v u : World} (h : Only g v u) (k : Ext w v) (hg : w.heap.size ≤ g) : Ext w u := Ext.grown k h (fun _ e => by injection e with e; omega)
theorem Only.row {g j : Nat} {w v : World} {cs : Array Value} (h : Only g w v) (hj : rowAt w j = some cs) (hne : j ≠ g) : rowAt v j = some cs := by
  have hl := rowAt_lt hj
  unfold rowAt at hj ⊢
  rw [h.block j hl (fun e => hne (by injection e))]
  exact hj
theorem Only.cell {g : Nat} {w v : World} {p : Addr} {x : Value} (h : Only g w v) (hp : w.cell? p = some x) (hne : p.block ≠ g) : v.cell? p = some x :=
  (World.cell?_of_block (h.block p.block (block_lt_of_cell hp) (fun e => hne (by injection e)))).trans hp
set_option maxHeartbeats 1000000 in
theorem mix_calls (g : Nat) (s : UInt64 × UInt64) (n : Nat) (w : World) (hn : n ≤ 4) (hr : rowAt w g = some (stC s)) :
    Calls Try.prog 38 #[.pointer (some ⟨g, 0, none⟩), .int .i64 n] w fun e w' => e = .returned (.tuple #[]) ∧ rowAt w' g = some (stC (mixN n s)) ∧ Only g w w' := by
  go_enter Try.func38, Try.ntmps38
  go_wp2
  go_loopw [5] (fun i wr => ∃ k : Nat, k ≤ n ∧ i = .int .i64 k ∧ rowAt wr g = some (stC (mixN k s)) ∧ Only g w wr) (fun i _ => n - (intOf i).toNat)
  case atStart => exact ⟨0, by omega, rfl, hr, World.grownBy.refl _ _⟩
  case round =>
    obtain ⟨k, hk, rfl, hrk, hok⟩ := hrel
    clear hr
    unfold stC at hrk
    by_cases hlt : k < n
    · go_wp2
      go_region
      go_wp2
      have r1 := hrk
      have hmix : mixN (k + 1) s = mixU ((mixN k s).1, (mixN k s).2) := rfl
      generalize (mixN k s).1 = x at *
      generalize (mixN k s).2 = y at *
      have r2 : rowAt (wr.setCell ⟨g, 0, none⟩ (.int .u64 ((addU x y).toNat : Int))).drew g = some #[.int .u64 ((addU x y).toNat : Int), .int .u64 (y.toNat : Int)] := by simp [go_sem, hrk]
      have o2 : Only g w (wr.setCell ⟨g, 0, none⟩ (.int .u64 ((addU x y).toNat : Int))).drew := (hok.set _ _).drew
      generalize (wr.setCell ⟨g, 0, none⟩ (.int .u64 ((addU x y).toNat : Int))).drew = W1 at *
      clear r1 hrk hok
      go_region_with (go_at_call 47; refine (rot_calls _ _ (by decide) _).mono ?_; rintro e w' ⟨rfl, rfl⟩)
      all_goals
        have r3 : rowAt (W1.setCell ⟨g, 1, none⟩ (.int .u64 ((xorU (rotl y 13) (addU x y)).toNat : Int))).drew g = some #[.int .u64 ((addU x y).toNat : Int), .int .u64 ((xorU (rotl y 13) (addU x y)).toNat : Int)] := by simp [go_sem, r2]
        have o3 : Only g w (W1.setCell ⟨g, 1, none⟩ (.int .u64 ((xorU (rotl y 13) (addU x y)).toNat : Int))).drew := (o2.set _ _).drew
        generalize (W1.setCell ⟨g, 1, none⟩ (.int .u64 ((xorU (rotl y 13) (addU x y)).toNat : Int))).drew = W2 at *
        clear r2 o2
        go_wp2_with (go_at_call 47; refine (rot_calls _ _ (by decide) _).mono ?_; rintro e w' ⟨rfl, rfl⟩)
        go_roundw
        case rel =>
          refine ⟨k + 1, by omega, by go_num, ?_, o3.set _ _⟩
          rw [hmix]
          simp [go_sem, r3, stC, mixU]
        case measure => simp [intOf]; omega
    · obtain rfl : k = n := by omega
      go_wp2
      go_end0
      exact ⟨rfl, hrk, hok⟩
end Go.Proofs.Ytihgmdicglnndaa
