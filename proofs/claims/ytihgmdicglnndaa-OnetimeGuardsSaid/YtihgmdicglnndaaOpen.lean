/-
  How arguments that are names, numbers or byte strings are opened. No condition.
-/
import Derived.Test.YtihgmdicglnndaaCore
import Derived.ProofKit
import Derived.OpenShut
import Derived.ShutString
import Derived.ChangeOld
import Derived.Below
namespace Go.Proofs.Ytihgmdicglnndaa
open Go.ChangeShapes Go.WideShapes Go.ChangeAt Go.RowKit

section
variable {H : Type} {enc : TypeId × Value → H} {P : Program} {w : World} {base : Nat} {spare : Nat → Bool} {held : Bool} {fuel : Nat} {t e : TypeId} {cs : List Value} {x : DataW H × List MemPlace}
/-- an array of n bytes -/
theorem trod_bytes {n : Nat} (ht : P.underlying t = some (.array n e)) (he : P.underlying e = some (.int .u8)) (hce : P.cellsOf e = 1) (hct : P.cellsOf t = n)
    (h : DataW.trod enc P w base spare held fuel t cs = some x) : ∃ b : Nat → UInt8, cs = (List.range n).map fun i => .int .u8 ((b i).toNat : Int) := by
  obtain ⟨xs, m, _, _, hlen, hxs, hg⟩ := DataW.trod_array ht h
  have hb : ∀ i, ∃ c : UInt8, i < n → cs[i]? = some (.int .u8 (c.toNat : Int)) := by
    intro i
    by_cases hi : i < n
    · have h1 := hg i hi
      rw [List.getElem?_eq_getElem (by omega), hce, Nat.mul_one] at h1
      obtain ⟨z, hz, _, hwf⟩ := DataW.trod_int he h1
      have hbd := bounds_u8 hwf
      obtain ⟨c, hc⟩ := u8_of z (by omega) (by omega)
      refine ⟨c, fun _ => ?_⟩
      rw [← hc]
      have h2 : ((cs.drop i).take 1)[0]? = some (.int .u8 z) := by rw [hz]; rfl
      rw [List.getElem?_take_of_lt (by omega), List.getElem?_drop] at h2
      simpa using h2
    · exact ⟨0, fun h => absurd h hi⟩
  refine ⟨fun i => Classical.choose (hb i), ?_⟩
  apply List.ext_getElem?
  intro i
  by_cases hi : i < n
  · rw [Classical.choose_spec (hb i) hi]
    simp [hi]
  · rw [List.getElem?_eq_none (by omega), List.getElem?_eq_none (by simp; omega)]
/-- a name -/
theorem trod_name (ht : P.underlying t = some (.array 8 e)) (he : P.underlying e = some (.int .u8)) (hce : P.cellsOf e = 1) (hct : P.cellsOf t = 8)
    (h : DataW.trod enc P w base spare held fuel t cs = some x) : ∃ n : UInt64, cs = (nameC n).toList := by
  obtain ⟨b, rfl⟩ := trod_bytes ht he hce hct h
  refine ⟨nameOf b, ?_⟩
  rw [nameC_nameOf]
  rfl
theorem okWide_arr {r : Reach} {b0 n : Nat} {v : Value} (ht : P.underlying t = some (.array n e)) (h : Value.okWide P w r b0 t v) : ∃ cs, v = .agg cs ∧ cs.size = P.cellsOf t := by
  simp only [Value.okWide, ht] at h
  obtain ⟨cs, h1, h2, _⟩ := h
  exact ⟨cs, h1, h2⟩
/-- an argument that is a name -/
theorem open_name {r : Reach} {b0 : Nat} {v : Value} {d : DataW H} {p : List MemPlace} (ht : P.underlying t = some (.array 8 e)) (he : P.underlying e = some (.int .u8)) (hce : P.cellsOf e = 1) (hct : P.cellsOf t = 8)
    (hv : Value.okWide P w r b0 t v) (h : DataW.Trod enc P w base spare held t v d p) : ∃ n : UInt64, v = .agg (nameC n) := by
  obtain ⟨cs, rfl, _⟩ := okWide_arr ht hv
  obtain ⟨fuel, hf⟩ := h
  obtain ⟨n, hn⟩ := trod_name ht he hce hct hf
  refine ⟨n, ?_⟩
  simp only [Value.cells] at hn
  rw [← Array.toArray_toList (xs := cs), hn]
theorem open_u64 {r : Reach} {b0 : Nat} {v : Value} {d : DataW H} {p : List MemPlace} (ht : P.underlying t = some (.int .u64)) (hv : Value.okWide P w r b0 t v) (h : DataW.Trod enc P w base spare held t v d p) :
    ∃ n : UInt64, v = .int .u64 (n.toNat : Int) := by
  obtain ⟨z, rfl, _, _, hwf⟩ := open_int ht hv h
  have hbd := bounds_u64 hwf
  obtain ⟨c, rfl⟩ := u64_of z (by omega) (by omega)
  exact ⟨c, rfl⟩
theorem open_u8 {r : Reach} {b0 : Nat} {v : Value} {d : DataW H} {p : List MemPlace} (ht : P.underlying t = some (.int .u8)) (hv : Value.okWide P w r b0 t v) (h : DataW.Trod enc P w base spare held t v d p) :
    ∃ n : UInt8, v = .int .u8 (n.toNat : Int) := by
  obtain ⟨z, rfl, _, _, hwf⟩ := open_int ht hv h
  have hbd := bounds_u8 hwf
  obtain ⟨c, rfl⟩ := u8_of z (by omega) (by omega)
  exact ⟨c, rfl⟩
theorem open_i64 {r : Reach} {b0 : Nat} {v : Value} {d : DataW H} {p : List MemPlace} (ht : P.underlying t = some (.int .i64)) (hv : Value.okWide P w r b0 t v) (h : DataW.Trod enc P w base spare held t v d p) :
    ∃ n : Int, v = .int .i64 n ∧ -9223372036854775808 ≤ n ∧ n ≤ 9223372036854775807 := by
  obtain ⟨z, rfl, _, _, hwf⟩ := open_int ht hv h
  have hbd := bounds_i64 hwf
  exact ⟨z, rfl, by omega, by omega⟩
end
end Go.Proofs.Ytihgmdicglnndaa
