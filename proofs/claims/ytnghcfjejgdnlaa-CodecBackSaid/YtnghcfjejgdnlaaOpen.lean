/-
  How arguments that are names, numbers or byte strings are opened. No condition.
-/
import Derived.Test.YtnghcfjejgdnlaaMem
import Derived.SizedLaws
import Derived.ProofKit
import Derived.OpenShut
import Derived.ShutString
import Derived.ChangeOld
import Derived.Below
set_option linter.unusedSimpArgs false
set_option linter.unusedVariables false
set_option linter.unusedSectionVars false
namespace Go.Proofs.Ytnghcfjejgdnlaa
open Go.ChangeShapes Go.WideShapes Go.ChangeAt Go.RowKit

section
variable {H : Type} {enc : TypeId × Value → H} {P : Program} {w : World} {base : Nat} {spare : Nat → Bool} {held : Bool} {fuel : Nat} {t e : TypeId} {cs : List Value} {x : DataW H × List MemPlace}
/-- an array of n bytes -/
theorem trod_bytes {n : Nat} (ht : P.underlying t = some (.array n e)) (he : P.underlying e = some (.int .u8)) (hce : P.cellsOf e = 1) (hct : P.cellsOf t = n)
    (h : DataW.trod enc P w base spare held fuel t cs = some x) : ∃ b : Nat → UInt8, cs = (List.range n).map fun i => .int .u8 ((b i).toNat : Int) := by
  obtain ⟨xs, m, _, _, hlen, hxs, hg⟩ := DataW.trod_array ht h
  have hb : ∀ i, ∃ c : UInt8, i < n → cs[i]? = some (.int .u8 (c.toNat : Int)) := by
    intro i
    by_cases hi : i < n
    · have h1 := hg i hi
      rw [List.getElem?_eq_getElem (by omega), hce, Nat.mul_one] at h1
      obtain ⟨z, hz, _, hwf⟩ := DataW.trod_int he h1
      have hbd := bounds_u8 hwf
      obtain ⟨c, hc⟩ := u8_of z (by omega) (by omega)
      refine ⟨c, fun _ => ?_⟩
      rw [← hc]
      have h2 : ((cs.drop i).take 1)[0]? = some (.int .u8 z) := by rw [hz]; rfl
      rw [List.getElem?_take_of_lt (by omega), List.getElem?_drop] at h2
      simpa using h2
    · exact ⟨0, fun h => absurd h hi⟩
  refine ⟨fun i => Classical.choose (hb i), ?_⟩
  apply List.ext_getElem?
  intro i
  by_cases hi : i < n
  · rw [Classical.choose_spec (hb i) hi]
    simp [hi]
  · rw [List.getElem?_eq_none (by omega), List.getElem?_eq_none (by simp; omega)]
/-- a name -/
theorem trod_name (ht : P.underlying t = some (.array 8 e)) (he : P.underlying e = some (.int .u8)) (hce : P.cellsOf e = 1) (hct : P.cellsOf t = 8)
    (h : DataW.trod enc P w base spare held fuel t cs = some x) : ∃ n : UInt64, cs = (nameC n).toList := by
  obtain ⟨b, rfl⟩ := trod_bytes ht he hce hct h
  refine ⟨nameOf b, ?_⟩
  rw [nameC_nameOf]
  rfl
theorem okWide_arr {r : Reach} {b0 n : Nat} {v : Value} (ht : P.underlying t = some (.array n e)) (h : Value.okWide P w r b0 t v) : ∃ cs, v = .agg cs ∧ cs.size = P.cellsOf t := by
  simp only [Value.okWide, ht] at h
  obtain ⟨cs, h1, h2, _⟩ := h
  exact ⟨cs, h1, h2⟩
/-- an argument that is a name -/
theorem open_name {r : Reach} {b0 : Nat} {v : Value} {d : DataW H} {p : List MemPlace} (ht : P.underlying t = some (.array 8 e)) (he : P.underlying e = some (.int .u8)) (hce : P.cellsOf e = 1) (hct : P.cellsOf t = 8)
    (hv : Value.okWide P w r b0 t v) (h : DataW.Trod enc P w base spare held t v d p) : ∃ n : UInt64, v = .agg (nameC n) := by
  obtain ⟨cs, rfl, _⟩ := okWide_arr ht hv
  obtain ⟨fuel, hf⟩ := h
  obtain ⟨n, hn⟩ := trod_name ht he hce hct hf
  refine ⟨n, ?_⟩
  simp only [Value.cells] at hn
  rw [← Array.toArray_toList (xs := cs), hn]
theorem open_u64 {r : Reach} {b0 : Nat} {v : Value} {d : DataW H} {p : List MemPlace} (ht : P.underlying t = some (.int .u64)) (hv : Value.okWide P w r b0 t v) (h : DataW.Trod enc P w base spare held t v d p) :
    ∃ n : UInt64, v = .int .u64 (n.toNat : Int) := by
  obtain ⟨z, rfl, _, _, hwf⟩ := open_int ht hv h
  have hbd := bounds_u64 hwf
  obtain ⟨c, rfl⟩ := u64_of z (by omega) (by omega)
  exact ⟨c, rfl⟩
theorem open_u8 {r : Reach} {b0 : Nat} {v : Value} {d : DataW H} {p : List MemPlace} (ht : P.underlying t = some (.int .u8)) (hv : Value.okWide P w r b0 t v) (h : DataW.Trod enc P w base spare held t v d p) :
    ∃ n : UInt8, v = .int .u8 (n.toNat : Int) := by
  obtain ⟨z, rfl, _, _, hwf⟩ := open_int ht hv h
  have hbd := bounds_u8 hwf
  obtain ⟨c, rfl⟩ := u8_of z (by omega) (by omega)
  exact ⟨c, rfl⟩
theorem open_i64 {r : Reach} {b0 : Nat} {v : Value} {d : DataW H} {p : List MemPlace} (ht : P.underlying t = some (.int .i64)) (hv : Value.okWide P w r b0 t v) (h : DataW.Trod enc P w base spare held t v d p) :
    ∃ n : Int, v = .int .i64 n ∧ -9223372036854775808 ≤ n ∧ n ≤ 9223372036854775807 := by
  obtain ⟨z, rfl, _, _, hwf⟩ := open_int ht hv h
  have hbd := bounds_i64 hwf
  exact ⟨z, rfl, by omega, by omega⟩
/-- what is known of an argument that is a byte string -/
def BytesArg (w : World) (A : Option Addr) (L c : Nat) (bs : List UInt8) : Prop := bs.length = L ∧ L ≤ c ∧ c ≤ 140737488351232 ∧ Rd w A (bytesV bs) ∧ (A = none → c = 0)
theorem open_bytes {r : Reach} {b0 : Nat} {v : Value} {d : DataW H} {p : List MemPlace} (ht : P.underlying t = some (.slice e)) (he : P.underlying e = some (.int .u8)) (hce : P.cellsOf e = 1) (hby : P.bytesOf e = 1)
    (hv : Value.okWide P w r b0 t v) (h : DataW.Trod enc P w base (fun _ => true) held t v d p) (hs : ∀ elems spare, d = .slice elems spare → (elems.length + spare.length) * P.bytesOf e ≤ reachBytes) :
    ∃ A L c bs, v = .slice A L c ∧ BytesArg w A L c bs := by
  obtain ⟨a0, len, cap, rfl⟩ := okWide_slice ht hv
  obtain ⟨fuel, hf⟩ := h
  rcases open_ints ht he hce hf with ⟨hcs, _⟩ | ⟨a, l, c, zs, hcs, _, hl, hm, hz, hx, hcell, hwz⟩
  · simp [Value.cells] at hcs
    obtain ⟨rfl, rfl, rfl⟩ := hcs
    exact ⟨none, 0, 0, [], rfl, rfl, Nat.le_refl _, by omega, .inl rfl, fun _ => rfl⟩
  · simp [Value.cells] at hcs
    obtain ⟨rfl, rfl, rfl⟩ := hcs
    simp only [if_true] at hz
    have hd : d = .slice (lits .u8 (zs.take len)) (lits .u8 (zs.drop len)) := congrArg Prod.fst hx
    have hsz := hs _ _ hd
    rw [hby, Nat.mul_one] at hsz
    simp only [lits, List.length_map, List.length_take, List.length_drop, reachBytes] at hsz
    have hlen : len ≤ zs.length := by omega
    have hb : ∀ j, j < zs.length → ∃ b : UInt8, zs.getD j 0 = (b.toNat : Int) := fun j hj => by
      have hm' : zs.getD j 0 ∈ zs := by
        rw [List.getD_eq_getElem?_getD, List.getElem?_eq_getElem hj]
        exact List.getElem_mem hj
      have hbd := bounds_u8 (hwz _ hm')
      exact u8_of _ (by omega) (by omega)
    refine ⟨some a, len, cap, (zs.take len).map fun z => UInt8.ofNat z.toNat, rfl, by simp; omega, hl, by omega, ?_, fun h => by cases h⟩
    by_cases h0 : len = 0
    · subst h0; exact .inl (by simp [bytesV])
    · obtain ⟨blk, off, spot⟩ := a
      have hc0 := hcell 0 (by omega)
      have hspot : spot = none := by simpa [Addr.add] using World.cell?_spot hc0
      subst hspot
      refine .inr ⟨blk, off, rfl, fun j u hu => ?_⟩
      simp only [bytesV, List.map_map, List.getElem?_map, List.getElem?_take] at hu
      split at hu
      · rename_i hj
        have hj' : j < zs.length := by omega
        rw [List.getElem?_eq_getElem hj'] at hu
        simp only [Option.map_some, Option.some.injEq, Function.comp_apply] at hu
        obtain ⟨b, hbj⟩ := hb j hj'
        have hz2 : zs[j] = (b.toNat : Int) := by
          rw [← hbj, List.getD_eq_getElem?_getD, List.getElem?_eq_getElem hj']; rfl
        have hc := hcell j hj'
        have hadd : (⟨blk, off, none⟩ : Addr).add j = ⟨blk, off + j, none⟩ := by unfold Addr.add; split <;> simp_all
        rw [hadd, hbj] at hc
        rw [hc, ← hu, hz2, Int.toNat_natCast, UInt8.ofNat_toNat]
      · cases hu
end
end Go.Proofs.Ytnghcfjejgdnlaa
