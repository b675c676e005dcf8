/-
  Plain words for the walks of this seat: names (8 bytes) as 64 bit numbers, whole blocks, worlds that have only grown. No condition.
-/
import Derived.Handy
import Derived.WalkLawsBesides
import Derived.WalkSpells
import Derived.Outline
import Derived.Lib.Hide
import Derived.Deep.RegionHeld3
import Derived.Deep.DrawnRows
import Derived.Deep.Cut
import Derived.Deep.CutRange
import Derived.Deep.QuietTactic
import Derived.BigQuiet
import Derived.ChangeKeysEq
import Derived.Deep.WholeRow
import Derived.Laws.CopyRow
set_option linter.unusedSimpArgs false
set_option linter.unusedVariables false
set_option linter.unusedSectionVars false
namespace Go.Proofs.Ytnghcfjejgdnlaa
open Go.RowKit

/-! ### Names -/
/-- byte k of a name (k = 0 the lowest) -/
def nb (n : UInt64) (k : Nat) : UInt8 := UInt8.ofNat (n.toNat / 256 ^ k)
/-- the cells of a name -/
def nameC (n : UInt64) : Array Value := #[.int .u8 ((nb n 7).toNat : Int), .int .u8 ((nb n 6).toNat : Int), .int .u8 ((nb n 5).toNat : Int), .int .u8 ((nb n 4).toNat : Int), .int .u8 ((nb n 3).toNat : Int), .int .u8 ((nb n 2).toNat : Int), .int .u8 ((nb n 1).toNat : Int), .int .u8 ((nb n 0).toNat : Int)]
/-- the bytes of a name, the highest first -/
def nameB (n : UInt64) : List UInt8 := [nb n 7, nb n 6, nb n 5, nb n 4, nb n 3, nb n 2, nb n 1, nb n 0]
/-- bytes as cells -/
def bytesV (l : List UInt8) : List Value := l.map fun c => .int .u8 (c.toNat : Int)
theorem nameC_size (n : UInt64) : (nameC n).size = 8 := by simp [nameC]
theorem nameB_length (n : UInt64) : (nameB n).length = 8 := rfl
theorem nameC_toList (n : UInt64) : (nameC n).toList = bytesV (nameB n) := rfl
theorem nameC_whole (n : UInt64) : (nameC n).extract 0 8 = nameC n := rfl
theorem nameC_at (n : UInt64) (k : Nat) (h : k < 8) : (nameC n)[k]? = some (.int .u8 ((nb n (7 - k)).toNat : Int)) := by
  match k, h with
  | 0, _ | 1, _ | 2, _ | 3, _ | 4, _ | 5, _ | 6, _ | 7, _ => rfl
theorem nameC_zero : #[Value.int .u8 0, .int .u8 0, .int .u8 0, .int .u8 0, .int .u8 0, .int .u8 0, .int .u8 0, .int .u8 0] = nameC 0 := rfl
theorem nameC_get (n : UInt64) (k : Nat) (h : k < (nameC n).size) : (nameC n)[k]'h = .int .u8 ((nb n (7 - k)).toNat : Int) := by
  have h8 : k < 8 := by rw [nameC_size] at h; exact h
  have := nameC_at n k h8
  rw [Array.getElem?_eq_getElem h] at this
  exact Option.some.inj this
theorem nb_lt (n : UInt64) (k : Nat) : (nb n k).toNat = n.toNat / 256 ^ k % 256 := by
  unfold nb; simp
theorem name_ext (a b : UInt64) (h : ∀ i, i < 8 → (nb a i).toNat = (nb b i).toNat) : a = b := by
  have ha := a.toNat_lt
  have hb := b.toNat_lt
  have h0 := h 0 (by omega); have h1 := h 1 (by omega); have h2 := h 2 (by omega); have h3 := h 3 (by omega)
  have h4 := h 4 (by omega); have h5 := h 5 (by omega); have h6 := h 6 (by omega); have h7 := h 7 (by omega)
  simp only [nb_lt] at h0 h1 h2 h3 h4 h5 h6 h7
  apply UInt64.toNat_inj.1
  simp only [Nat.reducePow] at *
  omega
/-- the number of the first k bytes -/
def topB (b : Nat → UInt8) : Nat → Nat
  | 0 => 0
  | k + 1 => topB b k * 256 + (b k).toNat
theorem topB_lt (b : Nat → UInt8) (k : Nat) : topB b k < 256 ^ k := by
  induction k with
  | zero => simp [topB]
  | succ k ih =>
    have := (b k).toNat_lt
    rw [topB, Nat.pow_succ]
    omega
theorem topB_congr (b c : Nat → UInt8) (k : Nat) (h : ∀ i, i < k → b i = c i) : topB b k = topB c k := by
  induction k with
  | zero => rfl
  | succ k ih => rw [topB, topB, ih (fun i hi => h i (by omega)), h k (by omega)]
theorem topB_zeros (b : Nat → UInt8) (k j : Nat) (h : ∀ i, k ≤ i → b i = 0) : topB b (k + j) = topB b k * 256 ^ j := by
  induction j with
  | zero => simp
  | succ j ih =>
    rw [← Nat.add_assoc, topB, ih, h (k + j) (by omega), Nat.pow_succ, Nat.mul_assoc, show (0 : UInt8).toNat = 0 from rfl, Nat.add_zero]
/-- the name of 8 bytes -/
def nameOf (b : Nat → UInt8) : UInt64 := UInt64.ofNat (topB b 8)
theorem nameOf_topB (b : Nat → UInt8) : (nameOf b).toNat = topB b 8 := by
  have := topB_lt b 8
  unfold nameOf
  rw [UInt64.toNat_ofNat']
  exact Nat.mod_eq_of_lt (by simpa using this)
theorem nameOf_toNat (b : Nat → UInt8) : (nameOf b).toNat = (b 0).toNat * 72057594037927936 + (b 1).toNat * 281474976710656 + (b 2).toNat * 1099511627776 + (b 3).toNat * 4294967296 + (b 4).toNat * 16777216 + (b 5).toNat * 65536 + (b 6).toNat * 256 + (b 7).toNat := by
  rw [nameOf_topB]
  simp only [topB]
  omega
theorem nb_nameOf (b : Nat → UInt8) (k : Nat) (h : k < 8) : nb (nameOf b) k = b (7 - k) := by
  have h0 := (b 0).toNat_lt; have h1 := (b 1).toNat_lt; have h2 := (b 2).toNat_lt; have h3 := (b 3).toNat_lt
  have h4 := (b 4).toNat_lt; have h5 := (b 5).toNat_lt; have h6 := (b 6).toNat_lt; have h7 := (b 7).toNat_lt
  apply UInt8.toNat_inj.1
  rw [nb_lt, nameOf_toNat]
  match k, h with
  | 0, _ | 1, _ | 2, _ | 3, _ | 4, _ | 5, _ | 6, _ | 7, _ => simp only [Nat.reducePow, Nat.reduceSub, Nat.sub_zero]; omega
theorem nameC_nameOf (b : Nat → UInt8) : nameC (nameOf b) = #[.int .u8 ((b 0).toNat : Int), .int .u8 ((b 1).toNat : Int), .int .u8 ((b 2).toNat : Int), .int .u8 ((b 3).toNat : Int), .int .u8 ((b 4).toNat : Int), .int .u8 ((b 5).toNat : Int), .int .u8 ((b 6).toNat : Int), .int .u8 ((b 7).toNat : Int)] := by
  unfold nameC
  rw [nb_nameOf b 7 (by omega), nb_nameOf b 6 (by omega), nb_nameOf b 5 (by omega), nb_nameOf b 4 (by omega), nb_nameOf b 3 (by omega), nb_nameOf b 2 (by omega), nb_nameOf b 1 (by omega), nb_nameOf b 0 (by omega)]

/-! ### Numbers of 64 bits -/
theorem wrap_u64 (n : Int) : IntKind.u64.wrap n = n % 18446744073709551616 := by rw [IntKind.wrap_u64]
theorem bv_u64 (x : UInt64) : BitVec.ofInt 64 (x.toNat : Int) = x.toBitVec := by
  apply BitVec.eq_of_toNat_eq
  have := x.toNat_lt
  rw [BitVec.ofInt_natCast, BitVec.toNat_ofNat, UInt64.toNat_toBitVec]
  omega
/-- the operations of numbers of 64 bits, under names of their own (so that no rule of the walk opens them) -/
def addU (x y : UInt64) : UInt64 := x + y
def mulU (x y : UInt64) : UInt64 := x * y
def xorU (x y : UInt64) : UInt64 := x ^^^ y
def orU (x y : UInt64) : UInt64 := x ||| y
def andU (x y : UInt64) : UInt64 := x &&& y
theorem u64_xor (x y : UInt64) : bits .xor .u64 (x.toNat : Int) (y.toNat : Int) = ((xorU x y).toNat : Int) := by
  unfold xorU
  show IntKind.u64.wrap ((BitVec.ofInt 64 (x.toNat : Int) ^^^ BitVec.ofInt 64 (y.toNat : Int)).toNat : Int) = _
  rw [bv_u64, bv_u64, wrap_u64, ← UInt64.toBitVec_xor, UInt64.toNat_toBitVec]
  have := (x ^^^ y).toNat_lt
  omega
theorem u64_or (x y : UInt64) : bits .or .u64 (x.toNat : Int) (y.toNat : Int) = ((orU x y).toNat : Int) := by
  unfold orU
  show IntKind.u64.wrap ((BitVec.ofInt 64 (x.toNat : Int) ||| BitVec.ofInt 64 (y.toNat : Int)).toNat : Int) = _
  rw [bv_u64, bv_u64, wrap_u64, ← UInt64.toBitVec_or, UInt64.toNat_toBitVec]
  have := (x ||| y).toNat_lt
  omega
theorem u64_and (x y : UInt64) : bits .and .u64 (x.toNat : Int) (y.toNat : Int) = ((andU x y).toNat : Int) := by
  unfold andU
  show IntKind.u64.wrap ((BitVec.ofInt 64 (x.toNat : Int) &&& BitVec.ofInt 64 (y.toNat : Int)).toNat : Int) = _
  rw [bv_u64, bv_u64, wrap_u64, ← UInt64.toBitVec_and, UInt64.toNat_toBitVec]
  have := (x &&& y).toNat_lt
  omega
theorem u64_add (x y : UInt64) : IntKind.u64.wrap ((x.toNat : Int) + (y.toNat : Int)) = ((addU x y).toNat : Int) := by
  unfold addU
  rw [wrap_u64, UInt64.toNat_add]; omega
theorem u64_mul (x y : UInt64) : IntKind.u64.wrap ((x.toNat : Int) * (y.toNat : Int)) = ((mulU x y).toNat : Int) := by
  unfold mulU
  rw [wrap_u64, UInt64.toNat_mul, ← Int.natCast_mul]; omega
theorem u64_add_mod (x y : UInt64) : ((x.toNat : Int) + (y.toNat : Int)) % 18446744073709551616 = ((addU x y).toNat : Int) := by rw [← wrap_u64]; exact u64_add x y
/-- every number of 64 bits is one -/
theorem u64_of (v : Int) (h0 : 0 ≤ v) (h1 : v < 18446744073709551616) : ∃ x : UInt64, v = (x.toNat : Int) :=
  ⟨UInt64.ofNat v.toNat, by rw [UInt64.toNat_ofNat']; omega⟩
theorem u8_of (v : Int) (h0 : 0 ≤ v) (h1 : v < 256) : ∃ x : UInt8, v = (x.toNat : Int) :=
  ⟨UInt8.ofNat v.toNat, by rw [UInt8.toNat_ofNat']; omega⟩
/-- v << 8 | c, where nothing is lost -/
theorem or_shl8 (v c : Nat) (hv : v * 256 < 18446744073709551616) (hc : c < 256) : bits .or .u64 ((v * 256 : Nat) : Int) (c : Int) = ((v * 256 + c : Nat) : Int) := by
  have e : v * 256 ||| c = v * 256 + c := by
    have := Nat.shiftLeft_add_eq_or_of_lt (b := c) (i := 8) (by omega) v
    rw [Nat.shiftLeft_eq] at this
    exact this.symm
  have h := u64_or (UInt64.ofNat (v * 256)) (UInt64.ofNat c)
  unfold orU at h
  rw [UInt64.toNat_or, UInt64.toNat_ofNat_of_lt' hv, UInt64.toNat_ofNat_of_lt' (show c < 18446744073709551616 by omega), e] at h
  exact h

/-! ### Whole blocks -/
/-- the cells of block g, if none of them is frozen -/
def rowAt (w : World) (g : Nat) : Option (Array Value) := match w.heap[g]? with | some (.cells cs _ (0, 0)) => some cs | _ => none
theorem rowAt_heap {w : World} {g : Nat} {cs : Array Value} : rowAt w g = some cs ↔ ∃ t, w.heap[g]? = some (.cells cs t (0, 0)) := by
  unfold rowAt
  constructor
  · intro h
    split at h
    · rename_i cs' t hh
      injection h with h
      subst h
      exact ⟨t, hh⟩
    · cases h
  · rintro ⟨t, h⟩
    rw [h]
    rfl
/-- does the value point to n cells of a block? -/
def isRow (n : Nat) (v : Value) (w : World) : Bool := match v with
  | .pointer (some ⟨g, o, none⟩) => match rowAt w g with | some cs => decide (o + n ≤ cs.size) | none => false
  | _ => false
def rowVal (n : Nat) (v : Value) (w : World) : Value := match v with
  | .pointer (some ⟨g, o, none⟩) => .agg (((rowAt w g).getD #[]).extract o (o + n))
  | _ => undef
theorem isRow_ptr (n g o : Nat) (w : World) : isRow n (.pointer (some ⟨g, o, none⟩)) w = match rowAt w g with | some cs => decide (o + n ≤ cs.size) | none => false := rfl
theorem rowVal_ptr (n g o : Nat) (w : World) : rowVal n (.pointer (some ⟨g, o, none⟩)) w = .agg (((rowAt w g).getD #[]).extract o (o + n)) := rfl
theorem rowAt_new (w : World) (cs : Array Value) (t : TypeId) (g : Nat) (h : g = w.heap.size) : rowAt (w.alloc (.cells cs t)) g = some cs := by
  subst h; exact rowAt_heap.2 ⟨t, heap_alloc_new w _⟩
theorem rowAt_alloc (w : World) (o : Obj) (g : Nat) (h : g < w.heap.size) : rowAt (w.alloc o) g = rowAt w g := by
  unfold rowAt; rw [Below.heap_alloc w o g h]
theorem rowAt_drew (w : World) (g : Nat) : rowAt w.drew g = rowAt w g := rfl
theorem rowAt_below {B : Nat} {w w' : World} (h : Below B w w') (g : Nat) (hg : g < B) : rowAt w' g = rowAt w g := by unfold rowAt; rw [h.block g hg]
theorem rowAt_lt {w : World} {g : Nat} {cs : Array Value} (h : rowAt w g = some cs) : g < w.heap.size := by
  unfold rowAt at h
  rcases Nat.lt_or_ge g w.heap.size with h' | h'
  · exact h'
  · rw [Array.getElem?_eq_none h'] at h; cases h
theorem rowAt_cell {w : World} {g : Nat} {cs : Array Value} (h : rowAt w g = some cs) (o : Nat) : w.cell? ⟨g, o, none⟩ = cs[o]? := by
  obtain ⟨t, h⟩ := rowAt_heap.1 h
  exact cell_of_row w g o _ t _ h
theorem rowAt_free {w : World} {g : Nat} {cs : Array Value} (h : rowAt w g = some cs) (o : Nat) : w.frozen? ⟨g, o, none⟩ = false := by
  obtain ⟨t, h⟩ := rowAt_heap.1 h
  exact frozen_of_row w g o _ t h
theorem rowAt_set {w : World} {g : Nat} {cs : Array Value} (h : rowAt w g = some cs) (o : Nat) (v : Value) : rowAt (w.setCell ⟨g, o, none⟩ v) g = some (cs.setIfInBounds o v) := by
  obtain ⟨t, h⟩ := rowAt_heap.1 h
  exact rowAt_heap.2 ⟨t, heap_setCell_same w g o cs t v h⟩
theorem rowAt_far {w : World} {g : Nat} (p : Addr) (v : Value) (h : g ≠ p.block) : rowAt (w.setCell p v) g = rowAt w g := by
  unfold rowAt; rw [heap_setCell_other w p g v h]

theorem cell_row (w : World) (g o : Nat) (h : (rowAt w g).isSome = true) : w.cell? ⟨g, o, none⟩ = ((rowAt w g).getD #[])[o]? := by
  obtain ⟨cs, hcs⟩ := Option.isSome_iff_exists.1 h
  rw [rowAt_cell hcs, hcs]; rfl
theorem free_row (w : World) (g o : Nat) (h : (rowAt w g).isSome = true) : w.frozen? ⟨g, o, none⟩ = false := by
  obtain ⟨cs, hcs⟩ := Option.isSome_iff_exists.1 h
  exact rowAt_free hcs o
theorem rowAt_put (w : World) (g o : Nat) (v : Value) (h : (rowAt w g).isSome = true) : rowAt (w.setCell ⟨g, o, none⟩ v) g = some (((rowAt w g).getD #[]).setIfInBounds o v) := by
  obtain ⟨cs, hcs⟩ := Option.isSome_iff_exists.1 h
  rw [rowAt_set hcs, hcs]; rfl

/-- cells put into a row -/
def spliceA (old : Array Value) (o : Nat) (cs : Array Value) : Array Value := (old.toList.take o ++ cs.toList ++ old.toList.drop (o + cs.size)).toArray
theorem spliceA_whole (old cs : Array Value) (h : old.size = cs.size) : spliceA old 0 cs = cs := by
  unfold spliceA
  rw [List.take_zero, List.nil_append, Nat.zero_add, List.drop_eq_nil_of_le (by simp; omega), List.append_nil, Array.toArray_toList]
theorem spliceA_size (old : Array Value) (o : Nat) (cs : Array Value) (h : o + cs.size ≤ old.size) : (spliceA old o cs).size = old.size := by
  simp [spliceA]; omega
/-- every value fills one cell -/
def allOne (cs : Array Value) : Bool := cs.toList.all Value.oneCell'
theorem allOne_lit (l : List Value) : allOne l.toArray = l.all Value.oneCell' := by unfold allOne; rfl
/-- an array or struct of n cells -/
def isAggN (n : Nat) (v : Value) : Bool := match v with | .agg cs => cs.size == n && allOne cs | _ => false
theorem isAggN_agg (n : Nat) (cs : Array Value) : isAggN n (.agg cs) = (cs.size == n && allOne cs) := rfl
theorem nameC_ones (n : UInt64) : allOne (nameC n) = true := by simp [allOne, nameC, Value.oneCell']
theorem one_int (k : IntKind) (n : Int) : (Value.int k n).oneCell' = true := rfl
theorem one_bool (b : Bool) : (Value.bool b).oneCell' = true := rfl
theorem one_string (x : ByteArray) : (Value.string x).oneCell' = true := rfl
theorem one_pointer (a : Option Addr) : (Value.pointer a).oneCell' = true := rfl
theorem one_slice (a : Option Addr) (n c : Nat) : (Value.slice a n c).oneCell' = true := rfl
def putRow (x v : Value) (w : World) : World := match x, v with
  | .pointer (some ⟨g, o, none⟩), .agg cs => w.setRow g (spliceA ((rowAt w g).getD #[]) o cs)
  | _, _ => w
theorem putRow_ptr (g o : Nat) (cs : Array Value) (w : World) : putRow (.pointer (some ⟨g, o, none⟩)) (.agg cs) w = w.setRow g (spliceA ((rowAt w g).getD #[]) o cs) := rfl
theorem setRow_new (w : World) (c c' : Array Value) (t : TypeId) (g : Nat) (h : g = w.heap.size) : (w.alloc (.cells c t)).setRow g c' = w.alloc (.cells c' t) := by
  subst h; exact World.setRow_alloc_new w c c' t
theorem rowAt_setRow (w : World) (g : Nat) (cs : Array Value) (h : (rowAt w g).isSome = true) : rowAt (w.setRow g cs) g = some cs := by
  obtain ⟨old, hcs⟩ := Option.isSome_iff_exists.1 h
  obtain ⟨t, ht⟩ := rowAt_heap.1 hcs
  exact rowAt_heap.2 ⟨t, setRow_heap w g old cs t _ ht⟩
theorem rowAt_setRow_far (w : World) (g k : Nat) (cs : Array Value) (h : k ≠ g) : rowAt (w.setRow g cs) k = rowAt w k := by
  unfold rowAt; rw [setRow_other w g k cs h]
theorem size_setRow (w : World) (g : Nat) (cs : Array Value) : (w.setRow g cs).heap.size = w.heap.size := by simp [World.setRow]

/-! ### Worlds that have only grown -/
/-- nothing that was there has changed -/
def Ext (w w' : World) : Prop := Below w.heap.size w w'
section
variable {w v u : World}
theorem Ext.refl (w : World) : Ext w w := Below.refl _ _
theorem Ext.trans (h : Ext w v) (k : Ext v u) : Ext w u := Below.trans h (Below.mono k (Below.size h))
theorem Ext.then (h : Ext w v) (k : Below w.heap.size v u) : Ext w u := Below.trans h k
theorem Ext.alloc (h : Ext w v) (o : Obj) : Ext w (v.alloc o) := Below.alloc h (Below.size h) o
theorem Ext.drew (h : Ext w v) : Ext w v.drew := Below.drew h
theorem Ext.drewN (h : Ext w v) (n : Nat) : Ext w (v.drewN n) := ⟨h.os, h.tape, h.output, h.size, h.block⟩
theorem Ext.setCell (h : Ext w v) {p : Addr} (hp : w.heap.size ≤ p.block) (x : Value) : Ext w (v.setCell p x) := Below.setCell h hp x
theorem Ext.setRow (h : Ext w v) {g : Nat} (hg : w.heap.size ≤ g) (cs : Array Value) : Ext w (v.setRow g cs) :=
  Below.trans h ⟨rfl, rfl, rfl, by simp [World.setRow], fun k hk => setRow_other v g k cs (by omega)⟩
theorem Ext.size (h : Ext w v) : w.heap.size ≤ v.heap.size := Below.size h
theorem Ext.below (h : Ext w v) : Below w.heap.size w v := h
theorem Ext.grown {row : Option Nat} (h : Ext w v) (hg : v.grownBy u row) (hr : ∀ k, row = some k → w.heap.size ≤ k) : Ext w u := Below.grown h hg (Below.size h) hr
theorem rowAt_keep {g : Nat} {cs : Array Value} (h : rowAt w g = some cs) (hb : Ext w v) : rowAt v g = some cs :=
  (rowAt_below hb g (rowAt_lt h)).trans h
theorem cell_keep {p : Addr} {x : Value} (h : w.cell? p = some x) (hb : Ext w v) : v.cell? p = some x :=
  (Below.cell hb (block_lt_of_cell h)).trans h
end

/-! ### Loading a whole array or struct; comparing names -/
section
variable {P : Program}
theorem run_loadVar_part (w : World) (t : TypeId) (g o n : Nat) (cs : Array Value) (hu : (match P.underlying t with | some (.struct _) | some (.array _ _) => true | _ => false) = true) (hi : (P.info? t).map (·.size) = some n)
    (h : rowAt w g = some cs) (hn : o + n ≤ cs.size) : (loadVar t ⟨g, o, none⟩).run P w = .ok (.agg (cs.extract o (o + n))) w := by
  obtain ⟨tt, hc⟩ := rowAt_heap.1 h
  have hl : (loadCells ⟨g, o, none⟩ (cs.extract o (o + n)).toList.length).run P w = .ok (cs.extract o (o + n)).toList.toArray w :=
    run_loadCells_list (P := P) w ⟨g, o, none⟩ (cs.extract o (o + n)).toList (fun j v hv => by
      have hadd : (⟨g, o, none⟩ : Addr).add j = ⟨g, o + j, none⟩ := by unfold Addr.add; split <;> simp_all
      rw [hadd, cell_of_row w g (o + j) cs tt _ hc]
      simp only [Array.getElem?_toList, Array.getElem?_extract] at hv
      split at hv
      · exact hv
      · cases hv)
  simp only [Array.length_toList, Array.toArray_toList, Array.size_extract] at hl
  rw [show min (o + n) cs.size - o = n from by omega] at hl
  cases hd : P.underlying t with
  | none => simp [hd] at hu
  | some d =>
    have hagg : (isAgg t).run P w = .ok true w := by
      unfold isAgg
      rw [Sem.run_bind, run_underlying hd w]
      rw [hd] at hu
      cases d <;> simp_all
    cases hq : P.info? t with
    | none => simp [hq] at hi
    | some i =>
      have hs : i.size = n := by simpa [hq] using hi
      simp [loadVar, Sem.run_bind, hagg, sizeOf, typeInfo, hq, hs, hl]

theorem exec_load_agg (t n : Nat) (hu : (match P.underlying t with | some (.struct _) | some (.array _ _) => true | _ => false) = true) (hi : (P.info? t).map (·.size) = some n)
    (dst : Option Tmp) (x : Operand) (ty : TypeId) (pos : String) (after : Array Edge) (gd : Option (Nat × Bool)) (ρ : Operand → Value) (w : World)
    (h : isRow n (ρ x) w = true) : (execOp ρ ⟨dst, .load t x, ty, pos, after, gd⟩).run P w = .ok (.value (rowVal n (ρ x) w)) w := by
  unfold isRow at h
  unfold rowVal
  unfold execOp
  split at h
  · rename_i g o hx
    simp only [hx]
    split at h
    · rename_i cs hcs
      simp only [decide_eq_true_eq] at h
      simp only [Instr.loadAt, Instr.sureAddr, Sem.run_bind, Sem.run_pure, Result.andThen_ok, run_loadVar_part w t g o n cs hu hi hcs h, hcs, Option.getD_some]
    · cases h
  · cases h

theorem exec_store_agg (t n : Nat) (hi : (P.info? t).map (·.size) = some n)
    (dst : Option Tmp) (x y : Operand) (ty : TypeId) (pos : String) (after : Array Edge) (gd : Option (Nat × Bool)) (ρ : Operand → Value) (w : World)
    (h : isRow n (ρ x) w = true) (hv : isAggN n (ρ y) = true) : (execOp ρ ⟨dst, .store t x y, ty, pos, after, gd⟩).run P w = .ok .skip (putRow (ρ x) (ρ y) w) := by
  unfold isRow at h
  unfold isAggN at hv
  unfold execOp
  split at h
  · rename_i g o hx
    simp only [hx]
    split at h
    · rename_i old hcs
      simp only [decide_eq_true_eq] at h
      split at hv
      · rename_i cs hy
        simp only [hy, putRow]
        simp only [Bool.and_eq_true, beq_iff_eq, allOne, List.all_eq_true] at hv
        obtain ⟨hsz, hone⟩ := hv
        obtain ⟨tt, hc⟩ := rowAt_heap.1 hcs
        have hst := run_storeCells_at P g o tt cs.toList 0 old w hc (by simp; omega) (fun v hv => hone v hv)
        cases hq : P.info? t with
        | none => simp [hq] at hi
        | some i =>
          have hs : i.size = n := by simpa [hq] using hi
          simp only [Nat.add_zero, Array.length_toList] at hst
          simp [Instr.storeAt, Instr.sureAddr, storeVar, Sem.run_bind, sizeOf, typeInfo, hq, hs, Value.cells, hsz, hst, hcs, spliceA]
      · cases hv
    · cases h
  · cases h

theorem run_results_cell {fn : Func} {p : Tmp} {t : TypeId} (hr : fn.results = #[.cell p t]) (n : Nat) (hu : (match P.underlying t with | some (.struct _) | some (.array _ _) => true | _ => false) = true) (hi : (P.info? t).map (·.size) = some n)
    (tmps : Array Value) (w : World) (h : isRow n (tmps.getD p undef) w = true) : (results fn tmps).run P w = .ok (rowVal n (tmps.getD p undef) w) w := by
  unfold isRow at h
  unfold rowVal
  split at h
  · rename_i g o hx
    split at h
    · rename_i cs hcs
      simp only [decide_eq_true_eq] at h
      have hx' : tmps[p]?.getD undef = .pointer (some ⟨g, o, none⟩) := by simpa using hx
      simp [results, hr, hx', asAddr, run_loadVar_part w t g o n cs hu hi hcs h, hcs]
    · cases h
  · cases h
theorem run_results_cell_tmp {fn : Func} {p q : Tmp} {t : TypeId} (hr : fn.results = #[.cell p t, .tmp q]) (n : Nat) (hu : (match P.underlying t with | some (.struct _) | some (.array _ _) => true | _ => false) = true) (hi : (P.info? t).map (·.size) = some n)
    (tmps : Array Value) (w : World) (h : isRow n (tmps.getD p undef) w = true) : (results fn tmps).run P w = .ok (.tuple #[rowVal n (tmps.getD p undef) w, tmps.getD q undef]) w := by
  unfold isRow at h
  unfold rowVal
  split at h
  · rename_i g o hx
    split at h
    · rename_i cs hcs
      simp only [decide_eq_true_eq] at h
      have hx' : tmps[p]?.getD undef = .pointer (some ⟨g, o, none⟩) := by simpa using hx
      simp [results, hr, hx', asAddr, run_loadVar_part w t g o n cs hu hi hcs h, hcs]
    · cases h
  · cases h

theorem run_eqItems_ints (d : Nat) (w : World) {e : TypeId} {k : IntKind} (he : P.underlying e = some (.int k)) (xs ys : Array Value) (A B : Nat → Int) : ∀ is : List Nat,
    (∀ i ∈ is, xs[i]? = some (.int k (A i)) ∧ ys[i]? = some (.int k (B i))) → (Op.eqItems (d + 1) e 1 xs ys is).run P w = .ok (is.all fun i => A i == B i) w
  | [], _ => by simp [Op.eqItems]
  | i :: is, h => by
    have h1 := h i (by simp)
    have hag : (isAgg e).run P w = .ok false w := by unfold isAgg; rw [Sem.run_bind, run_underlying he w]; simp
    have p1 : (part e xs (i * 1)).run P w = .ok (.int k (A i)) w := by simp [part, Sem.run_bind, hag, h1.1]
    have p2 : (part e ys (i * 1)).run P w = .ok (.int k (B i)) w := by simp [part, Sem.run_bind, hag, h1.2]
    simp only [Op.eqItems, Sem.run_bind, p1, p2, Result.andThen_ok, run_equalIn_int w d e k k _ _ he]
    rw [List.all_cons]
    cases hb : (A i == B i)
    · simp
    · simp only [Bool.not_true, Bool.false_eq_true, if_false, Bool.true_and]
      exact run_eqItems_ints d w he xs ys A B is (fun j hj => h j (by simp [hj]))
theorem run_eq_name (w : World) (d : Nat) {t e : TypeId} (hu : P.underlying t = some (.array 8 e)) (hi : (P.info? e).isSome = true) (he : P.underlying e = some (.int .u8)) (hc : P.cellsOf e = 1) (a b : UInt64) :
    (Op.equalIn (d + 2) t (.agg (nameC a)) (.agg (nameC b))).run P w = .ok (a == b) w := by
  obtain ⟨i, hi⟩ := Option.isSome_iff_exists.1 hi
  rw [run_equalIn_array w (d + 1) _ _ hu hi, hc, run_eqItems_ints d w he _ _ (fun i => ((nb a (7 - i)).toNat : Int)) (fun i => ((nb b (7 - i)).toNat : Int)) _ ?_]
  · congr 1
    rw [Bool.eq_iff_iff]
    simp only [List.all_eq_true, List.mem_range, beq_iff_eq]
    constructor
    · intro h
      refine name_ext a b fun i hi => ?_
      have := h (7 - i) (by omega)
      rw [show 7 - (7 - i) = i from by omega] at this
      omega
    · rintro rfl i _; rfl
  · intro i hi
    simp only [List.mem_range] at hi
    exact ⟨nameC_at a i hi, nameC_at b i hi⟩
theorem run_index_name (w : World) {t e : TypeId} (hu : P.underlying t = some (.array 8 e)) (hi : (P.info? e).map (·.size) = some 1) (he : P.underlying e = some (.int .u8)) (n : UInt64) (k : Int) (h0 : 0 ≤ k) (h8 : k < 8) :
    (Instr.index t (.agg (nameC n)) (.int .i64 k)).run P w = .ok (.int .u8 ((nb n (7 - k.toNat)).toNat : Int)) w := by
  have hag : (isAgg e).run P w = .ok false w := by unfold isAgg; rw [Sem.run_bind, run_underlying he w]; simp
  cases hq : P.info? e with
  | none => simp [hq] at hi
  | some i =>
    have hs : i.size = 1 := by simpa [hq] using hi
    have hk := nameC_at n k.toNat (by omega)
    simp [Instr.index, asIntOf, run_underlying hu, h0, h8, sizeOf, typeInfo, hq, hs, part, hag, hk]
end
end Go.Proofs.Ytnghcfjejgdnlaa
