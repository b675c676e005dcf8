/-
  The contracts of the hash functions in the program logic, the hash itself a letter. Conditions: lengths below 2^47.
-/
import Derived.Test.YtihgmdicglnndaaBri
import Derived.Test.YtihgmdicglnndaaTag
set_option linter.unusedSimpArgs false
set_option linter.unusedVariables false
set_option linter.unusedSectionVars false
namespace Go.Proofs.Ytihgmdicglnndaa
open Go.RowKit

structure HashF (S : List UInt8 → UInt64) : Prop where
  sum : ∀ (bs : List UInt8) (n : Nat) (f : Bool), bs.length = n → n ≤ 281474976710656 → Fresh Try.prog 25 [.ex n f (byA bs)] (fun _ => .v (.agg (nameC (S bs)))) []
  tagged : ∀ (tag : UInt8) (bs : List UInt8) (n : Nat) (f : Bool), bs.length = n → n ≤ 140737488355000 → Fresh Try.prog 27 [.v (.int .u8 (tag.toNat : Int)), .ex n f (byA bs)] (fun _ => .v (.agg (nameC (S (tag :: bs))))) []
  pair : ∀ (tag : UInt8) (x y : UInt64), Fresh Try.prog 28 [.v (.int .u8 (tag.toNat : Int)), .v (.agg (nameC x)), .v (.agg (nameC y))] (fun _ => .v (.agg (nameC (S (tag :: (nameB x ++ nameB y)))))) []
  refSum : ∀ (bs : List UInt8) (n : Nat) (f : Bool), bs.length = n → n ≤ 281474976710656 → Fresh Try.prog 26 [.ex n f (byA bs)] (fun _ => .v (.agg (nameC (S bs)))) []
  refTagged : ∀ (tag : UInt8) (bs : List UInt8) (n : Nat) (f : Bool), bs.length = n → n ≤ 140737488355000 → Fresh Try.prog 29 [.v (.int .u8 (tag.toNat : Int)), .ex n f (byA bs)] (fun _ => .v (.agg (nameC (S (tag :: bs))))) []
theorem sum_f (bs : List UInt8) (n : Nat) (f : Bool) (h : bs.length = n) (hn : n ≤ 281474976710656) : Fresh Try.prog 25 [.ex n f (byA bs)] (fun _ => .v (.agg (nameC (sumN bs)))) [] := .of_calls fun w xs E hw hx => by
  obtain ⟨x, rfl, h1⟩ := arg1 hx
  obtain ⟨A, c, rfl, hc, hr⟩ := ex_bytes h1
  subst hw
  exact sum_calls A n c bs E.w h hc hn hr
theorem refSum_f (bs : List UInt8) (n : Nat) (f : Bool) (h : bs.length = n) (hn : n ≤ 281474976710656) : Fresh Try.prog 26 [.ex n f (byA bs)] (fun _ => .v (.agg (nameC (sumN bs)))) [] := .of_calls fun w xs E hw hx => by
  obtain ⟨x, rfl, h1⟩ := arg1 hx
  obtain ⟨A, c, rfl, hc, hr⟩ := ex_bytes h1
  subst hw
  exact refSum_calls A n c bs E.w h hc hn hr
theorem tagged_f (tag : UInt8) (bs : List UInt8) (n : Nat) (f : Bool) (h : bs.length = n) (hn : n ≤ 140737488355000) : Fresh Try.prog 27 [.v (.int .u8 (tag.toNat : Int)), .ex n f (byA bs)] (fun _ => .v (.agg (nameC (sumN (tag :: bs))))) [] := .of_calls fun w xs E hw hx => by
  obtain ⟨x, y, rfl, h1, h2⟩ := arg2 hx
  obtain ⟨A, c, rfl, hc, hr⟩ := ex_bytes h2
  rw [h1.v_inv]
  subst hw
  exact tagged_calls tag A n c bs E.w h hn hr
theorem refTagged_f (tag : UInt8) (bs : List UInt8) (n : Nat) (f : Bool) (h : bs.length = n) (hn : n ≤ 140737488355000) : Fresh Try.prog 29 [.v (.int .u8 (tag.toNat : Int)), .ex n f (byA bs)] (fun _ => .v (.agg (nameC (sumN (tag :: bs))))) [] := .of_calls fun w xs E hw hx => by
  obtain ⟨x, y, rfl, h1, h2⟩ := arg2 hx
  obtain ⟨A, c, rfl, hc, hr⟩ := ex_bytes h2
  rw [h1.v_inv]
  subst hw
  exact refTagged_calls tag A n c bs E.w h hn hr
theorem pair_f (tag : UInt8) (x y : UInt64) : Fresh Try.prog 28 [.v (.int .u8 (tag.toNat : Int)), .v (.agg (nameC x)), .v (.agg (nameC y))] (fun _ => .v (.agg (nameC (sumN (tag :: (nameB x ++ nameB y)))))) [] := .of_calls fun w xs E hw hx => by
  obtain ⟨a, b, c, rfl, h1, h2, h3⟩ := arg3 hx
  rw [h1.v_inv, h2.v_inv, h3.v_inv]
  exact pair_calls tag x y w
theorem hashF : HashF sumN := ⟨sum_f, tagged_f, pair_f, refSum_f, refTagged_f⟩
end Go.Proofs.Ytihgmdicglnndaa
