/- The characters, in plain Lean: what the printed functions on one number answer. -/
import Derived.Test.YtmgiapmkggkmhaaQx2
namespace Go.Proofs.Ytmgiapmkggkmhaa.Plain
open Go.RowKit Go.Proofs.Ytmgiapmkggkmhaa.Q Go.Proofs.YtmgiapmkggkmhaaW.PrintWords Go.Proofs.YtmgiapmkggkmhaaW.PrintLast

theorem and255 (n : Int) : Go.bits .and .i64 n 255 = n % 256 := by
  have h127 : (BitVec.ofInt 64 255).toNat = 2 ^ 8 - 1 := by decide
  have key : (BitVec.ofInt 64 n &&& BitVec.ofInt 64 255).toNat = (n % ((2 ^ 64 : Nat) : Int)).toNat % 2 ^ 8 := by
    rw [BitVec.toNat_and, BitVec.toNat_ofInt, h127, Nat.and_two_pow_sub_one_eq_mod]
  show IntKind.i64.wrap ((BitVec.ofInt 64 n &&& BitVec.ofInt 64 255).toNat : Nat) = n % 256
  rw [key, IntKind.wrap_i64]
  omega

/-- The kinds of characters: class and script. -/
def kinds : List (Int × Int) := [(0, 0), (1, 0), (2, 0), (4, 0), (3, 0), (5, 1), (6, 1), (7, 2), (8, 2), (6, 2), (9, 3), (10, 3), (11, 3), (12, 3), (6, 3), (13, 0), (14, 0)]

def okAt (c : Nat) : Bool := match chars_of.f 20 (c : Int) with
  | some p => kinds.contains p
  | none => false

theorem okAll : (List.range 256).all okAt = true := by decide +kernel

theorem of_some (n : Int) : ∃ p : Int × Int, chars_of.f 20 (n % 256) = some p ∧ p ∈ kinds := by
  obtain ⟨c, hc⟩ : ∃ c : Nat, n % 256 = (c : Int) := ⟨(n % 256).toNat, by omega⟩
  have h := List.all_eq_true.mp okAll c (List.mem_range.mpr (by omega))
  rw [hc]
  unfold okAt at h
  split at h
  · rename_i p hp
    exact ⟨p, hp, List.contains_iff_mem.mp h⟩
  · cases h

end Go.Proofs.Ytmgiapmkggkmhaa.Plain
