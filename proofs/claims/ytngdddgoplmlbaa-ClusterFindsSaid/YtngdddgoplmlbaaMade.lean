/- The texts that numbers make are short; the examples hold. -/
import Derived.Test.YtngdddgoplmlbaaCov
namespace Go.Proofs.Ytngdddgoplmlbaa.Plain
open Go.RowKit Go.Proofs.Ytngdddgoplmlbaa.Q Go.Proofs.YtngdddgoplmlbaaW.PrintWords Go.Proofs.YtngdddgoplmlbaaW.PrintLast

theorem sanity_true : abugidalaw06_sanity.f 100 = some true := by decide +kernel
theorem ev_sanity : Ev (fun k => abugidalaw06_sanity.f k) true := Ev.of abugidalaw06_sanity.mono sanity_true

theorem and65535 (n : Int) : Go.bits .and .i64 n 65535 = n % 65536 := by
  have h127 : (BitVec.ofInt 64 65535).toNat = 2 ^ 16 - 1 := by decide
  have key : (BitVec.ofInt 64 n &&& BitVec.ofInt 64 65535).toNat = (n % ((2 ^ 64 : Nat) : Int)).toNat % 2 ^ 16 := by
    rw [BitVec.toNat_and, BitVec.toNat_ofInt, h127, Nat.and_two_pow_sub_one_eq_mod]
  show IntKind.i64.wrap ((BitVec.ofInt 64 n &&& BitVec.ofInt 64 65535).toNat : Nat) = n % 65536
  rw [key, IntKind.wrap_i64]
  omega

theorem strOfNums_one (x : Int) : (strOfNums [x]).size = 1 := rfl

theorem ev_made_l0 (l : List Int) (m : Nat) (hm : m ≤ 100) (d : Nat) : ∀ (i : Nat) (acc : ByteArray), i + d = min l.length m → acc.size ≤ i → ∃ t : ByteArray, Ev (fun k => abugidaref06_Made.l0 k l m acc i) t ∧ t.size ≤ m := by
  induction d with
  | zero =>
    intro i acc hi ha
    refine ⟨acc, ?_, by omega⟩
    by_cases h : (i : Int) < (l.length : Int)
    · refine Ev.step (fun k => by simp only [abugidaref06_Made.l0, if_pos h]; rfl) ?_
      refine Ev.step (fun k => by simp only [abugidaref06_Made.j1, decide_eq_false (show ¬ (i : Int) < (m : Int) by omega), Bool.false_eq_true, if_false]; rfl) ?_
      exact Ev.now _
    · refine Ev.step (fun k => by simp only [abugidaref06_Made.l0, if_neg h]; rfl) ?_
      refine Ev.step (fun k => by simp only [abugidaref06_Made.j1, Bool.false_eq_true, if_false]; rfl) ?_
      exact Ev.now _
  | succ d ih =>
    intro i acc hi ha
    have hl : (i : Int) < (l.length : Int) := by omega
    have hw : wrap64 ((i : Int) + 1) = ((i + 1 : Nat) : Int) := by rw [w64 _ (by omega) (by omega)]; omega
    have hmod : 0 ≤ rd l i % 65536 := by omega
    have ht : Int.tmod (rd l i % 65536) 29 = (rd l i % 65536) % 29 := Int.tmod_eq_emod_of_nonneg hmod
    by_cases h255 : rd l i % 65536 / 256 = 255
    · obtain ⟨t, h1, h2⟩ := ih (i + 1) (acc ++ strOfNums [rd l i % 65536 % 256]) (by omega) (by rw [ByteArray.size_append, strOfNums_one]; omega)
      refine ⟨t, ?_, h2⟩
      refine Ev.step (fun k => by simp only [abugidaref06_Made.l0, if_pos hl]; rfl) ?_
      refine Ev.step (fun k => by simp only [abugidaref06_Made.j1, decide_eq_true (show (i : Int) < (m : Int) by omega), if_true, if_pos (show (0 : Int) ≤ i by omega), if_pos hl, and65535, ht, if_pos (show 0 ≤ rd l i % 65536 % 29 by omega), if_pos (show rd l i % 65536 % 29 < 29 by omega), if_pos h255, Option.bind_some, if_pos (show acc.size + (strOfNums [rd l i % 65536 % 256]).size ≤ 9223372036854775807 by rw [strOfNums_one]; omega), hw]; rfl) ?_
      exact h1
    · obtain ⟨t, h1, h2⟩ := ih (i + 1) (acc ++ strOfNums [bt (⟨#[65, 96, 66, 97, 67, 98, 104, 105, 144, 128, 145, 106, 160, 184, 161, 193, 162, 185, 184, 160, 200, 32, 46, 53, 55, 10, 240, 241, 255]⟩ : ByteArray) (rd l i % 65536 % 29)]) (by omega) (by rw [ByteArray.size_append, strOfNums_one]; omega)
      refine ⟨t, ?_, h2⟩
      refine Ev.step (fun k => by simp only [abugidaref06_Made.l0, if_pos hl]; rfl) ?_
      refine Ev.step (fun k => by simp only [abugidaref06_Made.j1, decide_eq_true (show (i : Int) < (m : Int) by omega), if_true, if_pos (show (0 : Int) ≤ i by omega), if_pos hl, and65535, ht, if_pos (show 0 ≤ rd l i % 65536 % 29 by omega), if_pos (show rd l i % 65536 % 29 < 29 by omega), if_neg h255, Option.bind_some, if_pos (show acc.size + (strOfNums [bt (⟨#[65, 96, 66, 97, 67, 98, 104, 105, 144, 128, 145, 106, 160, 184, 161, 193, 162, 185, 184, 160, 200, 32, 46, 53, 55, 10, 240, 241, 255]⟩ : ByteArray) (rd l i % 65536 % 29)]).size ≤ 9223372036854775807 by rw [strOfNums_one]; omega), hw]; rfl) ?_
      exact h1

theorem ev_made (l : List Int) (m : Nat) (hm : m ≤ 100) : ∃ t : ByteArray, Ev (fun k => abugidaref06_Made.f k l m) t ∧ t.size ≤ m :=
  ev_made_l0 l m hm (min l.length m) 0 _ (Nat.zero_add _) (Nat.le_refl _)

end Go.Proofs.Ytngdddgoplmlbaa.Plain
