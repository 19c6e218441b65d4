/- Ranges. -/
import Derived.Test.YtfjiamhgennmbaaOwn
namespace Go.Proofs.Ytfjiamhgennmbaa.Plain
open Go.RowKit Go.Proofs.Ytfjiamhgennmbaa.Q Go.Proofs.YtfjiamhgennmbaaW.PrintWords Go.Proofs.YtfjiamhgennmbaaW.PrintLast Go.Proofs.YtfjiamhgennmbaaW.PrintMore

/-- The n numbers from a on. -/
def rg (a : Int) (n : Nat) : List Int := (List.range n).map fun i : Nat => a + (i : Int)
theorem len_rg (a : Int) (n : Nat) : (rg a n).length = n := by simp [rg]
theorem rg_succ (a : Int) (n : Nat) : rg a (n + 1) = rg a n ++ [a + (n : Int)] := by simp [rg, List.range_succ]
theorem mem_rg (a : Int) (n : Nat) (x : Int) : x ∈ rg a n ↔ a ≤ x ∧ x < a + n := by
  simp only [rg, List.mem_map, List.mem_range]
  constructor
  · rintro ⟨i, h1, rfl⟩
    omega
  · intro h
    exact ⟨(x - a).toNat, by omega, by omega⟩
theorem rg_sorted (a : Int) (n : Nat) : (rg a n).Pairwise (· < ·) := by
  unfold rg
  rw [List.pairwise_map]
  exact List.pairwise_lt_range.imp (fun h => by omega)

def In64 (a : Int) : Prop := -9223372036854775808 ≤ a ∧ a ≤ 9223372036854775807
theorem in64_wf {x : Int} (h : (Lit.int .i64 x).wf = true) : In64 x := by
  have e1 : IntKind.i64.min = -9223372036854775808 := by decide
  have e2 : IntKind.i64.max = 9223372036854775807 := by decide
  simp only [Lit.wf, e1, e2, Bool.and_eq_true, decide_eq_true_eq] at h
  exact h
theorem in64_wrap (x : Int) : In64 (wrap64 x) := by
  unfold wrap64 In64
  omega
/-- What a range is. -/
def rv (a b : Int) : List Int := if a < b ∧ b - a ≤ 4096 then rg a (b - a).toNat else []
theorem len_rv (a b : Int) : (rv a b).length ≤ 4096 := by
  unfold rv
  split
  · rw [len_rg]; omega
  · simp

theorem u64_diff {a b : Int} (ha : In64 a) (hb : In64 b) (h : a < b) : IntKind.u64.wrap (IntKind.u64.wrap b - IntKind.u64.wrap a) = b - a := by
  have e : ∀ x : Int, IntKind.u64.wrap x = x % 18446744073709551616 := fun x => by
    unfold IntKind.wrap
    simp [IntKind.bits, IntKind.signed]
  unfold In64 at ha hb
  rw [e, e, e]
  omega

theorem set_next (a : Int) (i d : Nat) (x : Int) : (rg a i ++ List.replicate (d + 1) 0).set i x = rg a i ++ x :: List.replicate d 0 := by
  rw [List.set_append_right _ _ (by rw [len_rg]; exact Nat.le_refl _), len_rg, Nat.sub_self]
  rfl

theorem ev_fill (a : Int) (n : Nat) (hn : n ≤ 4096) (ha : -9223372036854775808 ≤ a) (hb : a + n ≤ 9223372036854775807) (d : Nat) : ∀ i : Nat, i + d = n → Ev (fun k => sets_Range.l0 k a (rg a i ++ List.replicate d 0) (n : Int) i) (rg a n) := by
  induction d with
  | zero =>
    intro i hi
    refine Ev.step (fun k => by simp only [sets_Range.l0, if_neg (show ¬ (i : Int) < (n : Int) by omega)]; rfl) ?_
    rw [show rg a i ++ List.replicate 0 0 = rg a n by rw [show i = n by omega]; simp]
    exact Ev.now _
  | succ d ih =>
    intro i hi
    have hw : wrap64 (a + (i : Int)) = a + (i : Int) := by unfold wrap64; omega
    have hl : (i : Int) < ((rg a i ++ List.replicate (d + 1) 0).length : Int) := by rw [List.length_append, len_rg, List.length_replicate]; omega
    refine Ev.step (fun k => by simp only [sets_Range.l0, if_pos (show (i : Int) < (n : Int) by omega), if_pos (show (0 : Int) ≤ i by omega), if_pos hl, hw, w64n i (by omega), Int.toNat_natCast, set_next]; rfl) ?_
    have := ih (i + 1) (by omega)
    rw [rg_succ, List.append_assoc, List.singleton_append] at this
    exact this

theorem ev_range (a b : Int) (ha : In64 a) (hb : In64 b) : Ev (fun k => sets_Range.f k a b) (rv a b) := by
  unfold sets_Range.f rv
  by_cases h : a < b
  · simp only [if_neg (show ¬ a ≥ b by omega), u64_diff ha hb h]
    by_cases h2 : b - a ≤ 4096
    · rw [if_pos ⟨h, h2⟩]
      have hw : wrap64 (b - a) = b - a := by unfold wrap64; unfold In64 at ha hb; omega
      have hn : ((b - a).toNat : Int) = b - a := by omega
      refine Ev.step (fun k => by simp only [sets_Range.j0, decide_eq_false (show ¬ b - a > 4096 by omega), Bool.false_eq_true, if_false, hw, if_pos (show 0 ≤ b - a by omega), if_pos (show (b - a).toNat ≤ 35184372088832 by omega), Option.bind_some, List.length_replicate]; rfl) ?_
      have := ev_fill a (b - a).toNat (by omega) ha.1 (by unfold In64 at hb; omega) (b - a).toNat 0 (Nat.zero_add _)
      exact this
    · rw [if_neg (fun h' => h2 h'.2)]
      refine Ev.step (fun k => by simp only [sets_Range.j0, decide_eq_true (show b - a > 4096 by omega), if_true]; rfl) ?_
      exact Ev.now _
  · simp only [if_pos (show a ≥ b by omega), if_neg (show ¬ (a < b ∧ b - a ≤ 4096) from fun h' => h h'.1)]
    refine Ev.step (fun k => by simp only [sets_Range.j0, if_true]; rfl) ?_
    exact Ev.now _

theorem and65535 (n : Int) : Go.bits .and .i64 n 65535 = n % 65536 := by
  have h127 : (BitVec.ofInt 64 65535).toNat = 2 ^ 16 - 1 := by decide
  have key : (BitVec.ofInt 64 n &&& BitVec.ofInt 64 65535).toNat = (n % ((2 ^ 64 : Nat) : Int)).toNat % 2 ^ 16 := by
    rw [BitVec.toNat_and, BitVec.toNat_ofInt, h127, Nat.and_two_pow_sub_one_eq_mod]
  show IntKind.i64.wrap ((BitVec.ofInt 64 n &&& BitVec.ofInt 64 65535).toNat : Nat) = n % 65536
  rw [key, IntKind.wrap_i64]
  omega

end Go.Proofs.Ytfjiamhgennmbaa.Plain
