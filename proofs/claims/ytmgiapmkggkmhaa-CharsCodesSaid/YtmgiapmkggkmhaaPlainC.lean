/- The characters of a script, in plain Lean: both programs have the same lists. -/
import Derived.Test.YtmgiapmkggkmhaaPlainB
namespace Go.Proofs.Ytmgiapmkggkmhaa.Plain
open Go.RowKit Go.Proofs.Ytmgiapmkggkmhaa.Q Go.Proofs.YtmgiapmkggkmhaaW.PrintWords Go.Proofs.YtmgiapmkggkmhaaW.PrintLast

theorem and3 (n : Int) : Go.bits .and .i64 n 3 = n % 4 := by
  have h127 : (BitVec.ofInt 64 3).toNat = 2 ^ 2 - 1 := by decide
  have key : (BitVec.ofInt 64 n &&& BitVec.ofInt 64 3).toNat = (n % ((2 ^ 64 : Nat) : Int)).toNat % 2 ^ 2 := by
    rw [BitVec.toNat_and, BitVec.toNat_ofInt, h127, Nat.and_two_pow_sub_one_eq_mod]
  show IntKind.i64.wrap ((BitVec.ofInt 64 n &&& BitVec.ofInt 64 3).toNat : Nat) = n % 4
  rw [key, IntKind.wrap_i64]
  omega

/-- The scripts of all characters, by the reference. -/
def scr (c : Nat) : Int := (abugidaref05_Script.f (c : Int)).getD 9

theorem scr_in : (List.range 256).all (fun c => (abugidaref05_Script.f (c : Int) == some (scr c)) && (chars_Script.f 20 (c : Int) == some (scr c)) && decide (0 ≤ scr c) && decide (scr c ≤ 3)) = true := by decide +kernel

theorem scr_at (c : Nat) (h : c < 256) : abugidaref05_Script.f (c : Int) = some (scr c) ∧ chars_Script.f 20 (c : Int) = some (scr c) ∧ 0 ≤ scr c ∧ scr c ≤ 3 := by
  have := List.all_eq_true.mp scr_in c (List.mem_range.mpr h)
  simp only [Bool.and_eq_true, beq_iff_eq, decide_eq_true_eq] at this
  exact ⟨this.1.1.1, this.1.1.2, this.1.2, this.2⟩

/-- The characters of script s from c on. -/
def tail (s : Int) (c : Nat) : List Int := ((List.range' c (256 - c)).filter (fun i => decide (scr i = s))).map (fun i : Nat => (i : Int))

theorem tail_step (s : Int) (c : Nat) (h : c < 256) : tail s c = if scr c = s then (c : Int) :: tail s (c + 1) else tail s (c + 1) := by
  unfold tail
  obtain ⟨d, hd⟩ : ∃ d, 256 - c = d + 1 := ⟨255 - c, by omega⟩
  have : 256 - (c + 1) = d := by omega
  rw [hd, this, List.range'_succ, List.filter_cons]
  by_cases e : scr c = s <;> simp [e]

theorem codes_loop (s : Int) (d : Nat) : ∀ (c k : Nat) (acc : List Int), c + d = 256 → acc.length ≤ c → d + 25 < k → chars_Codes.l0 k s acc (c : Int) = some (acc ++ tail s c) ∧ abugidaref05_Codes.l0 k s acc (c : Int) = some (acc ++ tail s c) := by
  induction d with
  | zero =>
    intro c k acc h0 h1 hk
    obtain ⟨k, rfl⟩ : ∃ m, k = m + 1 := ⟨k - 1, by omega⟩
    have ht : tail s c = [] := by unfold tail; rw [show 256 - c = 0 by omega]; rfl
    simp only [chars_Codes.l0, abugidaref05_Codes.l0]; rw [if_neg (by omega), if_neg (by omega), ht, List.append_nil]; exact ⟨rfl, rfl⟩
  | succ d ih =>
    intro c k acc h0 h1 hk
    obtain ⟨k, rfl⟩ : ∃ m, k = m + 1 := ⟨k - 1, by omega⟩
    obtain ⟨e1, e20, _, _⟩ := scr_at c (by omega)
    have e2 := at_rounds (chars_Script.mono _) (show 20 ≤ k by omega) e20
    have hw : wrap64 ((c : Int) + 1) = ((c + 1 : Nat) : Int) := by rw [w64_small _ (by omega) (by omega)]; omega
    rw [tail_step s c (by omega)]
    have hlt : (c : Int) < 256 := by omega
    simp only [chars_Codes.l0, abugidaref05_Codes.l0, if_pos hlt]
    rw [e1, e2]
    simp only [Option.bind_some]
    by_cases e : scr c = s
    · rw [if_pos e, if_pos e, if_pos e, if_pos (by omega), if_pos (by omega), hw]
      have hlen : (acc ++ [(c : Int)]).length ≤ c + 1 := by rw [List.length_append, List.length_singleton]; omega
      have := ih (c + 1) k (acc ++ [(c : Int)]) (by omega) hlen (by omega)
      rw [List.append_assoc] at this
      exact this
    · rw [if_neg e, if_neg e, if_neg e, hw]
      exact ih (c + 1) k acc (by omega) (by omega) (by omega)

theorem codes_eq (s : Int) (k : Nat) (hk : 300 < k) : chars_Codes.f k s = some (tail s 0) ∧ abugidaref05_Codes.f k s = some (tail s 0) := by
  have h := codes_loop s 256 0 k [] (by omega) (Nat.le_refl _) (by omega)
  rw [List.nil_append] at h
  unfold chars_Codes.f abugidaref05_Codes.f
  exact h

theorem tail_length (s : Int) (c : Nat) : (tail s c).length ≤ 256 - c := by
  unfold tail
  rw [List.length_map]
  exact Nat.le_trans (List.length_filter_le _ _) (by simp)

theorem tail_mem (s : Int) (x : Int) (h : x ∈ tail s 0) : ∃ c : Nat, x = (c : Int) ∧ c < 256 ∧ scr c = s := by
  unfold tail at h
  simp only [List.mem_map, List.mem_filter, List.mem_range'_1, decide_eq_true_eq] at h
  obtain ⟨c, ⟨h1, h2⟩, rfl⟩ := h
  exact ⟨c, rfl, by omega, h2⟩

theorem tail_sorted (s : Int) (c : Nat) : (tail s c).Pairwise (· < ·) := by
  unfold tail
  rw [List.pairwise_map]
  refine List.Pairwise.filter _ ?_
  have := List.pairwise_lt_range' (s := c) (n := 256 - c)
  exact this.imp (by intro a b h; omega)

theorem tail_count (s : Int) (c : Nat) (x : Int) : (tail s c).count x ≤ 1 := by
  have := tail_sorted s c
  exact List.nodup_iff_count.mp (this.imp (by intro a b h; omega)) x

end Go.Proofs.Ytmgiapmkggkmhaa.Plain
