/- The characters, in plain Lean: program and reference tell the same of every number, and have the same lists. -/
import Derived.Test.YtmgiapmkggkmhaaQx5
import Derived.Test.YtmgiapmkggkmhaaQx6
import Derived.Test.YtmgiapmkggkmhaaPlain
namespace Go.Proofs.Ytmgiapmkggkmhaa.Plain
open Go.RowKit Go.Proofs.Ytmgiapmkggkmhaa.Q Go.Proofs.YtmgiapmkggkmhaaW.PrintWords Go.Proofs.YtmgiapmkggkmhaaW.PrintLast

theorem w64_small (x : Int) (h0 : -1000 ≤ x) (h1 : x ≤ 1000000) : wrap64 x = x := by unfold wrap64; omega

/-- A number in no block. -/
theorem l0_none (c : Int) (xs : List S39) (hx : ∀ b ∈ xs, ¬ (b.f0 ≤ c ∧ c ≤ b.f1)) (hl : xs.length ≤ 1000) (d : Nat) : ∀ (k : Nat) (i : Int), 0 ≤ i → i + d = xs.length → d < k → chars_of.l0 k c xs (xs.length : Int) i = some (0, 0) := by
  induction d with
  | zero =>
    intro k i h0 h1 hk
    obtain ⟨k, rfl⟩ : ∃ m, k = m + 1 := ⟨k - 1, by omega⟩
    simp only [chars_of.l0]; rw [if_neg (by omega)]
  | succ d ih =>
    intro k i h0 h1 hk
    obtain ⟨k, rfl⟩ : ∃ m, k = m + 1 := ⟨k - 1, by omega⟩
    have hlt : i < (xs.length : Int) := by omega
    have hm : rd_T39 xs i ∈ xs := by
      unfold rd_T39
      rw [List.getD_eq_getElem?_getD, List.getElem?_eq_getElem (by omega)]
      exact List.getElem_mem _
    have hn := hx _ hm
    have hr := ih k (i + 1) (by omega) (by omega) (by omega)
    simp only [chars_of.l0]
    rw [if_pos hlt, if_pos h0, if_pos hlt, w64_small (i + 1) (by omega) (by omega)]
    by_cases hc : c ≥ (rd_T39 xs i).f0
    · rw [if_pos hc, if_neg (by omega)]; exact hr
    · rw [if_neg hc]; exact hr

theorem of_out (c : Int) (h : c < 0 ∨ 255 < c) : chars_of.f 20 c = some (0, 0) := by
  unfold chars_of.f chars_blocks.f
  simp only [Option.bind_some]
  refine l0_none c _ ?_ (by decide) 16 20 0 (by omega) (by decide) (by omega)
  intro b hb
  simp only [List.mem_cons, List.not_mem_nil, or_false] at hb
  rcases hb with rfl | rfl | rfl | rfl | rfl | rfl | rfl | rfl | rfl | rfl | rfl | rfl | rfl | rfl | rfl | rfl <;> simp <;> omega

theorem within_out (c a b : Int) (h : c < 0 ∨ 255 < c) (h0 : 0 ≤ a) (h1 : b ≤ 255) : abugidaref05_within.f c a b = some false := by
  unfold abugidaref05_within.f
  split
  · rw [decide_eq_false (by omega)]
  · rfl

theorem class_out (c : Int) (h : c < 0 ∨ 255 < c) : abugidaref05_Class.f 20 c = some 0 := by
  unfold abugidaref05_Class.f abugidaref05_Class.j0
  have w := fun a b h0 h1 => within_out c a b h h0 h1
  simp only [w 33 47 (by decide) (by decide), w 48 57 (by decide) (by decide), w 64 95 (by decide) (by decide), w 96 103 (by decide) (by decide), w 144 151 (by decide) (by decide), w 200 207 (by decide) (by decide), w 104 127 (by decide) (by decide), w 128 143 (by decide) (by decide), w 152 183 (by decide) (by decide), w 185 191 (by decide) (by decide), w 192 199 (by decide) (by decide), Option.bind_some, Bool.false_eq_true, if_false]
  rw [if_neg (by omega), if_neg (by omega), if_neg (by omega), if_neg (by omega), if_neg (by omega)]

theorem script_out (c : Int) (h : c < 0 ∨ 255 < c) : abugidaref05_Script.f c = some 0 := by
  unfold abugidaref05_Script.f
  have w := fun a b h0 h1 => within_out c a b h h0 h1
  simp only [w 64 103 (by decide) (by decide), w 104 151 (by decide) (by decide), w 152 207 (by decide) (by decide), Option.bind_some, Bool.false_eq_true, if_false]

/-- Program and reference tell the same of c. -/
def same (c : Int) : Bool := match chars_Joins.f 20 c, abugidaref05_Joins.f 20 c, abugidaref05_Class.f 20 c, abugidaref05_Script.f c, abugidaref05_Strong.f 20 c, abugidaref05_Extends.f 20 c with
  | some a, some b, some cl, some sc, some st, some ex => a == b && (abugidalaw05_is.f 20 c cl sc st ex == some true)
  | _, _, _, _, _, _ => false

theorem same_in : (List.range 256).all (fun c => same (c : Int)) = true := by decide +kernel

theorem same_all (c : Int) : same c = true := by
  by_cases h : c < 0 ∨ 255 < c
  · have ho := of_out c h
    have hc := class_out c h
    have hs := script_out c h
    unfold same abugidalaw05_is.f chars_Joins.f chars_Class.f chars_Script.f chars_Strong.f chars_Extends.f chars_Class.f abugidaref05_Joins.f abugidaref05_Strong.f abugidaref05_Extends.f
    rw [ho, hc, hs]
    decide
  · obtain ⟨n, rfl⟩ : ∃ n : Nat, c = (n : Int) := ⟨c.toNat, by omega⟩
    exact List.all_eq_true.mp same_in n (List.mem_range.mpr (by omega))

end Go.Proofs.Ytmgiapmkggkmhaa.Plain
