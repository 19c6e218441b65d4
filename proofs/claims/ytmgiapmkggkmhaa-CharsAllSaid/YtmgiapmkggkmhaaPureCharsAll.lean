/- CharsAll: all functions on one number return what the reference returns. For every number. -/
import Derived.Test.YtmgiapmkggkmhaaQx5
import Derived.Test.YtmgiapmkggkmhaaPlainB
namespace Go.Proofs.Ytmgiapmkggkmhaa.Pure
open Go.RowKit Go.Proofs.Ytmgiapmkggkmhaa.Q Go.Proofs.Ytmgiapmkggkmhaa.Plain Go.Proofs.YtmgiapmkggkmhaaW.PrintWords Go.Proofs.YtmgiapmkggkmhaaW.PrintLast

theorem same_at (c : Int) : ∃ (a : Bool × Bool) (cl sc st : Int) (ex : Bool), chars_Joins.f 20 c = some a ∧ abugidaref05_Joins.f 20 c = some a ∧ abugidaref05_Class.f 20 c = some cl ∧
    abugidaref05_Script.f c = some sc ∧ abugidaref05_Strong.f 20 c = some st ∧ abugidaref05_Extends.f 20 c = some ex ∧ abugidalaw05_is.f 20 c cl sc st ex = some true := by
  have h := same_all c
  unfold same at h
  split at h
  · rename_i a b cl sc st ex h1 h2 h3 h4 h5 h6
    rw [Bool.and_eq_true, beq_iff_eq, beq_iff_eq] at h
    obtain ⟨rfl, h7⟩ := h
    exact ⟨a, cl, sc, st, ex, h1, h2, h3, h4, h5, h6, h7⟩
  · cases h

theorem CharsAll : abugidalaw05_CharsAll.Pure := by
  intro n _
  refine ⟨700, ?_⟩
  have hs : abugidalaw05_sanity.f 700 = some true := by decide +kernel
  unfold abugidalaw05_CharsAll.f
  rw [hs, and255]
  simp only [Option.bind_some]
  obtain ⟨a, cl, sc, st, ex, h1, h2, h3, h4, h5, h6, h7⟩ := same_at n
  have g1 := at_rounds (chars_Joins.mono _) (show 20 ≤ 699 by omega) h1
  have g2 := at_rounds (abugidaref05_Joins.mono _) (show 20 ≤ 699 by omega) h2
  have g3 := at_rounds (abugidaref05_Class.mono _) (show 20 ≤ 699 by omega) h3
  have g5 := at_rounds (abugidaref05_Strong.mono _) (show 20 ≤ 699 by omega) h5
  have g6 := at_rounds (abugidaref05_Extends.mono _) (show 20 ≤ 699 by omega) h6
  have g7 := at_rounds (abugidalaw05_is.mono _ _ _ _ _) (show 20 ≤ 699 by omega) h7
  obtain ⟨a', cl', sc', st', ex', h1', h2', h3', h4', h5', h6', h7'⟩ := same_at (n % 256)
  have g1' := at_rounds (chars_Joins.mono _) (show 20 ≤ 698 by omega) h1'
  have g2' := at_rounds (abugidaref05_Joins.mono _) (show 20 ≤ 698 by omega) h2'
  have g3' := at_rounds (abugidaref05_Class.mono _) (show 20 ≤ 698 by omega) h3'
  have g5' := at_rounds (abugidaref05_Strong.mono _) (show 20 ≤ 698 by omega) h5'
  have g6' := at_rounds (abugidaref05_Extends.mono _) (show 20 ≤ 698 by omega) h6'
  have g7' := at_rounds (abugidalaw05_is.mono _ _ _ _ _) (show 20 ≤ 698 by omega) h7'
  show abugidalaw05_CharsAll.l0 (699 + 1) true 0 n (n % 256) = some true
  unfold abugidalaw05_CharsAll.l0
  rw [if_pos (by decide), if_pos rfl, g1, g2, g3, h4, g5, g6]
  simp only [Option.bind_some, g7, bne_self_eq_false, Bool.false_eq_true, if_false, if_true]
  show abugidalaw05_CharsAll.l0 (698 + 1) true (wrap64 (0 + 1)) n (n % 256) = some true
  rw [show wrap64 (0 + 1) = 1 by decide +kernel]
  unfold abugidalaw05_CharsAll.l0
  rw [if_pos (by decide), if_neg (by decide), if_pos rfl, g1', g2', g3', h4', g5', g6']
  simp only [Option.bind_some, g7', bne_self_eq_false, Bool.false_eq_true, if_false, if_true]
  show abugidalaw05_CharsAll.l0 (697 + 1) true (wrap64 (1 + 1)) n (n % 256) = some true
  rw [show wrap64 (1 + 1) = 2 by decide +kernel]
  unfold abugidalaw05_CharsAll.l0
  rw [if_neg (by decide)]

end Go.Proofs.Ytmgiapmkggkmhaa.Pure
