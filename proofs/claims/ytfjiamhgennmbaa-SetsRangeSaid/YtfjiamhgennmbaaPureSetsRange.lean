import Derived.Test.YtfjiamhgennmbaaQx12
import Derived.Test.YtfjiamhgennmbaaRng
namespace Go.Proofs.Ytfjiamhgennmbaa.Pure
open Go.RowKit Go.Proofs.Ytfjiamhgennmbaa.Q Go.Proofs.Ytfjiamhgennmbaa.Plain Go.Proofs.YtfjiamhgennmbaaW.PrintWords Go.Proofs.YtfjiamhgennmbaaW.PrintLast

theorem ev_rfill (a b : Int) (ha : In64 a) (hb : In64 b) (hab : b - a ≤ 4096) (d : Nat) : ∀ i : Nat, a + i + d = b → Ev (fun k => abugidaref15_Range.l0 k b (rg a i) (a + i)) (rg a (i + d)) := by
  induction d with
  | zero =>
    intro i hi
    refine Ev.step (fun k => by simp only [abugidaref15_Range.l0, if_neg (show ¬ a + (i : Int) < b by omega)]; rfl) ?_
    exact Ev.now _
  | succ d ih =>
    intro i hi
    have hw : wrap64 (a + (i : Int) + 1) = a + ((i + 1 : Nat) : Int) := by unfold wrap64; unfold In64 at ha hb; omega
    have hl : (rg a i).length < 17592186044416 := by rw [len_rg]; omega
    refine Ev.step (fun k => by simp only [abugidaref15_Range.l0, if_pos (show a + (i : Int) < b by omega), if_pos hl, hw, ← rg_succ]; rfl) ?_
    have := ih (i + 1) (by omega)
    rw [show i + 1 + d = i + (d + 1) by omega] at this
    exact this

theorem ev_rrange (a b : Int) (ha : In64 a) (hb : In64 b) : Ev (fun k => abugidaref15_Range.f k a b) (rv a b) := by
  unfold abugidaref15_Range.f rv
  by_cases h : a < b
  · simp only [if_neg (show ¬ a ≥ b by omega), u64_diff ha hb h]
    by_cases h2 : b - a ≤ 4096
    · rw [if_pos ⟨h, h2⟩]
      refine Ev.step (fun k => by simp only [abugidaref15_Range.j0, decide_eq_false (show ¬ b - a > 4096 by omega), Bool.false_eq_true, if_false]; rfl) ?_
      have := ev_rfill a b ha hb h2 (b - a).toNat 0 (by omega)
      rw [Nat.zero_add, show a + ((0 : Nat) : Int) = a by omega] at this
      exact this
    · rw [if_neg (fun h' => h2 h'.2)]
      refine Ev.step (fun k => by simp only [abugidaref15_Range.j0, decide_eq_true (show b - a > 4096 by omega), if_true]; rfl) ?_
      exact Ev.now _
  · simp only [if_pos (show a ≥ b by omega), if_neg (show ¬ (a < b ∧ b - a ≤ 4096) from fun h' => h h'.1)]
    refine Ev.step (fun k => by simp only [abugidaref15_Range.j0, if_true]; rfl) ?_
    exact Ev.now _

theorem range_l0 (L : List S30) (hL : L.length ≤ 1000) (hi64 : ∀ i : Nat, i < L.length → In64 (rd_T30 L (i : Int)).f0 ∧ In64 (rd_T30 L (i : Int)).f1) (d : Nat) : ∀ i : Nat, i + d = L.length →
    Ev (fun k => abugidalaw15_SetsRange.l0 k true L (L.length : Int) i) true := by
  induction d with
  | zero =>
    intro i hi
    refine Ev.step (fun k => by simp only [abugidalaw15_SetsRange.l0, if_neg (show ¬ (i : Int) < (L.length : Int) by omega)]; rfl) ?_
    exact Ev.now _
  | succ d ih =>
    intro i hi
    obtain ⟨h0, h1⟩ := hi64 i (by omega)
    refine Ev.step (fun k => by simp only [abugidalaw15_SetsRange.l0, if_pos (show (i : Int) < (L.length : Int) by omega), if_pos (show (0 : Int) ≤ i by omega), w64n i (by omega)]; rfl) ?_
    refine Ev.bind (ev_range _ _ h0 h1) (Ev.bind (ev_rrange _ _ h0 h1) (Ev.bind (ev_same _ (by have := len_rv (rd_T30 L (i : Int)).f0 (rd_T30 L (i : Int)).f1; omega)) ?_))
    simp only [if_true]
    exact ih (i + 1) (by omega)

theorem SetsRange : abugidalaw15_SetsRange.Pure := by
  intro a0 a1 hw0 hw1
  refine Ev.rounds (g := fun k => abugidalaw15_SetsRange.f k a0 a1) ?_
  unfold abugidalaw15_SetsRange.f
  refine Ev.bind ev_sanity ?_
  simp only [Option.bind_some]
  refine range_l0 _ (by simp) (fun i hi => ?_) _ 0 (Nat.zero_add _)
  have h0 := in64_wf hw0
  have h1 := in64_wf hw1
  simp only [List.length_cons, List.length_nil] at hi
  have hc : i = 0 ∨ i = 1 ∨ i = 2 ∨ i = 3 ∨ i = 4 := by omega
  rcases hc with rfl | rfl | rfl | rfl | rfl
  · exact ⟨h0, h1⟩
  · exact ⟨in64_wrap _, in64_wrap _⟩
  · exact ⟨in64_wrap _, in64_wrap _⟩
  · exact ⟨in64_wrap _, in64_wrap _⟩
  · exact ⟨in64_wrap _, in64_wrap _⟩

end Go.Proofs.Ytfjiamhgennmbaa.Pure
