import Derived.Test.YtfjiamhgennmbaaQx16
import Derived.Test.YtfjiamhgennmbaaRng
namespace Go.Proofs.Ytfjiamhgennmbaa.Pure
open Go.RowKit Go.Proofs.Ytfjiamhgennmbaa.Q Go.Proofs.Ytfjiamhgennmbaa.Plain Go.Proofs.YtfjiamhgennmbaaW.PrintWords Go.Proofs.YtfjiamhgennmbaaW.PrintLast

theorem u8_wf {x : Int} (h : (Lit.int .u8 x).wf = true) : 0 ≤ x ∧ x ≤ 255 := by
  have e1 : IntKind.u8.min = 0 := by decide
  have e2 : IntKind.u8.max = 255 := by decide
  simp only [Lit.wf, e1, e2, Bool.and_eq_true, decide_eq_true_eq] at h
  exact h
theorem rv_rg (a : Int) (n : Nat) (h : n ≤ 4096) : rv a (a + n) = rg a n := by
  unfold rv
  by_cases h0 : n = 0
  · subst h0
    rw [if_neg (by omega)]
    rfl
  · rw [if_pos ⟨by omega, by omega⟩, show (a + (n : Int) - a).toNat = n by omega]
theorem ok_rg (a : Int) (n : Nat) (h0 : 0 ≤ a) (h1 : a ≤ 100000) (hn : n ≤ 600) : Ok (rg a n) := by
  refine ⟨by rw [len_rg]; omega, fun x hx => ?_⟩
  have := (mem_rg a n x).mp hx
  unfold wrap64
  omega
theorem join_rg (f : Int) (n m : Nat) : hset (rg (f + n) m ++ rg f n) = rg f (n + m) := by
  refine sorted_ext _ _ (hset_sorted _) (rg_sorted _ _) (fun y => ?_)
  rw [mem_hset, List.mem_append, mem_rg, mem_rg, mem_rg]
  omega
theorem apart_rg (f : Int) (n m : Nat) : decide (((hset ((rg (f + n) m).filter fun x => decide (x ∈ rg f n))).length : Int) > 0) = false := by
  have : hset ((rg (f + n) m).filter fun x => decide (x ∈ rg f n)) = [] := by
    rw [List.eq_nil_iff_forall_not_mem]
    intro x hx
    rw [mem_hset, List.mem_filter, decide_eq_true_eq, mem_rg, mem_rg] at hx
    omega
  rw [this]
  rfl

theorem SetsSpans : abugidalaw15_SetsSpans.Pure := by
  intro a0 x y z _ hx hy hz
  obtain ⟨x0, x1⟩ := u8_wf hx
  obtain ⟨y0, y1⟩ := u8_wf hy
  obtain ⟨z0, z1⟩ := u8_wf hz
  refine Ev.rounds (g := fun k => abugidalaw15_SetsSpans.f k a0 x y z) ?_
  unfold abugidalaw15_SetsSpans.f
  rw [and65535]
  have hf : 0 ≤ a0 % 65536 ∧ a0 % 65536 ≤ 65535 := by omega
  generalize a0 % 65536 = f at *
  obtain ⟨n, rfl⟩ : ∃ n : Nat, x = n := ⟨x.toNat, by omega⟩
  obtain ⟨m, rfl⟩ : ∃ n : Nat, y = n := ⟨y.toNat, by omega⟩
  have e1 : wrap64 (n : Int) = n := by unfold wrap64; omega
  have e2 : wrap64 (m : Int) = m := by unfold wrap64; omega
  have e3 : wrap64 z = z := by unfold wrap64; omega
  have e4 : wrap64 (f + (n : Int)) = f + n := by unfold wrap64; omega
  have e5 : wrap64 (f + (n : Int) + (m : Int)) = f + n + m := by unfold wrap64; omega
  have e6 : wrap64 (f - 3) = f - 3 := by unfold wrap64; omega
  have e7 : wrap64 (f - 3 + z) = f - 3 + z := by unfold wrap64; omega
  have e8 : wrap64 (f + (n : Int) + (m : Int) - f) = ((n + m : Nat) : Int) := by unfold wrap64; omega
  simp only [e1, e2, e3, e4, e5, e6, e7, e8]
  have hr1 : Ev (fun k => sets_Range.f k f (f + (n : Int) + (m : Int))) (rg f (n + m)) := by
    have := ev_range f (f + (n : Int) + (m : Int)) (by unfold In64; omega) (by unfold In64; omega)
    rw [show f + (n : Int) + (m : Int) = f + ((n + m : Nat) : Int) by omega, rv_rg f (n + m) (by omega)] at this
    rw [show f + (n : Int) + (m : Int) = f + ((n + m : Nat) : Int) by omega]
    exact this
  have hr2 : Ev (fun k => sets_Range.f k (f + (n : Int)) (f + (n : Int) + (m : Int))) (rg (f + n) m) := by
    have := ev_range (f + (n : Int)) (f + (n : Int) + (m : Int)) (by unfold In64; omega) (by unfold In64; omega)
    rw [rv_rg (f + n) m (by omega)] at this
    exact this
  have hr3 : Ev (fun k => sets_Range.f k f (f + (n : Int))) (rg f n) := by
    have := ev_range f (f + (n : Int)) (by unfold In64; omega) (by unfold In64; omega)
    rw [rv_rg f n (by omega)] at this
    exact this
  have o1 := ok_rg (f + n) m (by omega) (by omega) (by omega)
  have o2 := ok_rg f n (by omega) (by omega) (by omega)
  refine Ev.bind ev_sanity (Ev.bind hr1 ?_)
  simp only [if_true, len_rg]
  refine Ev.bind (ev_has _ _ (by rw [len_rg]; omega)) ?_
  have hm : decide (f - 3 + z ∈ rg f (n + m)) = (decide (f - 3 + z ≥ f) && decide (f - 3 + z < f + (n : Int) + (m : Int))) := by
    rw [← Bool.decide_and]
    exact decide_eq_decide.mpr (by rw [mem_rg]; omega)
  rw [hm]
  have tail : Ev (fun k => (sets_Range.f k (f + (n : Int)) (f + (n : Int) + (m : Int))).bind fun t503 => (sets_Range.f k f (f + (n : Int))).bind fun t506 => (sets_Join.f t503 t506).bind fun t509 => (abugidaref15_Same.f k t509 (rg f (n + m))).bind fun t512 => if t512 = true then (sets_Range.f k (f + (n : Int)) (f + (n : Int) + (m : Int))).bind fun t513 => (sets_Range.f k f (f + (n : Int))).bind fun t516 => (sets_Overlap.f t513 t516).bind fun t519 => some (!t519) else some false) true := by
    refine Ev.bind hr2 (Ev.bind hr3 ?_)
    simp only [join_is o1 o2, join_rg, Option.bind_some]
    refine Ev.bind (ev_same _ (by rw [len_rg]; omega)) ?_
    simp only [if_true]
    refine Ev.bind hr2 (Ev.bind hr3 ?_)
    simp only [overlap_is o1 o2, apart_rg, Option.bind_some, Bool.not_false]
    exact Ev.now _
  by_cases hc : f - 3 + z ≥ f
  · simp only [if_pos hc, decide_eq_true hc, Bool.true_and, beq_self_eq_true, if_true]
    exact tail
  · simp only [if_neg hc, decide_eq_false hc, Bool.false_and, beq_self_eq_true, if_true]
    exact tail

end Go.Proofs.Ytfjiamhgennmbaa.Pure
