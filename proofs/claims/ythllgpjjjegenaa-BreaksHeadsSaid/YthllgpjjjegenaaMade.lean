/- The texts that numbers make are short; the examples hold. -/
import Derived.Test.YthllgpjjjegenaaCov
namespace Go.Proofs.Ythllgpjjjegenaa.Plain
open Go.RowKit Go.Proofs.Ythllgpjjjegenaa.Q Go.Proofs.YthllgpjjjegenaaW.PrintWords Go.Proofs.YthllgpjjjegenaaW.PrintLast

theorem sanity_true : abugidalaw08_sanity.f 100 = some true := by decide +kernel
theorem ev_sanity : Ev (fun k => abugidalaw08_sanity.f k) true := Ev.of abugidalaw08_sanity.mono sanity_true

theorem pools_of (q : Nat) (hq : q < 8) : ∃ p : ByteArray, abugidaref05_pools.f (q : Int) = some p ∧ 0 < p.size ∧ p.size ≤ 7 := by
  match q, hq with
  | 0, _ => exact ⟨_, rfl, by decide, by decide⟩
  | 1, _ => exact ⟨_, rfl, by decide, by decide⟩
  | 2, _ => exact ⟨_, rfl, by decide, by decide⟩
  | 3, _ => exact ⟨_, rfl, by decide, by decide⟩
  | 4, _ => exact ⟨_, rfl, by decide, by decide⟩
  | 5, _ => exact ⟨_, rfl, by decide, by decide⟩
  | 6, _ => exact ⟨_, rfl, by decide, by decide⟩
  | 7, _ => exact ⟨_, rfl, by decide, by decide⟩

/-- One number's character: the pool by the rest, the place in it by the quotient. -/
theorem pool_at (n : Int) (h0 : 0 ≤ n) (h1 : n < 9223372036854775808) : ∃ p : ByteArray, abugidaref05_pools.f (Int.tmod n 8) = some p ∧ ¬ ((p.size : Int) = 0) ∧
    0 ≤ Int.tmod (wrap64 (Int.tdiv n 8)) (p.size : Int) ∧ Int.tmod (wrap64 (Int.tdiv n 8)) (p.size : Int) < (p.size : Int) := by
  obtain ⟨q, hq⟩ : ∃ q : Nat, Int.tmod n 8 = (q : Int) := ⟨(n % 8).toNat, by rw [Int.tmod_eq_emod_of_nonneg h0]; omega⟩
  have hq8 : q < 8 := by rw [Int.tmod_eq_emod_of_nonneg h0] at hq; omega
  obtain ⟨p, h2, h3, _⟩ := pools_of q hq8
  refine ⟨p, by rw [hq]; exact h2, by omega, ?_⟩
  have hd : Int.tdiv n 8 = n / 8 := Int.tdiv_eq_ediv_of_nonneg h0
  have hw : wrap64 (n / 8) = n / 8 := by unfold wrap64; omega
  rw [hd, hw]
  have h4 : 0 ≤ n / 8 := by omega
  rw [Int.tmod_eq_emod_of_nonneg h4]
  exact ⟨Int.emod_nonneg _ (by omega), Int.emod_lt_of_pos _ (by omega)⟩

theorem strOfNums_size (xs : List Int) : (strOfNums xs).size = xs.length := by
  show (xs.map fun n => UInt8.ofNat n.toNat).toArray.size = xs.length
  simp

theorem wf_bounds (x : Int) (h : (Lit.int .i64 x).wf = true) : -9223372036854775808 ≤ x ∧ x < 9223372036854775808 := by
  have h : (decide (IntKind.i64.min ≤ x) && decide (x ≤ IntKind.i64.max)) = true := h
  rw [Bool.and_eq_true, decide_eq_true_eq, decide_eq_true_eq] at h
  have h1 : IntKind.i64.min = -9223372036854775808 := by decide
  have h2 : IntKind.i64.max = 9223372036854775807 := by decide
  omega

theorem rd_mem (l : List Int) (i : Nat) (h : i < l.length) : rd l (i : Int) ∈ l := by
  unfold rd
  rw [Int.toNat_natCast, List.getD_eq_getElem?_getD, List.getElem?_eq_getElem h]
  exact List.getElem_mem h

theorem ev_text_l0 (l : List Int) (hwf : ∀ x ∈ l, (Lit.int .i64 x).wf = true) (m : Nat) (hm : m ≤ 100) (d : Nat) : ∀ (i : Nat) (acc : List Int), i + d = min l.length m → acc.length ≤ i → ∃ t : ByteArray, Ev (fun k => abugidaref05_Text.l0 k l m acc i) t ∧ t.size ≤ m := by
  induction d with
  | zero =>
    intro i acc hi ha
    refine ⟨strOfNums acc, ?_, by rw [strOfNums_size]; omega⟩
    by_cases h : (i : Int) < (l.length : Int)
    · refine Ev.step (fun k => by simp only [abugidaref05_Text.l0, if_pos h]; rfl) ?_
      refine Ev.step (fun k => by simp only [abugidaref05_Text.j1, decide_eq_false (show ¬ (i : Int) < (m : Int) by omega), Bool.false_eq_true, if_false]; rfl) ?_
      exact Ev.now _
    · refine Ev.step (fun k => by simp only [abugidaref05_Text.l0, if_neg h]; rfl) ?_
      refine Ev.step (fun k => by simp only [abugidaref05_Text.j1, Bool.false_eq_true, if_false]; rfl) ?_
      exact Ev.now _
  | succ d ih =>
    intro i acc hi ha
    have hl : (i : Int) < (l.length : Int) := by omega
    have hw : wrap64 ((i : Int) + 1) = ((i + 1 : Nat) : Int) := by rw [w64 _ (by omega) (by omega)]; omega
    have hb := wf_bounds _ (hwf _ (rd_mem l i (by omega)))
    have h0i : (0 : Int) ≤ i := by omega
    have hal : acc.length < 140737488355328 := by omega
    by_cases hneg : rd l i < 0
    · have hn : wrap64 (-(wrap64 (rd l i + 1))) = -(rd l i + 1) := by
        have h1 : wrap64 (rd l i + 1) = rd l i + 1 := by unfold wrap64; omega
        rw [h1]
        unfold wrap64; omega
      obtain ⟨p, h1, h2, h3, h4⟩ := pool_at (-(rd l i + 1)) (by omega) (by omega)
      obtain ⟨t, g1, g2⟩ := ih (i + 1) (acc ++ [bt p (Int.tmod (wrap64 (Int.tdiv (-(rd l i + 1)) 8)) (p.size : Int))]) (by omega) (by rw [List.length_append, List.length_singleton]; omega)
      refine ⟨t, ?_, g2⟩
      refine Ev.step (fun k => by simp only [abugidaref05_Text.l0, if_pos hl]; rfl) ?_
      refine Ev.step (fun k => by simp only [abugidaref05_Text.j1, decide_eq_true (show (i : Int) < (m : Int) by omega), if_true, if_pos h0i, if_pos hl, if_pos hneg, hn, h1, Option.bind_some, if_neg h2, if_pos h3, if_pos h4, if_pos hal, hw]; rfl) ?_
      exact g1
    · obtain ⟨p, h1, h2, h3, h4⟩ := pool_at (rd l i) (by omega) (by omega)
      obtain ⟨t, g1, g2⟩ := ih (i + 1) (acc ++ [bt p (Int.tmod (wrap64 (Int.tdiv (rd l i) 8)) (p.size : Int))]) (by omega) (by rw [List.length_append, List.length_singleton]; omega)
      refine ⟨t, ?_, g2⟩
      refine Ev.step (fun k => by simp only [abugidaref05_Text.l0, if_pos hl]; rfl) ?_
      refine Ev.step (fun k => by simp only [abugidaref05_Text.j1, decide_eq_true (show (i : Int) < (m : Int) by omega), if_true, if_pos h0i, if_pos hl, if_neg hneg, h1, Option.bind_some, if_neg h2, if_pos h3, if_pos h4, if_pos hal, hw]; rfl) ?_
      exact g1

theorem ev_text (l : List Int) (hwf : ∀ x ∈ l, (Lit.int .i64 x).wf = true) (m : Nat) (hm : m ≤ 100) : ∃ t : ByteArray, Ev (fun k => abugidaref05_Text.f k l m) t ∧ t.size ≤ m :=
  ev_text_l0 l hwf m hm (min l.length m) 0 [] (Nat.zero_add _) (Nat.le_refl _)

end Go.Proofs.Ythllgpjjjegenaa.Plain
