/- BreaksHeads: there is a number for each cluster; 2 exactly for ends of lines; no line begins with a space, and after one that is not the last, a line may end, unless a space, punctuation or the end of a line follows. For all numbers. -/
import Derived.Test.YthllgpjjjegenaaQx12
import Derived.Test.YthllgpjjjegenaaMays
namespace Go.Proofs.Ythllgpjjjegenaa.Pure
open Go.RowKit Go.Proofs.Ythllgpjjjegenaa.Q Go.Proofs.Ythllgpjjjegenaa.Plain Go.Proofs.YthllgpjjjegenaaW.PrintWords Go.Proofs.YthllgpjjjegenaaW.PrintLast

theorem rd_hmays (s : ByteArray) (l : List S33) : ∀ (d i j : Nat), j < d → rd (hmays s l d i) (j : Int) = hmay s l ((i + j : Nat) : Int)
  | 0, _, _, h => absurd h (by omega)
  | d + 1, i, 0, _ => rfl
  | d + 1, i, j + 1, h => by
    have ih := rd_hmays s l d (i + 1) j (by omega)
    unfold rd at ih ⊢
    rw [Int.toNat_natCast] at ih ⊢
    unfold hmays
    rw [List.getD_cons_succ, ih, show i + 1 + j = i + (j + 1) by omega]

theorem may_in (s : ByteArray) (l : List S33) (i : Int) : (hmay s l i = 0 ∨ hmay s l i = 1 ∨ hmay s l i = 2) ∧ (hmay s l i = 2 ↔ hcls (hch s l i) = 1) := by
  unfold hmay
  split
  · rename_i h; exact ⟨.inr (.inr rfl), fun _ => h, fun _ => rfl⟩
  · rename_i h
    have hz : ∀ v : Int, v = 0 ∨ v = 1 → (v = 0 ∨ v = 1 ∨ v = 2) ∧ (v = 2 ↔ hcls (hch s l i) = 1) := fun v hv => ⟨hv.elim .inl (fun h => .inr (.inl h)), fun h2 => by omega, fun h2 => absurd h2 h⟩
    refine hz _ ?_
    split
    · exact .inl rfl
    · split
      · exact .inl rfl
      · split
        · exact .inr rfl
        · split
          · exact .inl rfl
          · split
            · exact .inr rfl
            · split
              · exact .inr rfl
              · exact .inl rfl

theorem may_stuck (s : ByteArray) (l : List S33) (i : Int) (h : hcls (hch s l (i + 1)) = 1 ∨ hcls (hch s l (i + 1)) = 2 ∨ hcls (hch s l (i + 1)) = 4) : hmay s l i ≠ 1 := by
  unfold hmay
  rw [if_pos h]
  split
  · decide
  · split <;> decide
theorem may_space (s : ByteArray) (l : List S33) (i : Int) (hi : ¬ i = (l.length : Int) - 1) (h : ¬ (hcls (hch s l (i + 1)) = 1 ∨ hcls (hch s l (i + 1)) = 2 ∨ hcls (hch s l (i + 1)) = 4)) (h2 : hcls (hch s l i) = 2) : hmay s l i = 1 := by
  unfold hmay
  rw [if_neg (by omega), if_neg hi, if_neg h, if_pos (.inl h2)]

theorem heads_l0 (s : ByteArray) (hs : s.size ≤ 1000) (l : List S33) (hl : l.length ≤ 1000) (hv : Val s l) (M : List Int) (hM : M.length = l.length) (hr : ∀ j : Nat, j < l.length → rd M (j : Int) = hmay s l (j : Int)) (d : Nat) :
    ∀ i : Nat, i + d = l.length → Ev (fun k => abugidalaw08_BreaksHeads.l0 k true s l M i) true := by
  induction d with
  | zero =>
    intro i hi
    refine Ev.step (fun k => by simp only [abugidalaw08_BreaksHeads.l0, if_neg (show ¬ (i : Int) < (l.length : Int) by omega)]; rfl) ?_
    exact Ev.now _
  | succ d ih =>
    intro i hi
    have hw : wrap64 ((i : Int) + 1) = ((i + 1 : Nat) : Int) := by rw [w64 _ (by omega) (by omega)]; omega
    have hw1 : wrap64 ((l.length : Int) - 1) = (l.length : Int) - 1 := w64 _ (by omega) (by omega)
    have c0 : (i : Int) < (l.length : Int) := by omega
    have c0m : (i : Int) < (M.length : Int) := by omega
    have c1 : (0 : Int) ≤ i := by omega
    have hnext := ih (i + 1) (by omega)
    have hri := hr i (by omega)
    obtain ⟨h1, _, h3, h4, _⟩ := hat_facts s hs l hv i (by omega)
    obtain ⟨m0, m1⟩ := may_in s l i
    have e1 : ((hmay s l i == 2) != (hcls (hch s l i) == 1)) = false := by
      rw [bne_eq_false_iff_eq, Bool.eq_iff_iff, beq_iff_eq, beq_iff_eq]
      exact m1
    have j1 : Ev (fun k => abugidalaw08_BreaksHeads.j1 k true s l M i (hcls (hch s l i)) false) true := by
      refine Ev.step (fun k => by simp only [abugidalaw08_BreaksHeads.j1, Bool.false_eq_true, if_false, hw, hw1]; rfl) ?_
      by_cases a2 : (i : Int) = (l.length : Int) - 1
      · simp only [if_pos a2]; exact hnext
      · obtain ⟨g1, _, g3, g4, _⟩ := hat_facts s hs l hv (i + 1) (by omega)
        simp only [if_neg a2, if_pos (show (0 : Int) ≤ ((i + 1 : Nat) : Int) by omega), if_pos (show ((i + 1 : Nat) : Int) < (l.length : Int) by omega)]
        refine Ev.bind g1 ?_
        simp only [if_pos g3, if_pos g4]
        refine Ev.bind (ev_class s _) ?_
        simp only [show bt s (hat s l ((i + 1 : Nat) : Int)) = hch s l ((i + 1 : Nat) : Int) from rfl]
        have ej : ((i : Int) + 1) = ((i + 1 : Nat) : Int) := by omega
        have st := may_stuck s l i
        have sp := may_space s l i a2
        rw [ej] at st sp
        by_cases b1 : hcls (hch s l ((i + 1 : Nat) : Int)) = 1
        · simp only [if_pos b1, if_pos c1, if_pos c0m, hri, if_neg (st (.inl b1)), ite_self]
          exact hnext
        · simp only [if_neg b1]
          by_cases b2 : hcls (hch s l ((i + 1 : Nat) : Int)) = 2
          · simp only [if_pos b2, if_pos c1, if_pos c0m, hri, if_neg (st (.inr (.inl b2))), ite_self]
            exact hnext
          · simp only [if_neg b2, if_pos c1, if_pos c0m, hri]
            by_cases b4 : hcls (hch s l ((i + 1 : Nat) : Int)) = 4
            · simp only [if_neg (st (.inr (.inr b4))), if_pos b4, ite_self]
              exact hnext
            · simp only [if_neg b4, ite_self]
              by_cases a6 : hmay s l i = 1
              · simp only [if_pos a6]; exact hnext
              · have a7 : ¬ hcls (hch s l i) = 2 := fun h => a6 (sp (fun h => h.elim b1 (fun h => h.elim b2 b4)) h)
                simp only [if_neg a6, if_neg a7]
                exact hnext
    refine Ev.step (fun k => by simp only [abugidalaw08_BreaksHeads.l0, if_pos c0, if_pos c1]; rfl) ?_
    refine Ev.bind h1 ?_
    simp only [if_pos h3, if_pos h4]
    refine Ev.bind (ev_class s _) ?_
    show Ev (fun k => if (i : Int) < (M.length : Int) then (if ((rd M i == 2) != (hcls (hch s l i) == 1)) = true then _ else _) else _) _
    simp only [if_pos c0m, hri, e1, Bool.false_eq_true, if_false, if_neg (show ¬ hmay s l i < 0 by omega), decide_eq_false (show ¬ hmay s l i > 2 by omega)]
    exact j1

theorem BreaksHeads : abugidalaw08_BreaksHeads.Pure := by
  intro l _ _ hwf
  obtain ⟨t, ht, h60⟩ := ev_text l hwf 60 (by omega)
  have hsp := spans_length t
  refine Ev.rounds ?_
  unfold abugidalaw08_BreaksHeads.f
  refine Ev.bind ev_sanity ?_
  refine Ev.bind ht ?_
  simp only [split_spans t (by omega), Option.bind_some]
  refine Ev.bind (ev_may t (by omega)) ?_
  simp only [tmay_length, if_true]
  refine heads_l0 t (by omega) (spans t) (by omega) (cov_val t _ 0 (cov_spans t)) (tmay t) (tmay_length t) (fun j hj => ?_) _ 0 (Nat.zero_add _)
  have := rd_hmays t (spans t) (spans t).length 0 j hj
  rwa [Nat.zero_add] at this

end Go.Proofs.Ythllgpjjjegenaa.Pure
