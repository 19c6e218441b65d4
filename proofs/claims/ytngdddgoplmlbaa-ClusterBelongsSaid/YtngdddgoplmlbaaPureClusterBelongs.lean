/- ClusterBelongs: inside of a cluster there are only characters that extend, and consonants behind a virama; a cluster begins with one of them only at the beginning, behind the end of a line, or behind a full cluster. For all numbers. -/
import Derived.Test.YtngdddgoplmlbaaQx13
import Derived.Test.YtngdddgoplmlbaaMade
namespace Go.Proofs.Ytngdddgoplmlbaa.Pure
open Go.RowKit Go.Proofs.Ytngdddgoplmlbaa.Q Go.Proofs.Ytngdddgoplmlbaa.Plain Go.Proofs.YtngdddgoplmlbaaW.PrintWords Go.Proofs.YtngdddgoplmlbaaW.PrintLast

theorem rdG_pre (pre suf : List S30) (sp : S30) : rd_T30 (pre ++ sp :: suf) (pre.length : Int) = sp := by
  unfold rd_T30
  simp

/-- Behind the end of a line? -/
def lineAt (s : ByteArray) (i : Nat) : Bool := decide (0 < i) && (hcls (bt s ((i : Int) - 1)) == 1)
/-- Does a character belong to the cluster before it? -/
def belongs (s : ByteArray) (i : Nat) : Bool := hext (bt s i) || (decide (hcls (bt s i) = 9) && (decide (0 < i) && (hcls (bt s ((i : Int) - 1)) == 10)))

theorem inside (s : ByteArray) (i a : Nat) (ha : a < i) (h : hbegin s i a = false) : belongs s i = true ∧ lineAt s i = false := by
  have hp : decide (0 < i) = true := decide_eq_true (by omega)
  unfold hbegin at h
  simp only [Bool.or_eq_false_iff, Bool.not_eq_false'] at h
  unfold belongs lineAt
  rw [hp, h.1.2, Bool.true_and, Bool.true_and]
  refine ⟨?_, rfl⟩
  rcases Bool.or_eq_true _ _ ▸ h.2 with h1 | h1
  · rw [h1]; rfl
  · rw [Bool.and_eq_true, beq_iff_eq] at h1
    rw [h1.1, h1.2]
    simp

theorem begins (s : ByteArray) (i a : Nat) (h : hbegin s i a = true) : i = 0 ∨ i = a + 6 ∨ lineAt s i = true ∨ belongs s i = false := by
  rcases Nat.eq_zero_or_pos i with h0 | h0
  · exact .inl h0
  have hp : decide (0 < i) = true := decide_eq_true h0
  unfold hbegin at h
  simp only [Bool.or_eq_true, beq_iff_eq] at h
  rcases h with ((h | h) | h) | h
  · exact .inl h
  · exact .inr (.inl h)
  · exact .inr (.inr (.inl (by unfold lineAt; rw [hp, h]; rfl)))
  · refine .inr (.inr (.inr ?_))
    unfold belongs
    rw [hp, Bool.true_and]
    simp only [Bool.not_eq_true', Bool.or_eq_false_iff] at h
    rw [h.1, Bool.false_or]
    exact h.2

theorem belongs_l1 (s : ByteArray) (L _suf : List S30) (n : Int) (p : Nat) (a b : Nat) (full : Bool) (hp : p < L.length) (hL : L.length ≤ 1000) (hb : b ≤ s.size) (hs : s.size ≤ 1000) (hin : ∀ i, a < i → i < b → hbegin s i a = false)
    (hbeg : a = 0 ∨ full = true ∨ lineAt s a = true ∨ belongs s a = false)
    (hfull : 0 < p → (wrap64 ((rd_T30 L (wrap64 ((p : Int) - 1))).f1 - (rd_T30 L (wrap64 ((p : Int) - 1))).f0) == 6) = full) (hfull0 : p = 0 → a = 0)
    (h : Ev (fun k => abugidalaw06_ClusterBelongs.l0 k true s L L n (wrap64 ((p : Int) + 1))) true) (d : Nat) : ∀ i : Nat, i + d = b → a ≤ i →
    Ev (fun k => abugidalaw06_ClusterBelongs.l1 k true s L p i L n p a b) true := by
  induction d with
  | zero =>
    intro i hi ha
    refine Ev.step (fun k => by simp only [abugidalaw06_ClusterBelongs.l1, if_neg (show ¬ (i : Int) < (b : Int) by omega)]; rfl) ?_
    exact h
  | succ d ih =>
    intro i hi ha
    have hw : wrap64 ((i : Int) + 1) = ((i + 1 : Nat) : Int) := by rw [w64 _ (by omega) (by omega)]; omega
    have hw1 : wrap64 ((i : Int) - 1) = (i : Int) - 1 := w64 _ (by omega) (by omega)
    have hi0 : (0 : Int) ≤ i := by omega
    have hi1 : (i : Int) < (s.size : Int) := by omega
    have j6 : Ev (fun k => abugidalaw06_ClusterBelongs.j6 k true s L p i L n p false a b) true := by
      refine Ev.step (fun k => by simp only [abugidalaw06_ClusterBelongs.j6, Bool.false_eq_true, if_false, hw]; rfl) ?_
      exact ih (i + 1) (by omega) (by omega)
    have j5 : ∀ fl : Bool, (0 < p → fl = full) → Ev (fun k => abugidalaw06_ClusterBelongs.j5 k true s L p i (lineAt s i) (belongs s i) fl L n p a b) true := by
      intro fl hfl
      by_cases hia : a < i
      · obtain ⟨e1, e2⟩ := inside s i a hia (hin i hia (by omega))
        refine Ev.step (fun k => by simp only [abugidalaw06_ClusterBelongs.j5, if_pos (show (i : Int) > (a : Int) by omega), e1, e2, if_true, Bool.false_eq_true, if_false, if_neg (show ¬ (i : Int) = (a : Int) by omega)]; rfl) ?_
        exact j6
      · obtain rfl : i = a := by omega
        refine Ev.step (fun k => by simp only [abugidalaw06_ClusterBelongs.j5, if_neg (show ¬ (i : Int) > (i : Int) by omega), if_true]; rfl) ?_
        cases hbl : belongs s i with
        | false => simp only [Bool.false_eq_true, if_false]; exact j6
        | true =>
          simp only [if_true]
          by_cases h0 : i = 0
          · simp only [if_neg (show ¬ (i : Int) > 0 by omega)]; exact j6
          · simp only [if_pos (show (i : Int) > 0 by omega)]
            cases hl : lineAt s i with
            | true => simp only [if_true]; exact j6
            | false =>
              simp only [Bool.false_eq_true, if_false]
              have hf : fl = true := by
                rcases hbeg with h1 | h1 | h1 | h1
                · exact absurd h1 h0
                · rw [hfl (by rcases Nat.eq_zero_or_pos p with h2 | h2; exact absurd (hfull0 h2) h0; exact h2)]; exact h1
                · rw [hl] at h1; cases h1
                · rw [hbl] at h1; cases h1
              rw [hf]
              exact j6
    have j4 : Ev (fun k => abugidalaw06_ClusterBelongs.j4 k true s L p i (lineAt s i) (belongs s i) L n p a b) true := by
      by_cases hp0 : 0 < p
      · have hwp : wrap64 ((p : Int) - 1) = (p : Int) - 1 := w64 _ (by omega) (by omega)
        refine Ev.step (fun k => by simp only [abugidalaw06_ClusterBelongs.j4, if_pos (show (p : Int) > 0 by omega), if_pos (show 0 ≤ wrap64 ((p : Int) - 1) by rw [hwp]; omega), if_pos (show wrap64 ((p : Int) - 1) < (L.length : Int) by rw [hwp]; omega), hfull hp0]; rfl) ?_
        exact j5 full (fun _ => rfl)
      · refine Ev.step (fun k => by simp only [abugidalaw06_ClusterBelongs.j4, if_neg (show ¬ (p : Int) > 0 by omega)]; rfl) ?_
        exact j5 false (fun h => absurd h hp0)
    have j3 : Ev (fun k => abugidalaw06_ClusterBelongs.j3 k true s L p i (hcls (bt s i)) (lineAt s i) L n p a b) true := by
      refine Ev.step (fun k => by simp only [abugidalaw06_ClusterBelongs.j3, if_pos hi0, if_pos hi1]; rfl) ?_
      refine Ev.bind (ev_ext s i) ?_
      have hbl : belongs s i = (hext (bt s i) || (decide (hcls (bt s i) = 9) && (decide (0 < i) && (hcls (bt s ((i : Int) - 1)) == 10)))) := rfl
      cases he : hext (bt s i) with
      | true =>
        rw [he, Bool.true_or] at hbl
        simp only [if_true]
        rw [hbl] at j4
        exact j4
      | false =>
        rw [he, Bool.false_or] at hbl
        simp only [Bool.false_eq_true, if_false]
        by_cases h9 : hcls (bt s i) = 9
        · simp only [if_pos h9]
          rw [decide_eq_true h9, Bool.true_and] at hbl
          by_cases h0 : 0 < i
          · simp only [if_pos (show (i : Int) > 0 by omega), hw1, if_pos (show (0 : Int) ≤ (i : Int) - 1 by omega), if_pos (show (i : Int) - 1 < (s.size : Int) by omega)]
            refine Ev.bind (ev_class s ((i : Int) - 1)) ?_
            rw [decide_eq_true h0, Bool.true_and] at hbl
            simp only [← hbl]
            exact j4
          · simp only [if_neg (show ¬ (i : Int) > 0 by omega)]
            rw [decide_eq_false h0, Bool.false_and] at hbl
            rw [hbl] at j4
            exact j4
        · simp only [if_neg h9]
          rw [decide_eq_false h9, Bool.false_and] at hbl
          rw [hbl] at j4
          exact j4
    refine Ev.step (fun k => by simp only [abugidalaw06_ClusterBelongs.l1, if_pos (show (i : Int) < (b : Int) by omega), if_pos hi0, if_pos hi1]; rfl) ?_
    refine Ev.bind (ev_class s i) ?_
    have hln : lineAt s i = (decide (0 < i) && (hcls (bt s ((i : Int) - 1)) == 1)) := rfl
    by_cases h0 : 0 < i
    · simp only [if_pos (show (i : Int) > 0 by omega), hw1, if_pos (show (0 : Int) ≤ (i : Int) - 1 by omega), if_pos (show (i : Int) - 1 < (s.size : Int) by omega)]
      refine Ev.bind (ev_class s ((i : Int) - 1)) ?_
      rw [decide_eq_true h0, Bool.true_and] at hln
      simp only [← hln]
      exact j3
    · simp only [if_neg (show ¬ (i : Int) > 0 by omega)]
      rw [decide_eq_false h0, Bool.false_and] at hln
      rw [hln] at j3
      exact j3

theorem belongs_l0 (s : ByteArray) (hs : s.size ≤ 100) : ∀ (suf pre : List S30) (a : Nat), pre ++ suf = spans s → Cov s s.size a suf → (pre = [] → a = 0) → (∀ pre' sp, pre = pre' ++ [sp] → suf ≠ [] → ∃ a' : Nat, sp = ⟨a', a⟩ ∧ a' < a ∧ hbegin s a a' = true) →
    Ev (fun k => abugidalaw06_ClusterBelongs.l0 k true s (spans s) (spans s) ((spans s).length : Int) (pre.length : Int)) true
  | [], pre, a, hL, _, _, _ => by
    rw [List.append_nil] at hL
    refine Ev.step (fun k => by simp only [abugidalaw06_ClusterBelongs.l0, hL, if_neg (show ¬ ((spans s).length : Int) < ((spans s).length : Int) by omega)]; rfl) ?_
    exact Ev.now _
  | sp :: suf, pre, a, hL, ⟨b, e, h1, h2, h3, h4, h5, h6⟩, hz, hprev => by
    subst e
    have hr : rd_T30 (spans s) (pre.length : Int) = ⟨a, b⟩ := by rw [← hL]; exact rdG_pre _ _ _
    have hlen : pre.length < (spans s).length := by rw [← hL, List.length_append, List.length_cons]; omega
    have hll := spans_length s
    have hw : wrap64 ((pre.length : Int) + 1) = (((pre ++ [(⟨a, b⟩ : S30)]).length : Nat) : Int) := by rw [w64 _ (by omega) (by omega), List.length_append, List.length_singleton]; omega
    have ih := belongs_l0 s hs suf (pre ++ [⟨a, b⟩]) b (by rw [List.append_assoc]; exact hL) h6 (fun h => by simp at h) (fun pre' sp' he hne => by
      obtain ⟨_, e2⟩ := List.append_inj' he rfl
      obtain rfl : (⟨a, b⟩ : S30) = sp' := by simpa using e2
      refine ⟨a, rfl, h1, h5 ?_⟩
      cases suf with
      | nil => exact absurd rfl hne
      | cons q t => obtain ⟨c, _, g1, g2, _⟩ := h6; omega)
    rw [← hw] at ih
    refine Ev.step (fun k => by simp only [abugidalaw06_ClusterBelongs.l0, if_pos (show (pre.length : Int) < ((spans s).length : Int) by omega), if_pos (show (0 : Int) ≤ pre.length by omega), hr, if_neg (show ¬ (a : Int) < 0 by omega), if_neg (show ¬ (a : Int) ≥ (b : Int) by omega), decide_eq_false (show ¬ (b : Int) > (s.size : Int) by omega)]; rfl) ?_
    refine Ev.step (fun k => by simp only [abugidalaw06_ClusterBelongs.j1, Bool.false_eq_true, if_false]; rfl) ?_
    rcases List.eq_nil_or_concat pre with hpre | ⟨pre', sp', hpre⟩
    · subst hpre
      exact belongs_l1 s (spans s) suf _ 0 a b false hlen (by omega) h2 (by omega) h4 (.inl (hz rfl)) (fun h => absurd h (Nat.lt_irrefl _)) (fun _ => hz rfl) ih (b - a) a (by omega) (Nat.le_refl _)
    · rw [List.concat_eq_append] at hpre
      obtain ⟨a', e1, e2, e3⟩ := hprev pre' sp' hpre (by simp)
      have hpl : pre.length = pre'.length + 1 := by rw [hpre, List.length_append, List.length_singleton]
      have hrp : rd_T30 (spans s) (wrap64 ((pre.length : Int) - 1)) = ⟨a', a⟩ := by
        rw [w64 _ (by omega) (by omega), show ((pre.length : Int) - 1) = (pre'.length : Int) by omega, ← hL, hpre, e1, List.append_assoc]
        exact rdG_pre _ _ _
      have hbeg : a = 0 ∨ (decide (a = a' + 6)) = true ∨ lineAt s a = true ∨ belongs s a = false := by
        rcases begins s a a' e3 with h | h | h | h
        · exact .inl h
        · exact .inr (.inl (decide_eq_true h))
        · exact .inr (.inr (.inl h))
        · exact .inr (.inr (.inr h))
      refine belongs_l1 s (spans s) suf _ pre.length a b (decide (a = a' + 6)) hlen (by omega) h2 (by omega) h4 hbeg (fun _ => ?_) (fun h => by omega) ih (b - a) a (by omega) (Nat.le_refl _)
      rw [hrp]
      show (wrap64 ((a : Int) - a') == 6) = _
      have hal := cov_le s s.size (⟨a, b⟩ :: suf) a ⟨b, rfl, h1, h2, h3, h4, h5, h6⟩
      rw [w64 _ (by omega) (by omega), Bool.eq_iff_iff, beq_iff_eq, decide_eq_true_eq]
      omega

theorem ClusterBelongs : abugidalaw06_ClusterBelongs.Pure := by
  intro l _ _ _
  obtain ⟨t, ht, h60⟩ := ev_made l 60 (by omega)
  refine Ev.rounds ?_
  unfold abugidalaw06_ClusterBelongs.f
  refine Ev.bind ev_sanity ?_
  refine Ev.bind ht ?_
  simp only [split_spans t (by omega), Option.bind_some]
  exact belongs_l0 t (by omega) (spans t) [] 0 rfl (cov_spans t) (fun _ => rfl) (fun _ _ h => by simp at h)

end Go.Proofs.Ytngdddgoplmlbaa.Pure
