/- FormsPlaces: the order has each place of a cluster once, but those of joiners and breakers; vowel signs that are shown before come first; all others increase. For all numbers. -/
import Derived.Test.YtgpdieogkcnfeaaQx20
import Derived.Test.YtgpdieogkcnfeaaOrd
namespace Go.Proofs.Ytgpdieogkcnfeaa.Pure
open Go.RowKit Go.Proofs.Ytgpdieogkcnfeaa.Q Go.Proofs.Ytgpdieogkcnfeaa.Plain Go.Proofs.YtgpdieogkcnfeaaW.PrintWords Go.Proofs.YtgpdieogkcnfeaaW.PrintLast

theorem mem_hplaces (s : ByteArray) (has : Bool) (cl : List Int) : ∀ (d i : Nat) (x : Int), x ∈ hplaces s has cl d i → ∃ n : Nat, x = (n : Int) ∧ i ≤ n ∧ n < i + d ∧ (cl.any (fun c => hcls (bt s n) == c) == has) = true
  | 0, _, _, h => by cases h
  | d + 1, i, x, h => by
    unfold hplaces at h
    split at h
    · rename_i hc
      rcases List.mem_cons.1 h with rfl | h
      · exact ⟨i, rfl, Nat.le_refl _, by omega, hc⟩
      · obtain ⟨n, h1, h2, h3, h4⟩ := mem_hplaces s has cl d (i + 1) x h
        exact ⟨n, h1, by omega, by omega, h4⟩
    · obtain ⟨n, h1, h2, h3, h4⟩ := mem_hplaces s has cl d (i + 1) x h
      exact ⟨n, h1, by omega, by omega, h4⟩

theorem up_hplaces (s : ByteArray) (has : Bool) (cl : List Int) : ∀ (d i : Nat), (hplaces s has cl d i).Pairwise (· < ·)
  | 0, _ => List.Pairwise.nil
  | d + 1, i => by
    have ih := up_hplaces s has cl d (i + 1)
    unfold hplaces
    split
    · refine List.Pairwise.cons (fun x hx => ?_) ih
      obtain ⟨n, h1, h2, _, _⟩ := mem_hplaces s has cl d (i + 1) x hx
      omega
    · exact ih

theorem count_hplaces (s : ByteArray) (has : Bool) (cl : List Int) : ∀ (d i k : Nat), i ≤ k → k < i + d → (hplaces s has cl d i).count (k : Int) = if (cl.any (fun c => hcls (bt s k) == c) == has) = true then 1 else 0
  | 0, _, _, h1, h2 => by omega
  | d + 1, i, k, h1, h2 => by
    unfold hplaces
    by_cases hk : k = i
    · subst hk
      have h0 : (hplaces s has cl d (k + 1)).count (k : Int) = 0 := by
        rw [List.count_eq_zero]
        intro h
        obtain ⟨n, g1, g2, _, _⟩ := mem_hplaces s has cl d (k + 1) _ h
        omega
      split
      · rw [List.count_cons_self, h0]
      · exact h0
    · have ih := count_hplaces s has cl d (i + 1) k (by omega) (by omega)
      rw [← ih]
      split
      · rw [List.count_cons_of_ne (by omega)]
      · rfl

/-- How often a place stands in the order of its cluster. -/
def htimes (s : ByteArray) (k : Nat) : Nat := if hcls (bt s k) = 13 ∨ hcls (bt s k) = 14 then 0 else 1

theorem any12 (c : Int) : ([12].any (fun x => c == x)) = (c == 12) := by simp
theorem any3 (c : Int) : ([12, 13, 14].any (fun x => c == x)) = (c == 12 || (c == 13 || c == 14)) := by simp

theorem count_hord (s : ByteArray) (a b k : Nat) (h1 : a ≤ k) (h2 : k < b) : (hord s a b).count (k : Int) = htimes s k := by
  unfold hord htimes
  rw [List.count_append, count_hplaces _ _ _ _ _ _ h1 (by omega), count_hplaces _ _ _ _ _ _ h1 (by omega), any12, any3]
  by_cases c12 : hcls (bt s k) = 12
  · rw [c12]; rfl
  · by_cases c13 : hcls (bt s k) = 13
    · rw [c13]; rfl
    · by_cases c14 : hcls (bt s k) = 14
      · rw [c14]; rfl
      · rw [beq_eq_false_iff_ne.mpr c12, beq_eq_false_iff_ne.mpr c13, beq_eq_false_iff_ne.mpr c14, if_neg (show ¬ (hcls (bt s k) = 13 ∨ hcls (bt s k) = 14) by omega)]
        rfl

theorem hplaces_succ (s : ByteArray) (has : Bool) (cl : List Int) (d i : Nat) : hplaces s has cl (d + 1) i = if (cl.any (fun c => hcls (bt s i) == c) == has) = true then (i : Int) :: hplaces s has cl d (i + 1) else hplaces s has cl d (i + 1) := rfl

theorem len_step (s : ByteArray) (d i : Nat) : (hplaces s true [12] (d + 1) i).length + (hplaces s false [12, 13, 14] (d + 1) i).length = htimes s i + ((hplaces s true [12] d (i + 1)).length + (hplaces s false [12, 13, 14] d (i + 1)).length) := by
  rw [hplaces_succ, hplaces_succ]
  unfold htimes
  rw [any12, any3]
  by_cases c12 : hcls (bt s i) = 12
  · rw [c12]; simp; omega
  · by_cases c13 : hcls (bt s i) = 13
    · rw [c13]; simp
    · by_cases c14 : hcls (bt s i) = 14
      · rw [c14]; simp
      · rw [beq_eq_false_iff_ne.mpr c12, beq_eq_false_iff_ne.mpr c13, beq_eq_false_iff_ne.mpr c14, if_neg (show ¬ (hcls (bt s i) = 13 ∨ hcls (bt s i) = 14) by omega)]
        simp; omega

theorem rd_get (p : List Int) (j : Nat) (h : j < p.length) : rd p (j : Int) = p[j] := by
  unfold rd
  rw [Int.toNat_natCast, List.getD_eq_getElem?_getD, List.getElem?_eq_getElem h]
  rfl

/-- Neighbours in two lists behind each other, both going up, of one class and of the others. -/
theorem adj_lists (s : ByteArray) (P R : List Int) (u1 : P.Pairwise (· < ·)) (u2 : R.Pairwise (· < ·)) (c1 : ∀ (x : Int), x ∈ P → ∃ n : Nat, x = (n : Int) ∧ n < s.size ∧ hcls (bt s n) = 12) (c2 : ∀ (x : Int), x ∈ R → ∃ n : Nat, x = (n : Int) ∧ n < s.size ∧ ¬ hcls (bt s n) = 12)
    (j : Nat) (h : j + 1 < (P ++ R).length) : ∃ m n : Nat, rd (P ++ R) (j : Int) = m ∧ rd (P ++ R) ((j + 1 : Nat) : Int) = n ∧ m < s.size ∧ n < s.size ∧
    (hcls (bt s n) = 12 → hcls (bt s m) = 12) ∧ ((hcls (bt s m) == 12) = (hcls (bt s n) == 12) → m < n) := by
  have u1 := List.pairwise_iff_getElem.1 u1
  have u2 := List.pairwise_iff_getElem.1 u2
  rw [rd_get _ _ (by omega), rd_get _ _ h]
  rw [List.length_append] at h
  by_cases h1 : j + 1 < P.length
  · rw [List.getElem_append_left (by omega), List.getElem_append_left h1]
    obtain ⟨m, e1, l1, k1⟩ := c1 P[j] (List.getElem_mem _)
    obtain ⟨n, e2, l2, k2⟩ := c1 P[j + 1] (List.getElem_mem _)
    refine ⟨m, n, e1, e2, l1, l2, fun _ => k1, fun _ => ?_⟩
    have := u1 j (j + 1) (by omega) h1 (by omega)
    omega
  · rw [List.getElem_append_right (show P.length ≤ j + 1 by omega)]
    obtain ⟨n, e2, l2, k2⟩ := c2 (R[j + 1 - P.length]'(by omega)) (List.getElem_mem _)
    by_cases h2 : j < P.length
    · rw [List.getElem_append_left h2]
      obtain ⟨m, e1, l1, k1⟩ := c1 P[j] (List.getElem_mem _)
      refine ⟨m, n, e1, e2, l1, l2, fun h => absurd h k2, fun h => ?_⟩
      rw [k1, beq_eq_false_iff_ne.mpr k2] at h
      cases h
    · rw [List.getElem_append_right (show P.length ≤ j by omega)]
      obtain ⟨m, e1, l1, k1⟩ := c2 (R[j - P.length]'(by omega)) (List.getElem_mem _)
      refine ⟨m, n, e1, e2, l1, l2, fun h => absurd h k2, fun _ => ?_⟩
      have := u2 (j - P.length) (j + 1 - P.length) (by omega) (by omega) (by omega)
      omega

/-- Neighbours in the order. -/
theorem hord_adj (s : ByteArray) (a b : Nat) (hb : b ≤ s.size) (hab : a ≤ b) (j : Nat) (h : j + 1 < (hord s a b).length) : ∃ m n : Nat, rd (hord s a b) (j : Int) = m ∧ rd (hord s a b) ((j + 1 : Nat) : Int) = n ∧ m < s.size ∧ n < s.size ∧
    (hcls (bt s n) = 12 → hcls (bt s m) = 12) ∧ ((hcls (bt s m) == 12) = (hcls (bt s n) == 12) → m < n) := by
  refine adj_lists s _ _ (up_hplaces s true [12] (b - a) a) (up_hplaces s false [12, 13, 14] (b - a) a) (fun x hx => ?_) (fun x hx => ?_) j h
  · obtain ⟨n, g1, g2, g3, g4⟩ := mem_hplaces s true [12] (b - a) a x hx
    rw [any12, beq_iff_eq, beq_iff_eq] at g4
    exact ⟨n, g1, by omega, g4⟩
  · obtain ⟨n, g1, g2, g3, g4⟩ := mem_hplaces s false [12, 13, 14] (b - a) a x hx
    refine ⟨n, g1, by omega, fun h12 => ?_⟩
    rw [any3, h12] at g4
    cases g4

theorem places_l3 (s : ByteArray) (L : List S29) (n : Int) (a b : Nat) (hb : b ≤ s.size) (hab : a ≤ b) (hlen : (hord s a b).length ≤ 1000) (hnext : Ev (fun k => abugidalaw17_FormsPlaces.l0 k true s L (wrap64 (n + 1))) true) (d : Nat) :
    ∀ j : Nat, 1 ≤ j → (hord s a b).length ≤ j + d → Ev (fun k => abugidalaw17_FormsPlaces.l3 k true s L n (hord s a b) j) true := by
  induction d with
  | zero =>
    intro j h1 h2
    refine Ev.step (fun k => by simp only [abugidalaw17_FormsPlaces.l3, if_neg (show ¬ (j : Int) < ((hord s a b).length : Int) by omega)]; rfl) ?_
    exact hnext
  | succ d ih =>
    intro j h1 h2
    by_cases hj : j < (hord s a b).length
    · have hw : wrap64 ((j : Int) + 1) = ((j + 1 : Nat) : Int) := by rw [w64 _ (by omega) (by omega)]; omega
      obtain ⟨i, rfl⟩ : ∃ i, j = i + 1 := ⟨j - 1, by omega⟩
      have hw1 : wrap64 (((i + 1 : Nat) : Int) - 1) = (i : Int) := by rw [w64 _ (by omega) (by omega)]; omega
      obtain ⟨p, q, e1, e2, l1, l2, k1, k2⟩ := hord_adj s a b hb hab i hj
      have n0 : ((i + 1 : Nat) : Int) < ((hord s a b).length : Int) := by omega
      have n1 : (i : Int) < ((hord s a b).length : Int) := by omega
      have n2 : (0 : Int) ≤ (i : Int) := by omega
      have n3 : (0 : Int) ≤ ((i + 1 : Nat) : Int) := by omega
      have n4 : (0 : Int) ≤ (p : Int) := by omega
      have n5 : (p : Int) < (s.size : Int) := by omega
      have n6 : (0 : Int) ≤ (q : Int) := by omega
      have n7 : (q : Int) < (s.size : Int) := by omega
      have nx := ih (i + 1 + 1) (by omega) (by omega)
      refine Ev.step (fun k => by simp only [abugidalaw17_FormsPlaces.l3, if_pos n0, hw1, if_pos n2, if_pos n1, e1, e2, if_pos n3, if_pos n4, if_pos n5, if_pos n6, if_pos n7, hw]; rfl) ?_
      refine Ev.bind (ev_class s p) ?_
      refine Ev.bind (ev_class s q) ?_
      have hcmp : ((hcls (bt s (p : Int)) == 12) == (hcls (bt s (q : Int)) == 12)) = true → ¬ (p : Int) ≥ (q : Int) := by
        intro h
        rw [beq_iff_eq] at h
        have := k2 h
        omega
      by_cases cq : hcls (bt s (q : Int)) = 12
      · have cp := k1 cq
        have h3 : ((hcls (bt s (p : Int)) == 12) == (hcls (bt s (q : Int)) == 12)) = true := by rw [cp, cq]; rfl
        simp only [if_pos cq, if_pos cp, if_pos h3, if_neg (hcmp h3)]
        exact nx
      · by_cases h3 : ((hcls (bt s (p : Int)) == 12) == (hcls (bt s (q : Int)) == 12)) = true
        · simp only [if_neg cq, if_pos h3, if_neg (hcmp h3)]
          exact nx
        · simp only [if_neg cq, if_neg h3]
          exact nx
    · refine Ev.step (fun k => by simp only [abugidalaw17_FormsPlaces.l3, if_neg (show ¬ (j : Int) < ((hord s a b).length : Int) by omega)]; rfl) ?_
      exact hnext

theorem places_l2 (s : ByteArray) (L : List S29) (n : Int) (p : List Int) (hp : p.length ≤ 1000) (seen x c : Int) (r : Bool) : ∀ (suf pre : List Int) (m : Nat), pre ++ suf = p → m ≤ pre.length →
    Ev (fun k => abugidalaw17_FormsPlaces.l2 k true s L n p seen x c ((m + suf.count x : Nat) : Int) (p.length : Int)) r → Ev (fun k => abugidalaw17_FormsPlaces.l2 k true s L n p seen x c (m : Int) (pre.length : Int)) r
  | [], pre, m, h, _, he => by
    rw [List.append_nil] at h
    subst h
    simpa using he
  | y :: suf, pre, m, h, hm, he => by
    have hlen : pre.length < p.length := by rw [← h, List.length_append, List.length_cons]; omega
    have hr : rd p (pre.length : Int) = y := by
      unfold rd
      rw [← h]
      simp
    have hw : wrap64 ((pre.length : Int) + 1) = (((pre ++ [y]).length : Nat) : Int) := by rw [w64 _ (by omega) (by omega), List.length_append, List.length_singleton]; omega
    have hwm : wrap64 ((m : Int) + 1) = ((m + 1 : Nat) : Int) := by rw [w64 _ (by omega) (by omega)]; omega
    have c0 : (pre.length : Int) < (p.length : Int) := by omega
    have c1 : (0 : Int) ≤ pre.length := by omega
    by_cases hy : y = x
    · subst hy
      have ih := places_l2 s L n p hp seen y c r suf (pre ++ [y]) (m + 1) (by rw [List.append_assoc]; exact h) (by simp; omega) (by rw [List.count_cons_self] at he; rw [show m + 1 + suf.count y = m + (suf.count y + 1) by omega]; exact he)
      refine Ev.step (fun k => by simp only [abugidalaw17_FormsPlaces.l2, if_pos c0, if_pos c1, hr, if_true, hw, hwm]; rfl) ?_
      exact ih
    · have ih := places_l2 s L n p hp seen x c r suf (pre ++ [y]) m (by rw [List.append_assoc]; exact h) (by simp; omega) (by rw [List.count_cons_of_ne hy] at he; exact he)
      refine Ev.step (fun k => by simp only [abugidalaw17_FormsPlaces.l2, if_pos c0, if_pos c1, hr, if_neg hy, hw]; rfl) ?_
      exact ih

theorem places_l2_from (s : ByteArray) (L : List S29) (n : Int) (p : List Int) (hp : p.length ≤ 1000) (seen x c : Int) (r : Bool) (t : Nat) (ht : p.count x = t)
    (he : Ev (fun k => abugidalaw17_FormsPlaces.l2 k true s L n p seen x c (t : Int) (p.length : Int)) r) : Ev (fun k => abugidalaw17_FormsPlaces.l2 k true s L n p seen x c 0 0) r := by
  have h := places_l2 s L n p hp seen x c r p [] 0 rfl (Nat.le_refl _) (by rw [Nat.zero_add, ht]; exact he)
  have e0 : ((0 : Nat) : Int) = 0 := rfl
  rw [List.length_nil, e0] at h
  exact h

theorem places_l1 (s : ByteArray) (hs : s.size ≤ 400) (L : List S29) (n : Nat) (hn : n < L.length) (a b : Nat) (e : rd_T29 L (n : Int) = ⟨a, b⟩) (hb : b ≤ s.size) (hab : a < b) (hnext : Ev (fun k => abugidalaw17_FormsPlaces.l0 k true s L (wrap64 ((n : Int) + 1))) true) :
    ∀ (d i seen : Nat), i + d = b → a ≤ i → seen + ((hplaces s true [12] d i).length + (hplaces s false [12, 13, 14] d i).length) = (hord s a b).length → Ev (fun k => abugidalaw17_FormsPlaces.l1 k true s L n (hord s a b) seen i) true
  | 0, i, seen, hi, _, hsn => by
    have l1 := hplaces_length s true [12] (b - a) a
    have l2 := hplaces_length s false [12, 13, 14] (b - a) a
    have hlen : (hord s a b).length ≤ 1000 := by clear hsn; unfold hord; rw [List.length_append]; omega
    clear l1 l2
    simp only [hplaces, List.length_nil, Nat.add_zero] at hsn
    have hse : (seen : Int) = ((hord s a b).length : Int) := by omega
    have h3 := places_l3 s L n a b hb (by omega) hlen hnext (hord s a b).length 1 (Nat.le_refl _) (by omega)
    rw [show ((1 : Nat) : Int) = 1 from rfl] at h3
    generalize hord s a b = p at *
    refine Ev.step (fun k => by simp only [abugidalaw17_FormsPlaces.l1, if_pos (show (0 : Int) ≤ (n : Int) by omega), if_pos (show (n : Int) < (L.length : Int) by omega), e, if_neg (show ¬ (i : Int) < (b : Int) by omega), if_pos hse]; rfl) ?_
    exact h3
  | d + 1, i, seen, hi, hai, hsn => by
    have l1 := hplaces_length s true [12] (b - a) a
    have l2 := hplaces_length s false [12, 13, 14] (b - a) a
    have hlen : (hord s a b).length ≤ 1000 := by clear hsn; unfold hord; rw [List.length_append]; omega
    clear l1 l2
    have hw : wrap64 ((i : Int) + 1) = ((i + 1 : Nat) : Int) := by clear hsn; rw [w64 _ (by omega) (by omega)]; omega
    rw [len_step, ← Nat.add_assoc] at hsn
    have ih := places_l1 s hs L n hn a b e hb hab hnext d (i + 1) (seen + htimes s i) (by clear hsn; omega) (by clear hsn; omega) hsn
    have hle : seen ≤ (hord s a b).length := by rw [← hsn, Nat.add_assoc]; exact Nat.le_add_right _ _
    clear hsn
    have hct := count_hord s a b i hai (by omega)
    have ht1 : htimes s i ≤ 1 := by unfold htimes; split <;> omega
    have hws : wrap64 ((seen : Int) + (htimes s i : Int)) = ((seen + htimes s i : Nat) : Int) := by rw [w64 _ (by omega) (by omega)]; omega
    generalize hord s a b = p at *
    refine Ev.step (fun k => by simp only [abugidalaw17_FormsPlaces.l1, if_pos (show (0 : Int) ≤ (n : Int) by omega), if_pos (show (n : Int) < (L.length : Int) by omega), e, if_pos (show (i : Int) < (b : Int) by omega), if_pos (show (0 : Int) ≤ (i : Int) by omega), if_pos (show (i : Int) < (s.size : Int) by omega)]; rfl) ?_
    refine Ev.bind (ev_class s i) ?_
    refine places_l2_from s L n p hlen seen i _ true (htimes s i) hct ?_
    clear hct
    by_cases c13 : hcls (bt s i) = 13
    · have ht : htimes s i = 0 := by unfold htimes; rw [if_pos (.inl c13)]
      refine Ev.step (fun k => by simp only [abugidalaw17_FormsPlaces.l2, if_neg (show ¬ (p.length : Int) < (p.length : Int) by omega), if_pos c13, if_pos (show ((htimes s i : Nat) : Int) = 0 by omega), hws, hw]; rfl) ?_
      exact ih
    · by_cases c14 : hcls (bt s i) = 14
      · have ht : htimes s i = 0 := by unfold htimes; rw [if_pos (.inr c14)]
        refine Ev.step (fun k => by simp only [abugidalaw17_FormsPlaces.l2, if_neg (show ¬ (p.length : Int) < (p.length : Int) by omega), if_neg c13, if_pos c14, if_pos (show ((htimes s i : Nat) : Int) = 0 by omega), hws, hw]; rfl) ?_
        exact ih
      · have ht : htimes s i = 1 := by unfold htimes; rw [if_neg (by omega)]
        refine Ev.step (fun k => by simp only [abugidalaw17_FormsPlaces.l2, if_neg (show ¬ (p.length : Int) < (p.length : Int) by omega), if_neg c13, if_neg c14, if_pos (show ((htimes s i : Nat) : Int) = 1 by omega), hws, hw]; rfl) ?_
        exact ih

theorem val_cov (s : ByteArray) (N : Nat) : ∀ (l : List S29) (a : Nat), Cov s N a l → ∀ i : Nat, i < l.length → ∃ x y : Nat, rd_T29 l (i : Int) = ⟨x, y⟩ ∧ x < y ∧ y ≤ N
  | [], _, _ => fun i hi => absurd hi (by simp)
  | sp :: t, a, ⟨b, e, h1, h2, _, _, _, h6⟩ => by
    intro i hi
    cases i with
    | zero => exact ⟨a, b, by rw [e]; rfl, h1, h2⟩
    | succ i =>
      obtain ⟨a', b', g1, g2, g3⟩ := val_cov s N t b h6 i (by simpa using hi)
      refine ⟨a', b', ?_, g2, g3⟩
      rw [← g1]
      unfold rd_T29
      simp

theorem places_l0 (s : ByteArray) (hs : s.size ≤ 400) (d : Nat) : ∀ i : Nat, i + d = (spans s).length → Ev (fun k => abugidalaw17_FormsPlaces.l0 k true s (spans s) i) true := by
  have hsp := spans_length s
  induction d with
  | zero =>
    intro i hi
    refine Ev.step (fun k => by simp only [abugidalaw17_FormsPlaces.l0, if_neg (show ¬ (i : Int) < ((spans s).length : Int) by omega)]; rfl) ?_
    exact Ev.now _
  | succ d ih =>
    intro i hi
    have hw : wrap64 ((i : Int) + 1) = ((i + 1 : Nat) : Int) := by rw [w64 _ (by omega) (by omega)]; omega
    obtain ⟨a, b, e, h1, h2⟩ := val_cov s s.size (spans s) 0 (cov_spans s) i (by omega)
    refine Ev.step (fun k => by simp only [abugidalaw17_FormsPlaces.l0, if_pos (show (i : Int) < ((spans s).length : Int) by omega), if_pos (show (0 : Int) ≤ i by omega), e]; rfl) ?_
    refine Ev.bind (ev_order_in s (by omega) a b h1 h2).1 ?_
    have h0 := places_l1 s hs (spans s) i (by omega) a b e h2 h1 (by rw [hw]; exact ih (i + 1) (by omega)) (b - a) a 0 (by omega) (Nat.le_refl _) (by rw [Nat.zero_add]; unfold hord; rw [List.length_append])
    have e0 : ((0 : Nat) : Int) = 0 := rfl
    rw [e0] at h0
    exact h0

theorem FormsPlaces : abugidalaw17_FormsPlaces.Pure := by
  intro l _ _ hwf
  obtain ⟨t, ht, h60⟩ := ev_text l hwf 60 (by omega)
  refine Ev.rounds ?_
  unfold abugidalaw17_FormsPlaces.f
  refine Ev.bind ev_sanity ?_
  refine Ev.bind ht ?_
  simp only [split_spans t (by omega), Option.bind_some]
  exact places_l0 t (by omega) _ 0 (Nat.zero_add _)

end Go.Proofs.Ytgpdieogkcnfeaa.Pure
