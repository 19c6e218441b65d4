/- FormsNeighbours: what joins on is followed by what is joined to, and the reverse. For all numbers. -/
import Derived.Test.YtgpdieogkcnfeaaQx18
import Derived.Test.YtgpdieogkcnfeaaOwn
namespace Go.Proofs.Ytgpdieogkcnfeaa.Pure
open Go.RowKit Go.Proofs.Ytgpdieogkcnfeaa.Q Go.Proofs.Ytgpdieogkcnfeaa.Plain Go.Proofs.YtgpdieogkcnfeaaW.PrintWords Go.Proofs.YtgpdieogkcnfeaaW.PrintLast

theorem rd_hforms (s : ByteArray) (l : List S29) : ∀ (d i j : Nat), j < d → rd (hforms s l d i) (j : Int) = hform s l ((i + j : Nat) : Int)
  | 0, _, _, h => absurd h (by omega)
  | d + 1, i, 0, _ => rfl
  | d + 1, i, j + 1, h => by
    have ih := rd_hforms s l d (i + 1) j (by omega)
    unfold rd at ih ⊢
    rw [Int.toNat_natCast] at ih ⊢
    unfold hforms
    rw [List.getD_cons_succ, ih]
    congr 2
    omega

theorem la_lb {s : ByteArray} {l : List S29} {i : Int} (h : la s l i = true) : lb s l i = true := by
  unfold la at h
  unfold lb
  rw [Bool.and_eq_true] at h ⊢
  exact ⟨h.1, by rw [h.2]; rfl⟩
theorem hon_la {s : ByteArray} {l : List S29} {i : Int} (h : hon s l i = true) : la s l i = true := by
  unfold hon at h
  rw [Bool.and_eq_true] at h
  exact h.1
theorem hon_next {s : ByteArray} {l : List S29} {i : Int} (h : hon s l i = true) (hj : ¬ hcls (bt s ((rd_T29 l i).f1 - 1)) = 13) : lb s l (i + 1) = true := by
  unfold hon at h
  rw [Bool.and_eq_true] at h
  have h2 := h.2
  by_cases c : hcls (bt s ((rd_T29 l i).f1 - 1)) = 14
  · rw [if_pos c] at h2; cases h2
  · rwa [if_neg c, if_neg hj] at h2
theorem lb_in {s : ByteArray} {l : List S29} {i : Int} (h : lb s l i = true) : 0 ≤ i ∧ i < (l.length : Int) := by
  unfold lb at h
  simp only [Bool.and_eq_true, decide_eq_true_eq] at h
  exact h.1

theorem form_on {s : ByteArray} {l : List S29} {i : Int} : (hform s l i == 2 || hform s l i == 3) = (lb s l i && hon s l i) := by
  unfold hform
  cases lb s l i <;> cases hon s l (i - 1) <;> cases hon s l i <;> rfl
theorem form_to {s : ByteArray} {l : List S29} {i : Int} : (hform s l i == 4 || hform s l i == 3) = (lb s l i && hon s l (i - 1)) := by
  unfold hform
  cases lb s l i <;> cases hon s l (i - 1) <;> cases hon s l i <;> rfl
theorem form_some {s : ByteArray} {l : List S29} {i : Int} : (lb s l i != (hform s l i != 0)) = false := by
  unfold hform
  cases lb s l i <;> cases hon s l (i - 1) <;> cases hon s l i <;> rfl
theorem form_in {s : ByteArray} {l : List S29} {i : Int} : 0 ≤ hform s l i ∧ hform s l i ≤ 4 := by
  unfold hform
  cases lb s l i <;> cases hon s l (i - 1) <;> cases hon s l i <;> decide

theorem neigh_l0 (s : ByteArray) (hs : s.size ≤ 1000) (l : List S29) (hl : l.length ≤ 1000) (hv : Val s l) (F : List Int) (hF : F.length = l.length) (hfr : ∀ j : Nat, j < l.length → rd F (j : Int) = hform s l (j : Int)) (d : Nat) :
    ∀ i : Nat, i + d = l.length → Ev (fun k => abugidalaw17_FormsNeighbours.l0 k true s l F i) true := by
  induction d with
  | zero =>
    intro i hi
    refine Ev.step (fun k => by simp only [abugidalaw17_FormsNeighbours.l0, if_neg (show ¬ (i : Int) < (l.length : Int) by omega)]; rfl) ?_
    exact Ev.now _
  | succ d ih =>
    intro i hi
    have hw : wrap64 ((i : Int) + 1) = ((i + 1 : Nat) : Int) := by rw [w64 _ (by omega) (by omega)]; omega
    have hw1 : wrap64 ((i : Int) - 1) = (i : Int) - 1 := w64 _ (by omega) (by omega)
    have c0 : (i : Int) < (l.length : Int) := by omega
    have c0f : (i : Int) < (F.length : Int) := by omega
    have c1 : (0 : Int) ≤ i := by omega
    obtain ⟨a, b, e, h2, h3⟩ := hv i (by omega)
    have hin := hbase_in s a b h2 (b - a) a (Nat.le_refl _) (by omega)
    have hwb : wrap64 ((b : Int) - 1) = (b : Int) - 1 := w64 _ (by omega) (by omega)
    have hlbi : lb s l i = (hd s (rd_T29 l i) == 7 || hd s (rd_T29 l i) == 8) := by
      unfold lb
      rw [decide_eq_true c0, decide_eq_true c1]
      rfl
    have hnext := ih (i + 1) (by omega)
    have hfi := hfr i (by omega)
    obtain ⟨on, hon'⟩ : ∃ x, x = (hform s l i == 2 || hform s l i == 3) := ⟨_, rfl⟩
    obtain ⟨tu, hto'⟩ : ∃ x, x = (hform s l i == 4 || hform s l i == 3) := ⟨_, rfl⟩
    obtain ⟨jn, hjn'⟩ : ∃ x, x = (hcls (bt s ((b : Int) - 1)) == 13) := ⟨_, rfl⟩
    have hne13 : jn = false → ¬ hcls (bt s ((rd_T29 l (i : Int)).f1 - 1)) = 13 := by
      intro h
      rw [hjn', beq_eq_false_iff_ne] at h
      rw [e]
      exact h
    have on_i : on = true → lb s l i = true ∧ hon s l i = true := by
      intro h
      rw [hon', form_on, Bool.and_eq_true] at h
      exact h
    -- the last step: to the next cluster
    have j5 : Ev (fun k => abugidalaw17_FormsNeighbours.j5 k true s l F i false) true := by
      refine Ev.step (fun k => by simp only [abugidalaw17_FormsNeighbours.j5, Bool.false_eq_true, if_false, hw]; rfl) ?_
      exact hnext
    have fin : Ev (fun k => if on = true then (if jn = true then (abugidalaw17_FormsNeighbours.j5 k true s l F i false) else (abugidalaw17_FormsNeighbours.j5 k true s l F i (((i + 1 : Nat) : Int) == (l.length : Int)))) else (abugidalaw17_FormsNeighbours.j5 k true s l F i false)) true := by
      cases on with
      | false => simp only [Bool.false_eq_true, if_false]; exact j5
      | true =>
        simp only [if_true]
        cases jn with
        | true => simp only [if_true]; exact j5
        | false =>
          have hn := lb_in (hon_next (on_i rfl).2 (hne13 rfl))
          have en : (((i + 1 : Nat) : Int) == (l.length : Int)) = false := beq_eq_false_iff_ne.mpr (by omega)
          simp only [Bool.false_eq_true, if_false, en]
          exact j5
    have j4 : Ev (fun k => abugidalaw17_FormsNeighbours.j4 k true s l F i on tu jn false) true := by
      cases tu with
      | false =>
        refine Ev.step (fun k => by simp only [abugidalaw17_FormsNeighbours.j4, Bool.false_eq_true, if_false, hw]; rfl) ?_
        exact fin
      | true =>
        have t' := hto'.symm
        rw [form_to, Bool.and_eq_true] at t'
        have hlb := la_lb (hon_la t'.2)
        have hp := lb_in hlb
        obtain ⟨j, hj⟩ : ∃ j : Nat, (i : Int) - 1 = (j : Int) := ⟨i - 1, by omega⟩
        have hwj : wrap64 ((i : Int) - 1) = (j : Int) := by rw [hw1, hj]
        rw [hj] at t' hlb
        have hfj := hfr j (by omega)
        have hov : (hform s l (j : Int) == 2 || hform s l (j : Int) == 3) = true := by rw [form_on, hlb, t'.2]; rfl
        have n0 : ¬ (i : Int) = 0 := by omega
        have n1 : (0 : Int) ≤ j := by omega
        have n2 : (j : Int) < (F.length : Int) := by omega
        by_cases f2 : hform s l (j : Int) = 2
        · refine Ev.step (fun k => by simp only [abugidalaw17_FormsNeighbours.j4, Bool.false_eq_true, if_false, if_true, if_neg n0, hwj, if_pos n1, if_pos n2, hfj, if_pos f2, hw]; rfl) ?_
          exact fin
        · have f3 : hform s l (j : Int) = 3 := by
            rw [Bool.or_eq_true, beq_iff_eq, beq_iff_eq] at hov
            exact hov.resolve_left f2
          have n23 : ¬ (3 : Int) = 2 := by decide
          refine Ev.step (fun k => by simp only [abugidalaw17_FormsNeighbours.j4, Bool.false_eq_true, if_false, if_true, if_neg n0, hwj, if_pos n1, if_pos n2, hfj, f3, if_neg n23, hw]; rfl) ?_
          exact fin
    have j3 : Ev (fun k => abugidalaw17_FormsNeighbours.j3 k true s l F i on tu jn false) true := by
      by_cases c3 : ((i + 1 : Nat) : Int) < (l.length : Int)
      · cases on with
        | false =>
          refine Ev.step (fun k => by simp only [abugidalaw17_FormsNeighbours.j3, Bool.false_eq_true, if_false, hw, if_pos c3]; rfl) ?_
          exact j4
        | true =>
          cases jn with
          | true =>
            refine Ev.step (fun k => by simp only [abugidalaw17_FormsNeighbours.j3, Bool.false_eq_true, if_false, if_true, hw, if_pos c3]; rfl) ?_
            exact j4
          | false =>
            have o' := on_i rfl
            have hn := hon_next o'.2 (hne13 rfl)
            have hfn := hfr (i + 1) (by omega)
            have hto2 : (hform s l ((i + 1 : Nat) : Int) == 4 || hform s l ((i + 1 : Nat) : Int) == 3) = true := by
              rw [form_to, show ((i + 1 : Nat) : Int) - 1 = (i : Int) by omega, o'.2, show ((i + 1 : Nat) : Int) = (i : Int) + 1 by omega, hn]
              rfl
            have n1 : (0 : Int) ≤ ((i + 1 : Nat) : Int) := by omega
            have n2 : ((i + 1 : Nat) : Int) < (F.length : Int) := by omega
            by_cases f4 : hform s l ((i + 1 : Nat) : Int) = 4
            · refine Ev.step (fun k => by simp only [abugidalaw17_FormsNeighbours.j3, Bool.false_eq_true, if_false, if_true, hw, if_pos c3, if_pos n1, if_pos n2, hfn, if_pos f4]; rfl) ?_
              exact j4
            · have f3 : (hform s l ((i + 1 : Nat) : Int) != 3) = false := by
                rw [Bool.or_eq_true, beq_iff_eq, beq_iff_eq] at hto2
                rw [hto2.resolve_left f4]
                rfl
              refine Ev.step (fun k => by simp only [abugidalaw17_FormsNeighbours.j3, Bool.false_eq_true, if_false, if_true, hw, if_pos c3, if_pos n1, if_pos n2, hfn, if_neg f4, f3]; rfl) ?_
              exact j4
      · refine Ev.step (fun k => by simp only [abugidalaw17_FormsNeighbours.j3, Bool.false_eq_true, if_false, hw, if_neg c3]; rfl) ?_
        exact j4
    rw [hjn'] at j3
    have j2 : Ev (fun k => abugidalaw17_FormsNeighbours.j2 k true s l F i (lb s l i) on tu) true := by
      have hfb := form_in (s := s) (l := l) (i := i)
      refine Ev.step (fun k => by simp only [abugidalaw17_FormsNeighbours.j2, if_pos c1, if_pos c0, if_pos c0f, e, hwb, if_pos (show (0 : Int) ≤ (b : Int) - 1 by omega), if_pos (show (b : Int) - 1 < (s.size : Int) by omega), hfi, form_some, Bool.false_eq_true, if_false, if_neg (show ¬ hform s l i < 0 by omega), decide_eq_false (show ¬ hform s l i > 4 by omega)]; rfl) ?_
      exact Ev.bind (ev_class s _) j3
    have j1 : Ev (fun k => abugidalaw17_FormsNeighbours.j1 k true s l F i (lb s l i) on) true := by
      by_cases f4 : hform s l i = 4
      · have e4 : (hform s l i == 4 || hform s l i == 3) = true := by rw [f4]; rfl
        rw [hto', e4] at j2
        refine Ev.step (fun k => by simp only [abugidalaw17_FormsNeighbours.j1, if_pos c1, if_pos c0f, hfi, if_pos f4]; rfl) ?_
        exact j2
      · have e4 : (hform s l i == 4 || hform s l i == 3) = (hform s l i == 3) := by rw [beq_eq_false_iff_ne.mpr f4, Bool.false_or]
        rw [hto', e4] at j2
        refine Ev.step (fun k => by simp only [abugidalaw17_FormsNeighbours.j1, if_pos c1, if_pos c0f, hfi, if_neg f4]; rfl) ?_
        exact j2
    refine Ev.step (fun k => by simp only [abugidalaw17_FormsNeighbours.l0, if_pos c0, if_pos c1, if_pos c0f, e, hfi]; rfl) ?_
    refine Ev.bind (ev_base s a b h2 h3 hs) ?_
    simp only [if_pos (show (0 : Int) ≤ (hbase s a (b - a) a : Int) by omega), if_pos (show (hbase s a (b - a) a : Int) < (s.size : Int) by omega)]
    refine Ev.bind (ev_joins s _) ?_
    have hlb2 : (hcls (bt s (hbase s a (b - a) a : Int)) == 7 || hcls (bt s (hbase s a (b - a) a : Int)) == 8) = lb s l i := by
      rw [hlbi, e]
      simp only [hd, Int.toNat_natCast]
    simp only [hlb2]
    by_cases f2 : hform s l i = 2
    · have e2 : (hform s l i == 2 || hform s l i == 3) = true := by rw [f2]; rfl
      rw [hon', e2] at j1
      simp only [if_pos f2]
      exact j1
    · have e2 : (hform s l i == 2 || hform s l i == 3) = (hform s l i == 3) := by rw [beq_eq_false_iff_ne.mpr f2, Bool.false_or]
      rw [hon', e2] at j1
      simp only [if_neg f2]
      exact j1

theorem FormsNeighbours : abugidalaw17_FormsNeighbours.Pure := by
  intro l _ _ hwf
  obtain ⟨t, ht, h60⟩ := ev_text l hwf 60 (by omega)
  have hsp := spans_length t
  refine Ev.rounds ?_
  unfold abugidalaw17_FormsNeighbours.f
  refine Ev.bind ev_sanity ?_
  refine Ev.bind ht ?_
  simp only [split_spans t (by omega), Option.bind_some]
  refine Ev.bind (ev_forms t (by omega)) ?_
  simp only [tforms_length, if_true]
  refine neigh_l0 t (by omega) (spans t) (by omega) (cov_val t _ 0 (cov_spans t)) (tforms t) (tforms_length t) (fun j hj => ?_) _ 0 (Nat.zero_add _)
  have := rd_hforms t (spans t) (spans t).length 0 j hj
  rwa [Nat.zero_add] at this

end Go.Proofs.Ytgpdieogkcnfeaa.Pure
