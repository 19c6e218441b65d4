/- ClusterBehind: what follows a text changes none of its clusters but the last one, and this one only if it begins with something that extends, or with a consonant behind a virama. For all numbers. -/
import Derived.Test.YtngdddgoplmlbaaQx16
import Derived.Test.YtngdddgoplmlbaaTwo
namespace Go.Proofs.Ytngdddgoplmlbaa.Pure
open Go.RowKit Go.Proofs.Ytngdddgoplmlbaa.Q Go.Proofs.Ytngdddgoplmlbaa.Plain Go.Proofs.YtngdddgoplmlbaaW.PrintWords Go.Proofs.YtngdddgoplmlbaaW.PrintLast

theorem rdH_pre (pre suf : List S30) (sp : S30) (n : Nat) (h : pre.length = n) : rd_T30 (pre ++ sp :: suf) (n : Int) = sp := by
  unfold rd_T30
  subst h
  simp

/-- May the last cluster grow? -/
def grows (s t : ByteArray) : Bool := decide (0 < t.size) && (decide (0 < s.size) && (hext (bt t 0) || (decide (hcls (bt t 0) = 9) && (hcls (bt s ((s.size : Int) - 1)) == 10))))

theorem grows_not (s t : ByteArray) (h : grows s t = false) (a : Nat) (ht : 0 < t.size) (hs : 0 < s.size) : hbegin (s ++ t) s.size a = true := by
  unfold grows at h
  rw [decide_eq_true ht, decide_eq_true hs, Bool.true_and, Bool.true_and] at h
  have e0 : bt (s ++ t) (s.size : Int) = bt t 0 := bt_right s t 0 ht
  have e1 : bt (s ++ t) ((s.size : Int) - 1) = bt s ((s.size : Int) - 1) := bt_left s t _ (by omega) (by omega)
  unfold hbegin
  rw [e0, e1]
  have e9 : (hcls (bt t 0) == 9) = decide (hcls (bt t 0) = 9) := by rw [Bool.eq_iff_iff, beq_iff_eq, decide_eq_true_eq]
  rw [e9, h]
  simp

theorem behind_l0 (s t : ByteArray) (hs : s.size ≤ 100) (ht : t.size ≤ 100) : ∀ (suf suf' pre pre' : List S30), pre ++ suf = spans s → pre' ++ suf' = spans (s ++ t) → pre.length = pre'.length → Rel (grows s t) suf suf' →
    Ev (fun k => abugidalaw06_ClusterBehind.l0 k true s t (spans s) (spans (s ++ t)) (spans s) ((spans s).length : Int) (pre.length : Int)) true
  | [], suf', pre, pre', hL, _, _, _ => by
    rw [List.append_nil] at hL
    refine Ev.step (fun k => by simp only [abugidalaw06_ClusterBehind.l0, hL, if_neg (show ¬ ((spans s).length : Int) < ((spans s).length : Int) by omega)]; rfl) ?_
    exact Ev.now _
  | sp :: suf, suf', pre, pre', hL, hL', hpl, hrel => by
    have hr : rd_T30 (spans s) (pre.length : Int) = sp := by rw [← hL]; exact rdH_pre _ _ _ _ rfl
    have hlen : (spans s).length = pre.length + (suf.length + 1) := by rw [← hL, List.length_append, List.length_cons]
    have hll := spans_length s
    obtain ⟨sp', r', e', hf0, hlast, hnext⟩ : ∃ sp' r', suf' = sp' :: r' ∧ sp'.f0 = sp.f0 ∧ ((suf = [] → grows s t = false → sp' = sp) ∧ (suf ≠ [] → sp' = sp)) ∧ Rel (grows s t) suf r' := by
      cases suf with
      | nil => obtain ⟨sp', r, e, h1, h2⟩ := hrel; exact ⟨sp', r, e, h1, ⟨fun _ => h2, fun h => absurd rfl h⟩, trivial⟩
      | cons q u => obtain ⟨r, e, h⟩ := hrel; exact ⟨sp, r, e, rfl, ⟨fun h => by simp at h, fun _ => rfl⟩, h⟩
    subst e'
    have hr' : rd_T30 (spans (s ++ t)) (pre.length : Int) = sp' := by rw [← hL']; exact rdH_pre _ _ _ _ hpl.symm
    have hlen' : pre.length < (spans (s ++ t)).length := by rw [← hL', List.length_append, List.length_cons]; omega
    have hw : wrap64 ((pre.length : Int) + 1) = (((pre ++ [sp]).length : Nat) : Int) := by rw [w64 _ (by omega) (by omega), List.length_append, List.length_singleton]; omega
    have ih := behind_l0 s t hs ht suf r' (pre ++ [sp]) (pre' ++ [sp']) (by rw [List.append_assoc]; exact hL) (by rw [List.append_assoc]; exact hL') (by rw [List.length_append, List.length_append, hpl]; rfl) hnext
    rw [← hw] at ih
    have j2 : Ev (fun k => abugidalaw06_ClusterBehind.j2 k true s t (spans s) (spans (s ++ t)) (spans s) ((spans s).length : Int) (pre.length : Int) false) true := by
      refine Ev.step (fun k => by simp only [abugidalaw06_ClusterBehind.j2, Bool.false_eq_true, if_false]; rfl) ?_
      exact ih
    have hwl : wrap64 (((spans s).length : Int) - 1) = ((spans s).length : Int) - 1 := w64 _ (by omega) (by omega)
    have j1 : Ev (fun k => abugidalaw06_ClusterBehind.j1 k true s t (spans s) (spans (s ++ t)) (pre.length : Int) ((pre.length : Int) == wrap64 (((spans s).length : Int) - 1)) (grows s t) (spans s) ((spans s).length : Int) (pre.length : Int) sp.f0 sp.f1) true := by
      refine Ev.step (fun k => by simp only [abugidalaw06_ClusterBehind.j1, if_pos (show (0 : Int) ≤ pre.length by omega), if_pos (show (pre.length : Int) < ((spans (s ++ t)).length : Int) by omega), hr', if_pos hf0]; rfl) ?_
      by_cases hne : (!(sp'.f0 == sp.f0) || (!(sp'.f1 == sp.f1))) = true
      · have hd : sp' ≠ sp := by
          intro e
          rw [e] at hne
          simp at hne
        have hsuf : suf = [] := Classical.byContradiction (fun h => hd (hlast.2 h))
        have hg : grows s t = true := by
          cases hgr : grows s t with
          | true => rfl
          | false => exact absurd (hlast.1 hsuf hgr) hd
        have hlst : ((pre.length : Int) == wrap64 (((spans s).length : Int) - 1)) = true := by
          rw [hwl, beq_iff_eq, hlen, hsuf]
          simp
        simp only [if_pos hne, hlst, if_true, hg, Bool.not_true]
        exact j2
      · simp only [if_neg hne]
        exact j2
    refine Ev.step (fun k => by simp only [abugidalaw06_ClusterBehind.l0, if_pos (show (pre.length : Int) < ((spans s).length : Int) by omega), if_pos (show (0 : Int) ≤ pre.length by omega), hr]; rfl) ?_
    have hgd : grows s t = (decide (0 < t.size) && (decide (0 < s.size) && (hext (bt t 0) || (decide (hcls (bt t 0) = 9) && (hcls (bt s ((s.size : Int) - 1)) == 10))))) := rfl
    by_cases ht0 : 0 < t.size
    · rw [decide_eq_true ht0, Bool.true_and] at hgd
      simp only [if_pos (show (t.size : Int) > 0 by omega)]
      by_cases hs0 : 0 < s.size
      · rw [decide_eq_true hs0, Bool.true_and] at hgd
        simp only [if_pos (show (s.size : Int) > 0 by omega)]
        refine Ev.bind (ev_ext t 0) ?_
        cases he : hext (bt t 0) with
        | true =>
          rw [he, Bool.true_or] at hgd
          rw [hgd] at j1
          simp only [if_true]
          exact j1
        | false =>
          rw [he, Bool.false_or] at hgd
          simp only [Bool.false_eq_true, if_false]
          refine Ev.bind (ev_class t 0) ?_
          have hws : wrap64 ((s.size : Int) - 1) = (s.size : Int) - 1 := w64 _ (by omega) (by omega)
          by_cases h9 : hcls (bt t 0) = 9
          · rw [decide_eq_true h9, Bool.true_and] at hgd
            simp only [if_pos h9, hws, if_pos (show (0 : Int) ≤ (s.size : Int) - 1 by omega), if_pos (show (s.size : Int) - 1 < (s.size : Int) by omega)]
            refine Ev.bind (ev_class s ((s.size : Int) - 1)) ?_
            rw [hgd] at j1
            exact j1
          · rw [decide_eq_false h9, Bool.false_and] at hgd
            rw [hgd] at j1
            simp only [if_neg h9]
            exact j1
      · rw [decide_eq_false hs0, Bool.false_and] at hgd
        rw [hgd] at j1
        simp only [if_neg (show ¬ (s.size : Int) > 0 by omega)]
        exact j1
    · rw [decide_eq_false ht0, Bool.false_and] at hgd
      rw [hgd] at j1
      simp only [if_neg (show ¬ (t.size : Int) > 0 by omega)]
      exact j1

theorem ClusterBehind : abugidalaw06_ClusterBehind.Pure := by
  intro l l' _ _ _ _ _ _
  obtain ⟨s, hs, h30⟩ := ev_made l 30 (by omega)
  obtain ⟨t, ht, h30'⟩ := ev_made l' 30 (by omega)
  refine Ev.rounds ?_
  unfold abugidalaw06_ClusterBehind.f
  refine Ev.bind ev_sanity ?_
  refine Ev.bind hs ?_
  refine Ev.bind ht ?_
  have hc := cov_spans (s ++ t)
  rw [ByteArray.size_append] at hc
  have hrel := rel_of_cov s t (grows s t) (fun h a => grows_not s t h a) (spans s) (spans (s ++ t)) 0 (cov_spans s) hc
  have hlen := rel_length _ _ _ hrel
  simp only [split_spans s (by omega), split_spans (s ++ t) (by rw [ByteArray.size_append]; omega), Option.bind_some, if_pos (show s.size + t.size ≤ 9223372036854775807 by omega), if_neg (show ¬ ((spans (s ++ t)).length : Int) < ((spans s).length : Int) by omega)]
  exact behind_l0 s t (by omega) (by omega) (spans s) (spans (s ++ t)) [] [] rfl rfl rfl hrel

end Go.Proofs.Ytngdddgoplmlbaa.Pure
