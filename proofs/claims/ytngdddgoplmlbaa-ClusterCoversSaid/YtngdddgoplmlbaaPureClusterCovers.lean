/- ClusterCovers: clusters contain each place once, in order; none is empty or too long; At says which one contains a place. For all numbers. -/
import Derived.Test.YtngdddgoplmlbaaQx12
import Derived.Test.YtngdddgoplmlbaaMade
namespace Go.Proofs.Ytngdddgoplmlbaa.Pure
open Go.RowKit Go.Proofs.Ytngdddgoplmlbaa.Q Go.Proofs.Ytngdddgoplmlbaa.Plain Go.Proofs.YtngdddgoplmlbaaW.PrintWords Go.Proofs.YtngdddgoplmlbaaW.PrintLast

theorem rd_pre (pre suf : List S30) (sp : S30) : rd_T30 (pre ++ sp :: suf) (pre.length : Int) = sp := by
  unfold rd_T30
  simp

theorem hfind_at (s : ByteArray) (N : Nat) (x : Int) (sp : S30) (suf : List S30) (h0 : sp.f0 ≤ x) (h1 : x < sp.f1) : ∀ (pre : List S30) (a : Nat), Cov s N a (pre ++ sp :: suf) → hfind x (pre ++ sp :: suf) = pre.length ∧ (a : Int) ≤ sp.f0
  | [], a, ⟨b, e, _⟩ => by
    subst e
    exact ⟨by simp only [List.nil_append, hfind]; rw [if_pos h1]; rfl, Int.le_refl _⟩
  | p :: pre, a, ⟨b, e, h2, _, _, _, _, h6⟩ => by
    obtain ⟨i1, i2⟩ := hfind_at s N x sp suf h0 h1 pre b h6
    subst e
    refine ⟨?_, by omega⟩
    simp only [List.cons_append, hfind]
    rw [if_neg (show ¬ ((b : Int) > x) by omega), i1, List.length_cons]

theorem covers_l1 (s : ByteArray) (pre suf : List S30) (a b : Nat) (hb : b ≤ 1000) (hL : pre ++ ⟨a, b⟩ :: suf = spans s) (r : Bool) (hs : s.size ≤ 100) (hbN : b ≤ s.size)
    (h : Ev (fun k => abugidalaw06_ClusterCovers.l0 k true s b (spans s) ((spans s).length : Int) (wrap64 ((pre.length : Int) + 1))) r) (d : Nat) : ∀ x : Nat, x + d = b → a ≤ x →
    Ev (fun k => abugidalaw06_ClusterCovers.l1 k true s (pre.length : Int) x (spans s) ((spans s).length : Int) (pre.length : Int) a b) r := by
  have hC := cov_spans s
  induction d with
  | zero =>
    intro x hx ha
    refine Ev.step (fun k => by simp only [abugidalaw06_ClusterCovers.l1, if_neg (show ¬ (x : Int) < (b : Int) by omega)]; rfl) ?_
    exact h
  | succ d ih =>
    intro x hx ha
    have hat : cluster_At.f s (x : Int) = some (pre.length : Int) := by
      unfold cluster_At.f
      rw [if_neg (by omega), if_neg (by omega), split_spans s (by omega), Option.bind_some]
      rw [← hL] at hC ⊢
      rw [(hfind_at s _ x ⟨a, b⟩ suf (by show (a : Int) ≤ x; omega) (by show (x : Int) < b; omega) pre 0 hC).1]
    have hw : wrap64 ((x : Int) + 1) = ((x + 1 : Nat) : Int) := by rw [w64 _ (by omega) (by omega)]; omega
    refine Ev.step (fun k => by simp only [abugidalaw06_ClusterCovers.l1, if_pos (show (x : Int) < (b : Int) by omega), hat, Option.bind_some, if_true, hw]; rfl) ?_
    exact ih (x + 1) (by omega) (by omega)

theorem covers_l0 (s : ByteArray) (hs : s.size ≤ 100) : ∀ (suf pre : List S30) (a : Nat), pre ++ suf = spans s → Cov s s.size a suf →
    Ev (fun k => abugidalaw06_ClusterCovers.l0 k true s a (spans s) ((spans s).length : Int) (pre.length : Int)) true
  | [], pre, a, hL, h => by
    have h : a = s.size := h
    rw [List.append_nil] at hL
    refine Ev.step (fun k => by simp only [abugidalaw06_ClusterCovers.l0, hL, if_neg (show ¬ ((spans s).length : Int) < ((spans s).length : Int) by omega), if_true, h, beq_self_eq_true]; rfl) ?_
    exact Ev.now _
  | sp :: suf, pre, a, hL, ⟨b, e, h1, h2, h3, _, _, h6⟩ => by
    subst e
    have hr : rd_T30 (spans s) (pre.length : Int) = ⟨a, b⟩ := by rw [← hL]; exact rd_pre _ _ _
    have hlen : pre.length < (spans s).length := by rw [← hL, List.length_append, List.length_cons]; omega
    have hll := spans_length s
    have hw : wrap64 ((pre.length : Int) + 1) = (((pre ++ [(⟨a, b⟩ : S30)]).length : Nat) : Int) := by rw [w64 _ (by omega) (by omega), List.length_append, List.length_singleton]; omega
    have ih := covers_l0 s hs suf (pre ++ [⟨a, b⟩]) b (by rw [List.append_assoc]; exact hL) h6
    rw [← hw] at ih
    have hd : wrap64 ((b : Int) - a) = (b : Int) - a := w64 _ (by omega) (by omega)
    refine Ev.step (fun k => by simp only [abugidalaw06_ClusterCovers.l0, if_pos (show (pre.length : Int) < ((spans s).length : Int) by omega), if_pos (show (0 : Int) ≤ pre.length by omega), hr, if_true, if_neg (show ¬ (b : Int) ≤ (a : Int) by omega), if_neg (show ¬ (b : Int) > (s.size : Int) by omega), hd, decide_eq_false (show ¬ (b : Int) - (a : Int) > 6 by omega)]; rfl) ?_
    refine Ev.step (fun k => by simp only [abugidalaw06_ClusterCovers.j1, Bool.false_eq_true, if_false]; rfl) ?_
    exact covers_l1 s pre suf a b (by omega) hL true hs h2 ih (b - a) a (by omega) (Nat.le_refl _)

theorem ClusterCovers : abugidalaw06_ClusterCovers.Pure := by
  intro l _ _ _
  obtain ⟨t, ht, h60⟩ := ev_made l 60 (by omega)
  refine Ev.rounds ?_
  unfold abugidalaw06_ClusterCovers.f
  refine Ev.bind ev_sanity ?_
  refine Ev.bind ht ?_
  simp only [split_spans t (by omega), Option.bind_some]
  exact covers_l0 t (by omega) (spans t) [] 0 rfl (cov_spans t)

end Go.Proofs.Ytngdddgoplmlbaa.Pure
