/- ClusterBases: the base of a cluster is in it; before it, all characters extend; and it does not extend, or all of them do. For all numbers. -/
import Derived.Test.YtngdddgoplmlbaaQx14
import Derived.Test.YtngdddgoplmlbaaMade
namespace Go.Proofs.Ytngdddgoplmlbaa.Pure
open Go.RowKit Go.Proofs.Ytngdddgoplmlbaa.Q Go.Proofs.Ytngdddgoplmlbaa.Plain Go.Proofs.YtngdddgoplmlbaaW.PrintWords Go.Proofs.YtngdddgoplmlbaaW.PrintLast

theorem rdB_pre (pre suf : List S30) (sp : S30) : rd_T30 (pre ++ sp :: suf) (pre.length : Int) = sp := by
  unfold rd_T30
  simp

/-- What is known of a base. -/
def IsBase (s : ByteArray) (a b r : Nat) : Prop := a ≤ r ∧ r < b ∧ (∀ i : Nat, a ≤ i → i < r → hext (bt s i) = true) ∧ (hext (bt s r) = true → r = a ∧ ∀ i : Nat, a ≤ i → i < b → hext (bt s i) = true)

theorem ev_base_l0 (s : ByteArray) (a b : Nat) (hab : a < b) (hb : b ≤ s.size) (hs : s.size ≤ 1000) (d : Nat) : ∀ i : Nat, i + d = b → a ≤ i → (∀ j : Nat, a ≤ j → j < i → hext (bt s j) = true) →
    ∃ r : Nat, Ev (fun k => cluster_Base.l0 k s i a b) (r : Int) ∧ IsBase s a b r := by
  induction d with
  | zero =>
    intro i hi ha hj
    refine ⟨a, ?_, Nat.le_refl _, hab, fun j h1 h2 => hj j h1 (by omega), fun _ => ⟨rfl, fun j h1 h2 => hj j h1 (by omega)⟩⟩
    refine Ev.step (fun k => by simp only [cluster_Base.l0, if_neg (show ¬ (i : Int) < (b : Int) by omega)]; rfl) ?_
    exact Ev.now _
  | succ d ih =>
    intro i hi ha hj
    have hw : wrap64 ((i : Int) + 1) = ((i + 1 : Nat) : Int) := by rw [w64 _ (by omega) (by omega)]; omega
    have step : ∀ r : Int, Ev (fun k => if hext (bt s i) = true then cluster_Base.l0 k s ((i + 1 : Nat) : Int) a b else some (i : Int)) r → Ev (fun k => cluster_Base.l0 k s i a b) r := by
      intro r h
      refine Ev.step (fun k => by simp only [cluster_Base.l0, if_pos (show (i : Int) < (b : Int) by omega), if_pos (show (0 : Int) ≤ i by omega), if_pos (show (i : Int) < (s.size : Int) by omega), hw]; rfl) ?_
      exact Ev.bind (ev_ext s i) h
    cases he : hext (bt s i) with
    | true =>
      obtain ⟨r, h1, h2⟩ := ih (i + 1) (by omega) (by omega) (fun j g1 g2 => by
        rcases Nat.lt_or_ge j i with h | h
        · exact hj j g1 h
        · obtain rfl : j = i := by omega
          exact he)
      refine ⟨r, step r ?_, h2⟩
      simp only [he, if_true]
      exact h1
    | false =>
      refine ⟨i, step i ?_, ha, by omega, hj, fun h => by rw [he] at h; cases h⟩
      simp only [he, Bool.false_eq_true, if_false]
      exact Ev.now _

theorem ev_base (s : ByteArray) (a b : Nat) (hab : a < b) (hb : b ≤ s.size) (hs : s.size ≤ 1000) : ∃ r : Nat, Ev (fun k => cluster_Base.f k s a b) (r : Int) ∧ IsBase s a b r := by
  obtain ⟨r, h1, h2⟩ := ev_base_l0 s a b hab hb hs (b - a) a (by omega) (Nat.le_refl _) (fun j g1 g2 => by omega)
  refine ⟨r, ?_, h2⟩
  unfold cluster_Base.f
  simp only [if_neg (show ¬ (a : Int) < 0 by omega), if_neg (show ¬ (a : Int) ≥ (b : Int) by omega), decide_eq_false (show ¬ (b : Int) > (s.size : Int) by omega)]
  refine Ev.step (fun k => by simp only [cluster_Base.j0, Bool.false_eq_true, if_false]; rfl) ?_
  exact h1

theorem bases_l1 (s : ByteArray) (L : List S30) (n j : Int) (a b r : Nat) (hr : IsBase s a b r) (hb : b ≤ s.size) (hs : s.size ≤ 1000)
    (h : Ev (fun k => abugidalaw06_ClusterBases.l0 k true s L n (wrap64 (j + 1))) true) (d : Nat) : ∀ (i : Nat) (all : Bool), i + d = b → a ≤ i → (hext (bt s r) = true → all = true) →
    Ev (fun k => abugidalaw06_ClusterBases.l1 k true s r all i L n j a b) true := by
  obtain ⟨r1, r2, r3, r4⟩ := hr
  induction d with
  | zero =>
    intro i all hi ha hall
    refine Ev.step (fun k => by simp only [abugidalaw06_ClusterBases.l1, if_neg (show ¬ (i : Int) < (b : Int) by omega), if_pos (show (0 : Int) ≤ r by omega), if_pos (show (r : Int) < (s.size : Int) by omega)]; rfl) ?_
    refine Ev.bind (ev_ext s r) ?_
    cases he : hext (bt s r) with
    | true =>
      obtain rfl := hall he
      obtain ⟨rfl, _⟩ := r4 he
      simp only [if_true]
      exact h
    | false =>
      simp only [Bool.false_eq_true, if_false]
      exact h
  | succ d ih =>
    intro i all hi ha hall
    have hw : wrap64 ((i : Int) + 1) = ((i + 1 : Nat) : Int) := by rw [w64 _ (by omega) (by omega)]; omega
    have go : ∀ all' : Bool, (hext (bt s r) = true → all' = true) → Ev (fun k => if (i : Int) < (r : Int) then (if hext (bt s i) = true then abugidalaw06_ClusterBases.l1 k true s r all' ((i + 1 : Nat) : Int) L n j a b else some false) else abugidalaw06_ClusterBases.l1 k true s r all' ((i + 1 : Nat) : Int) L n j a b) true := by
      intro all' h'
      by_cases hir : i < r
      · simp only [if_pos (show (i : Int) < (r : Int) by omega), if_pos (r3 i ha hir)]
        exact ih (i + 1) all' (by omega) (by omega) h'
      · simp only [if_neg (show ¬ (i : Int) < (r : Int) by omega)]
        exact ih (i + 1) all' (by omega) (by omega) h'
    refine Ev.step (fun k => by simp only [abugidalaw06_ClusterBases.l1, if_pos (show (i : Int) < (b : Int) by omega), if_pos (show (0 : Int) ≤ i by omega), if_pos (show (i : Int) < (s.size : Int) by omega), hw]; rfl) ?_
    refine Ev.bind (ev_ext s i) ?_
    cases all with
    | true =>
      simp only [if_true]
      exact go _ (fun he => (r4 he).2 i ha (by omega))
    | false =>
      simp only [Bool.false_eq_true, if_false]
      exact go false hall

theorem bases_l0 (s : ByteArray) (hs : s.size ≤ 100) : ∀ (suf pre : List S30) (a : Nat), pre ++ suf = spans s → Cov s s.size a suf →
    Ev (fun k => abugidalaw06_ClusterBases.l0 k true s (spans s) ((spans s).length : Int) (pre.length : Int)) true
  | [], pre, a, hL, _ => by
    rw [List.append_nil] at hL
    refine Ev.step (fun k => by simp only [abugidalaw06_ClusterBases.l0, hL, if_neg (show ¬ ((spans s).length : Int) < ((spans s).length : Int) by omega)]; rfl) ?_
    exact Ev.now _
  | sp :: suf, pre, a, hL, ⟨b, e, h1, h2, h3, _, _, h6⟩ => by
    subst e
    have hr : rd_T30 (spans s) (pre.length : Int) = ⟨a, b⟩ := by rw [← hL]; exact rdB_pre _ _ _
    have hlen : pre.length < (spans s).length := by rw [← hL, List.length_append, List.length_cons]; omega
    have hll := spans_length s
    have hw : wrap64 ((pre.length : Int) + 1) = (((pre ++ [(⟨a, b⟩ : S30)]).length : Nat) : Int) := by rw [w64 _ (by omega) (by omega), List.length_append, List.length_singleton]; omega
    have ih := bases_l0 s hs suf (pre ++ [⟨a, b⟩]) b (by rw [List.append_assoc]; exact hL) h6
    rw [← hw] at ih
    obtain ⟨r, hb1, hb2⟩ := ev_base s a b h1 h2 (by omega)
    refine Ev.step (fun k => by simp only [abugidalaw06_ClusterBases.l0, if_pos (show (pre.length : Int) < ((spans s).length : Int) by omega), if_pos (show (0 : Int) ≤ pre.length by omega), hr]; rfl) ?_
    refine Ev.bind hb1 ?_
    have g1 := hb2.1
    have g2 := hb2.2.1
    simp only [if_neg (show ¬ (a : Int) < 0 by omega), if_neg (show ¬ (b : Int) > (s.size : Int) by omega), if_neg (show ¬ (r : Int) < (a : Int) by omega), decide_eq_false (show ¬ (r : Int) ≥ (b : Int) by omega)]
    refine Ev.step (fun k => by simp only [abugidalaw06_ClusterBases.j1, Bool.false_eq_true, if_false]; rfl) ?_
    exact bases_l1 s (spans s) _ _ a b r hb2 h2 (by omega) ih (b - a) a true (by omega) (Nat.le_refl _) (fun _ => rfl)

theorem ClusterBases : abugidalaw06_ClusterBases.Pure := by
  intro l _ _ _
  obtain ⟨t, ht, h60⟩ := ev_made l 60 (by omega)
  refine Ev.rounds ?_
  unfold abugidalaw06_ClusterBases.f
  refine Ev.bind ev_sanity ?_
  refine Ev.bind ht ?_
  simp only [split_spans t (by omega), Option.bind_some]
  exact bases_l0 t (by omega) (spans t) [] 0 rfl (cov_spans t)

end Go.Proofs.Ytngdddgoplmlbaa.Pure
