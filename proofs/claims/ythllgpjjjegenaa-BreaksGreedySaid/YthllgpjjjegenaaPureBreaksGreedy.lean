/- BreaksGreedy: numbers begin with 0 and increase by 0 or 1; each line fits, or has one element; what could stand on a line, up to where it may end, stands on it. For all elements and widths. -/
import Derived.Test.YthllgpjjjegenaaQx17
import Derived.Test.YthllgpjjjegenaaFil
namespace Go.Proofs.Ythllgpjjjegenaa.Pure
open Go.RowKit Go.Proofs.Ythllgpjjjegenaa.Q Go.Proofs.Ythllgpjjjegenaa.Plain Go.Proofs.YthllgpjjjegenaaW.PrintWords Go.Proofs.YthllgpjjjegenaaW.PrintLast

/-- The width of d elements from a on without the spaces at the end; and that of these. -/
def hst (J : Job) (a : Nat) : Nat → Int × Int
  | 0 => (0, 0)
  | d + 1 => (if J.sp (a + d) = true then (hst J a d).1 else (hst J a d).1 + ((hst J a d).2 + J.cw (a + d)), if J.sp (a + d) = true then (hst J a d).2 + J.cw (a + d) else 0)
def htot (J : Job) (a : Nat) : Nat → Int
  | 0 => 0
  | d + 1 => htot J a d + J.cw (a + d)
/-- The width from a up to k. -/
def hS (J : Job) (a k : Nat) : Int := (hst J a (k + 1 - a)).1

theorem hst_in (J : Job) (hc : ∀ i, 0 ≤ J.cw i ∧ J.cw i ≤ 10000) (a : Nat) : ∀ d : Nat, 0 ≤ (hst J a d).1 ∧ 0 ≤ (hst J a d).2 ∧ (hst J a d).1 + (hst J a d).2 = htot J a d ∧ htot J a d ≤ 10000 * d
  | 0 => by refine ⟨Int.le_refl _, Int.le_refl _, rfl, Int.le_refl _⟩
  | d + 1 => by
    obtain ⟨h1, h2, h3, h4⟩ := hst_in J hc a d
    have := hc (a + d)
    unfold hst htot
    cases J.sp (a + d) <;> simp <;> omega

theorem hst_mono (J : Job) (hc : ∀ i, 0 ≤ J.cw i ∧ J.cw i ≤ 10000) (a d : Nat) : ∀ e : Nat, (hst J a d).1 ≤ (hst J a (d + e)).1
  | 0 => Int.le_refl _
  | e + 1 => by
    have ih := hst_mono J hc a d e
    obtain ⟨h1, h2, _⟩ := hst_in J hc a (d + e)
    have := hc (a + (d + e))
    refine Int.le_trans ih ?_
    show (hst J a (d + e)).1 ≤ (hst J a ((d + e) + 1)).1
    rw [show hst J a ((d + e) + 1) = (if J.sp (a + (d + e)) = true then (hst J a (d + e)).1 else (hst J a (d + e)).1 + ((hst J a (d + e)).2 + J.cw (a + (d + e))), if J.sp (a + (d + e)) = true then (hst J a (d + e)).2 + J.cw (a + (d + e)) else 0) from rfl]
    show _ ≤ (if J.sp (a + (d + e)) = true then (hst J a (d + e)).1 else (hst J a (d + e)).1 + ((hst J a (d + e)).2 + J.cw (a + (d + e))))
    split <;> omega

theorem hS_mono (J : Job) (hc : ∀ i, 0 ≤ J.cw i ∧ J.cw i ≤ 10000) (a i k : Nat) (h1 : a ≤ i) (h2 : i ≤ k) : hS J a i ≤ hS J a k := by
  unfold hS
  rw [show k + 1 - a = (i + 1 - a) + (k - i) by omega]
  exact hst_mono J hc a _ _

/-- What a line's end is. -/
def Good (J : Job) (a e : Nat) : Prop :=
  (∀ j, a ≤ j → j < e → J.m j ≠ 2) ∧ (hS J a e ≤ J.wd ∨ e = a) ∧
  (e + 1 = J.n ∨ J.m e = 2 ∨ ∀ k, e < k → k < J.n → (∀ q, e < q → q ≤ k → hS J a q ≤ J.wd) → J.m k ≠ 1 ∧ J.m k ≠ 2 ∧ k + 1 ≠ J.n ∧ J.m e = 1)

theorem good_res (J : Job) (hc : ∀ i, 0 ≤ J.cw i ∧ J.cw i ≤ 10000) (a i last : Nat) (ch : Int) (hi : i < J.n) (hinv : (i = a ∧ last = a ∧ ch = -1) ∨ (a < i ∧ last + 1 = i ∧ (ch = -1 ∨ ∃ c : Nat, ch = c ∧ a ≤ c ∧ c < i ∧ J.m c = 1) ∧ ∀ j : Nat, ch < (j : Int) → a ≤ j → j < i → J.m j ≠ 1))
    (h2 : ∀ j, a ≤ j → j < i → J.m j ≠ 2) (hw : ∀ j, a ≤ j → j < i → hS J a j ≤ J.wd) (hb : hS J a i > J.wd) : ∃ e : Nat, hres J last ch = e ∧ Good J a e := by
  rcases hinv with ⟨e1, e2, e3⟩ | ⟨g1, g2, g3, g4⟩
  · refine ⟨a, ?_, fun j h1 h2 => by omega, .inr rfl, ?_⟩
    · unfold hres
      rw [if_neg (fun h => by omega), e2]
    · by_cases hn : a + 1 = J.n
      · exact .inl hn
      · refine .inr (.inr fun k h1 h2 h3 => ?_)
        have := h3 k h1 (Nat.le_refl _)
        have := hS_mono J hc a a k (Nat.le_refl _) (by omega)
        rw [e1] at hb
        omega
  · have hlast : (last : Int) < (J.n : Int) - 1 := by omega
    rcases g3 with g3 | ⟨c, g3, g5, g6, g7⟩
    · refine ⟨last, ?_, fun j h1 h3 => h2 j h1 (by omega), .inl (hw last (by omega) (by omega)), .inr (.inr fun k h1 _ h3 => ?_)⟩
      · unfold hres
        rw [if_neg (fun h => by omega)]
      · have := h3 i (by omega) (by omega)
        omega
    · refine ⟨c, ?_, fun j h1 h3 => h2 j h1 (by omega), .inl (hw c g5 g6), .inr (.inr fun k h1 h4 h3 => ?_)⟩
      · unfold hres
        rw [if_pos ⟨hlast, by omega⟩, g3]
      · have hk : k < i := by
          rcases Nat.lt_or_ge k i with h | h
          · exact h
          · have := h3 i (by omega) h; omega
        exact ⟨g4 k (by omega) (by omega) hk, h2 k (by omega) hk, by omega, g7⟩

theorem good_end (J : Job) (hc : ∀ i, 0 ≤ J.cw i ∧ J.cw i ≤ 10000) (a : Nat) (ha : a < J.n) : ∀ (d i last : Nat) (ch : Int), i + d = J.n → ((i = a ∧ last = a ∧ ch = -1) ∨ (a < i ∧ last + 1 = i ∧ (ch = -1 ∨ ∃ c : Nat, ch = c ∧ a ≤ c ∧ c < i ∧ J.m c = 1) ∧ ∀ j : Nat, ch < (j : Int) → a ≤ j → j < i → J.m j ≠ 1)) →
    (∀ j, a ≤ j → j < i → J.m j ≠ 2) → (∀ j, a ≤ j → j < i → hS J a j ≤ J.wd) → ∃ e : Nat, hgo J d i last ch (hst J a (i - a)).1 (hst J a (i - a)).2 = e ∧ Good J a e
  | 0, i, last, ch, hi, hinv, h2, hw => by
    rcases hinv with ⟨e1, _⟩ | ⟨g1, g2, _⟩
    · omega
    · refine ⟨last, ?_, fun j h1 h3 => h2 j h1 (by omega), .inl (hw last (by omega) (by omega)), .inl (by omega)⟩
      show hres J last ch = last
      unfold hres
      rw [if_neg (fun h => by omega)]
  | d + 1, i, last, ch, hi, hinv, h2, hw => by
    have hai : a ≤ i := by rcases hinv with ⟨e1, _⟩ | ⟨g1, _⟩ <;> omega
    have hst1 : hst J a (i + 1 - a) = (if J.sp i = true then (hst J a (i - a)).1 else (hst J a (i - a)).1 + ((hst J a (i - a)).2 + J.cw i), if J.sp i = true then (hst J a (i - a)).2 + J.cw i else 0) := by
      rw [show i + 1 - a = (i - a) + 1 by omega]
      show (if J.sp (a + (i - a)) = true then _ else _, if J.sp (a + (i - a)) = true then _ else _) = _
      rw [show a + (i - a) = i by omega]
    have hX : (if J.sp i = true then (hst J a (i - a)).1 else (hst J a (i - a)).1 + ((hst J a (i - a)).2 + J.cw i)) = hS J a i := by unfold hS; rw [hst1]
    unfold hgo
    rw [hX]
    by_cases a1 : hS J a i > J.wd
    · rw [if_pos a1]
      exact good_res J hc a i last ch (by omega) hinv h2 hw a1
    · rw [if_neg a1]
      by_cases a2 : J.m i = 2
      · rw [if_pos a2]
        exact ⟨i, rfl, h2, .inl (by omega), .inr (.inl a2)⟩
      · rw [if_neg a2]
        have ih := good_end J hc a ha d (i + 1) i (if J.m i = 1 then (i : Int) else ch) (by omega) ?_ ?_ ?_
        · rw [hst1] at ih
          rw [← hX]
          exact ih
        · refine .inr ⟨by omega, rfl, ?_, ?_⟩
          · by_cases a3 : J.m i = 1
            · rw [if_pos a3]; exact .inr ⟨i, rfl, hai, by omega, a3⟩
            · rw [if_neg a3]
              rcases hinv with ⟨_, _, e3⟩ | ⟨_, _, g3, _⟩
              · exact .inl e3
              · rcases g3 with g3 | ⟨c, g3, g5, g6, g7⟩
                · exact .inl g3
                · exact .inr ⟨c, g3, g5, by omega, g7⟩
          · intro j h1 h3 h4
            by_cases a3 : J.m i = 1
            · rw [if_pos a3] at h1; omega
            · rw [if_neg a3] at h1
              by_cases hj : j = i
              · rw [hj]; exact a3
              · rcases hinv with ⟨e1, _⟩ | ⟨_, _, _, g4⟩
                · omega
                · exact g4 j h1 h3 (by omega)
        · intro j h1 h3
          by_cases hj : j = i
          · rw [hj]; exact a2
          · exact h2 j h1 (by omega)
        · intro j h1 h3
          by_cases hj : j = i
          · rw [hj]; omega
          · exact hw j h1 (by omega)

theorem good_hend (J : Job) (hc : ∀ i, 0 ≤ J.cw i ∧ J.cw i ≤ 10000) (a : Nat) (ha : a < J.n) : ∃ e : Nat, hend' J a = e ∧ a ≤ e ∧ e < J.n ∧ Good J a e := by
  obtain ⟨e, he, g1, g2⟩ := hend_in J a ha
  obtain ⟨e', he', g3⟩ := good_end J hc a ha (J.n - a) a a (-1) (by omega) (.inl ⟨rfl, rfl, rfl⟩) (fun j h1 h2 => by omega) (fun j h1 h2 => by omega)
  rw [Nat.sub_self] at he'
  have : hend' J a = e' := he'
  obtain rfl : e = e' := by omega
  exact ⟨e, he, g1, g2, g3⟩

theorem htot_in (J : Job) (hc : ∀ i, 0 ≤ J.cw i ∧ J.cw i ≤ 10000) (a d : Nat) : 0 ≤ htot J a d ∧ htot J a d ≤ 10000 * d := by
  obtain ⟨h1, h2, h3, h4⟩ := hst_in J hc a d
  exact ⟨by rw [← h3]; exact Int.add_nonneg h1 h2, h4⟩
theorem w_tot (T c : Int) (d : Nat) (h : 0 ≤ T ∧ T ≤ 10000 * d) (h2 : 0 ≤ c ∧ c ≤ 10000) (hd : d ≤ 1000) : wrap64 (T + c) = T + c := w64 _ (by omega) (by omega)

theorem ev_sum_l1 (J : Job) (hc : ∀ i, 0 ≤ J.cw i ∧ J.cw i ≤ 10000) (hn : J.n ≤ 1000) (a t : Nat) (ht : t < J.n) : ∀ (c d : Nat), a + d + c = t + 1 → Ev (fun k => abugidalaw08_sum.l1 k (hels J J.n 0) t (htot J a d) ((a + d : Nat) : Int)) (htot J a (d + c))
  | 0, d, h => by
    refine Ev.step (fun k => by simp only [abugidalaw08_sum.l1, if_neg (show ¬ ((a + d : Nat) : Int) ≤ (t : Int) by omega)]; rfl) ?_
    exact Ev.now _
  | c + 1, d, h => by
    have hl : ((hels J J.n 0).length : Int) = J.n := by rw [hels_length]
    have hr := rd_hels J J.n 0 (a + d) (by omega)
    rw [Nat.zero_add] at hr
    have hd1 : d ≤ 1000 := by omega
    have w1 : wrap64 (htot J a d + J.cw (a + d)) = htot J a (d + 1) := w_tot _ _ d (htot_in J hc a d) (hc (a + d)) hd1
    have w2 : wrap64 (((a + d : Nat) : Int) + 1) = ((a + (d + 1) : Nat) : Int) := by rw [w64 _ (by omega) (by omega)]; omega
    have ih := ev_sum_l1 J hc hn a t ht c (d + 1) (by omega)
    rw [show d + 1 + c = d + (c + 1) by omega] at ih
    refine Ev.step (fun k => by simp only [abugidalaw08_sum.l1, if_pos (show ((a + d : Nat) : Int) ≤ (t : Int) by omega), if_pos (show (0 : Int) ≤ ((a + d : Nat) : Int) by omega), hl, if_pos (show ((a + d : Nat) : Int) < (J.n : Int) by omega), hr, hel, w1, w2]; rfl) ?_
    exact ih

theorem ev_sum_l0 (J : Job) (hc : ∀ i, 0 ≤ J.cw i ∧ J.cw i ≤ 10000) (hn : J.n ≤ 1000) (a : Nat) : ∀ (d : Nat), a + d ≤ J.n → Ev (fun k => abugidalaw08_sum.l0 k (hels J J.n 0) a ((a : Int) + d - 1)) (hst J a d).1
  | 0, h => by
    refine Ev.step (fun k => by simp only [abugidalaw08_sum.l0, if_neg (show ¬ (a : Int) + ((0 : Nat) : Int) - 1 ≥ (a : Int) by omega)]; rfl) ?_
    refine Ev.step (fun k => by simp only [abugidalaw08_sum.j1]; rfl) ?_
    refine Ev.step (fun k => by simp only [abugidalaw08_sum.l1, if_neg (show ¬ (a : Int) ≤ (a : Int) + ((0 : Nat) : Int) - 1 by omega)]; rfl) ?_
    exact Ev.now _
  | d + 1, h => by
    have hl : ((hels J J.n 0).length : Int) = J.n := by rw [hels_length]
    have hr := rd_hels J J.n 0 (a + d) (by omega)
    rw [Nat.zero_add] at hr
    have e : (a : Int) + ((d + 1 : Nat) : Int) - 1 = ((a + d : Nat) : Int) := by omega
    rw [e]
    cases hs : J.sp (a + d) with
    | true =>
      have hw : wrap64 (((a + d : Nat) : Int) - 1) = (a : Int) + (d : Int) - 1 := by rw [w64 _ (by omega) (by omega)]; omega
      have ih := ev_sum_l0 J hc hn a d (by omega)
      refine Ev.step (fun k => by simp only [abugidalaw08_sum.l0, if_pos (show ((a + d : Nat) : Int) ≥ (a : Int) by omega), if_pos (show (0 : Int) ≤ ((a + d : Nat) : Int) by omega), hl, if_pos (show ((a + d : Nat) : Int) < (J.n : Int) by omega), hr, hel, hs, if_true, hw]; rfl) ?_
      unfold hst
      simp only [hs, if_true]
      exact ih
    | false =>
      have ev := ev_sum_l1 J hc hn a (a + d) (by omega) (d + 1) 0 (by omega)
      refine Ev.step (fun k => by simp only [abugidalaw08_sum.l0, if_pos (show ((a + d : Nat) : Int) ≥ (a : Int) by omega), if_pos (show (0 : Int) ≤ ((a + d : Nat) : Int) by omega), hl, if_pos (show ((a + d : Nat) : Int) < (J.n : Int) by omega), hr, hel, hs, Bool.false_eq_true, if_false]; rfl) ?_
      refine Ev.step (fun k => by simp only [abugidalaw08_sum.j1]; rfl) ?_
      rw [Nat.zero_add] at ev
      have e2 : (hst J a (d + 1)).1 = htot J a (d + 1) := by
        obtain ⟨_, _, h3, _⟩ := hst_in J hc a d
        unfold hst htot
        simp only [hs, Bool.false_eq_true, if_false]
        rw [← Int.add_assoc, h3]
      rw [e2]
      exact ev

theorem ev_sum (J : Job) (hc : ∀ i, 0 ≤ J.cw i ∧ J.cw i ≤ 10000) (hn : J.n ≤ 1000) (a k : Nat) (hak : a ≤ k) (hk : k < J.n) : Ev (fun q => abugidalaw08_sum.f q (hels J J.n 0) a k) (hS J a k) := by
  have h := ev_sum_l0 J hc hn a (k + 1 - a) (by omega)
  rw [show (a : Int) + ((k + 1 - a : Nat) : Int) - 1 = (k : Int) by omega] at h
  exact h

theorem ev_l1 (J : Job) (hc : ∀ i, 0 ≤ J.cw i ∧ J.cw i ≤ 10000) (hn : J.n ≤ 1000) (L : List Int) (hL : L.length = J.n) (a e : Nat) (hae : a ≤ e) (he : e < J.n) (hg : ∀ k, e < k → k < J.n → (∀ q, e < q → q ≤ k → hS J a q ≤ J.wd) → J.m k ≠ 1 ∧ J.m k ≠ 2 ∧ k + 1 ≠ J.n ∧ J.m e = 1)
    (hnext : Ev (fun q => abugidalaw08_BreaksGreedy.l0 q true L (hels J J.n 0) J.wd a ((e + 1 : Nat) : Int)) true) : ∀ (d k : Nat), k + d = J.n → e < k → (∀ q, e < q → q < k → hS J a q ≤ J.wd) → Ev (fun q => abugidalaw08_BreaksGreedy.l1 q true L (hels J J.n 0) J.wd a e k) true
  | 0, k, hk, h1, h2 => by
    have w1 : wrap64 ((e : Int) + 1) = ((e + 1 : Nat) : Int) := by rw [w64 _ (by omega) (by omega)]; omega
    refine Ev.step (fun q => by simp only [abugidalaw08_BreaksGreedy.l1, if_neg (show ¬ (k : Int) < (L.length : Int) by omega)]; rfl) ?_
    refine Ev.step (fun q => by simp only [abugidalaw08_BreaksGreedy.j8, Bool.false_eq_true, if_false, w1]; rfl) ?_
    exact hnext
  | d + 1, k, hk, h1, h2 => by
    have w1 : wrap64 ((e : Int) + 1) = ((e + 1 : Nat) : Int) := by rw [w64 _ (by omega) (by omega)]; omega
    have w2 : wrap64 ((k : Int) + 1) = ((k + 1 : Nat) : Int) := by rw [w64 _ (by omega) (by omega)]; omega
    have w3 : wrap64 ((L.length : Int) - 1) = (L.length : Int) - 1 := w64 _ (by omega) (by omega)
    have hl : ((hels J J.n 0).length : Int) = J.n := by rw [hels_length]
    have hrk := rd_hels J J.n 0 k (by omega)
    have hre := rd_hels J J.n 0 e he
    rw [Nat.zero_add] at hrk hre
    refine Ev.step (fun q => by simp only [abugidalaw08_BreaksGreedy.l1, if_pos (show (k : Int) < (L.length : Int) by omega)]; rfl) ?_
    refine Ev.bind (ev_sum J hc hn a k (by omega) (by omega)) ?_
    by_cases b : hS J a k ≤ J.wd
    · have h3 : ∀ q, e < q → q ≤ k → hS J a q ≤ J.wd := fun q g1 g2 => by
        by_cases hq : q = k
        · rw [hq]; exact b
        · exact h2 q g1 (by omega)
      obtain ⟨m1, m2, m3, m4⟩ := hg k h1 (by omega) h3
      have e3 : ((k : Int) == (L.length : Int) - 1) = false := beq_eq_false_iff_ne.mpr (by omega)
      refine Ev.step (fun q => by simp only [abugidalaw08_BreaksGreedy.j8, decide_eq_true b, if_true, if_pos (show (0 : Int) ≤ (k : Int) by omega), hl, if_pos (show (k : Int) < (J.n : Int) by omega), hrk, hel, if_neg m1, if_neg m2, w3, e3]; rfl) ?_
      refine Ev.step (fun q => by simp only [abugidalaw08_BreaksGreedy.j9, Bool.false_eq_true, if_false, if_pos (show (0 : Int) ≤ (e : Int) by omega), hl, if_pos (show (e : Int) < (J.n : Int) by omega), hre, hel, if_pos m4, w2]; rfl) ?_
      exact ev_l1 J hc hn L hL a e hae he hg hnext d (k + 1) (by omega) (by omega) (fun q g1 g2 => h3 q g1 (by omega))
    · refine Ev.step (fun q => by simp only [abugidalaw08_BreaksGreedy.j8, decide_eq_false b, Bool.false_eq_true, if_false, w1]; rfl) ?_
      exact hnext

/-- What is asked at the beginning of a round: the numbers increase by 0 or 1. -/
theorem ev_head (J : Job) (hn : J.n ≤ 1000) (L : List Int) (hL : L.length = J.n) (a i : Nat) (ln : Int) (first : Nat) (hin : ∀ j : Nat, a ≤ j → j ≤ i → rd L (j : Int) = ln) (hai : a ≤ i) (hi : i < J.n) (h0 : 0 ≤ ln ∧ ln ≤ a) (hpre : (a = 0 ∧ ln = 0) ∨ (0 < a ∧ rd L ((a - 1 : Nat) : Int) = ln - 1)) (hf1 : a < i → first = a) (hf2 : i = 0 → first = 0)
    (j3 : Ev (fun q => abugidalaw08_BreaksGreedy.j3 q true L (hels J J.n 0) J.wd a i) true) : Ev (fun q => abugidalaw08_BreaksGreedy.l0 q true L (hels J J.n 0) J.wd first i) true := by
  have c0 : (i : Int) < (L.length : Int) := by omega
  have c1 : (0 : Int) ≤ i := by omega
  have gi := hin i hai (Nat.le_refl _)
  by_cases h : i = 0
  · subst h
    obtain rfl : a = 0 := by omega
    obtain rfl : first = 0 := hf2 rfl
    have l0 : ln = 0 := by omega
    rw [l0] at gi
    rw [show ((0 : Nat) : Int) = 0 from rfl] at gi c0 j3 ⊢
    refine Ev.step (fun q => by simp only [abugidalaw08_BreaksGreedy.l0, if_pos c0, if_true, gi, if_neg (show ¬ (0 : Int) > 0 by decide)]; rfl) ?_
    refine Ev.step (fun q => by simp only [abugidalaw08_BreaksGreedy.j1, Bool.false_eq_true, if_false, if_neg (show ¬ (0 : Int) > 0 by decide)]; rfl) ?_
    refine Ev.step (fun q => by simp only [abugidalaw08_BreaksGreedy.j2, Bool.false_eq_true, if_false]; rfl) ?_
    exact j3
  · have w1 : wrap64 ((i : Int) - 1) = ((i - 1 : Nat) : Int) := by rw [w64 _ (by omega) (by omega)]; omega
    have c2 : (0 : Int) ≤ ((i - 1 : Nat) : Int) := by omega
    have c3 : ((i - 1 : Nat) : Int) < (L.length : Int) := by omega
    have n0 : ¬ (i : Int) = 0 := by omega
    have p0 : (i : Int) > 0 := by omega
    obtain ⟨v, hv, hcase⟩ : ∃ v, rd L ((i - 1 : Nat) : Int) = v ∧ ((a < i ∧ v = ln) ∨ (i = a ∧ v = ln - 1)) := by
      by_cases b : a < i
      · exact ⟨ln, hin (i - 1) (by omega) (by omega), .inl ⟨b, rfl⟩⟩
      · obtain rfl : i = a := by omega
        rcases hpre with hpre | hpre
        · omega
        · exact ⟨ln - 1, hpre.2, .inr ⟨rfl, rfl⟩⟩
    have wv : wrap64 (v + 1) = v + 1 := w64 _ (by omega) (by omega)
    refine Ev.step (fun q => by simp only [abugidalaw08_BreaksGreedy.l0, if_pos c0, if_neg n0, if_pos p0, if_pos c1, w1, if_pos c2, if_pos c3, gi, hv, if_neg (show ¬ ln < v by omega), wv, decide_eq_false (show ¬ ln > v + 1 by omega)]; rfl) ?_
    refine Ev.step (fun q => by simp only [abugidalaw08_BreaksGreedy.j1, Bool.false_eq_true, if_false, if_pos p0, if_pos c1, if_pos c0, w1, if_pos c2, if_pos c3, gi, hv]; rfl) ?_
    rcases hcase with ⟨b, hb⟩ | ⟨b, hb⟩
    · rw [decide_eq_false (show ¬ ln > v by omega)]
      obtain rfl : first = a := hf1 b
      refine Ev.step (fun q => by simp only [abugidalaw08_BreaksGreedy.j2, Bool.false_eq_true, if_false]; rfl) ?_
      exact j3
    · rw [decide_eq_true (show ln > v by omega)]
      refine Ev.step (fun q => by simp only [abugidalaw08_BreaksGreedy.j2, if_true]; rfl) ?_
      subst b
      exact j3

/-- One line, from its element i on. -/
theorem ev_line (J : Job) (hc : ∀ i, 0 ≤ J.cw i ∧ J.cw i ≤ 10000) (hn : J.n ≤ 1000) (L : List Int) (hL : L.length = J.n) (a e : Nat) (ln : Int) (hae : a ≤ e) (he : e < J.n) (hg : Good J a e) (h0 : 0 ≤ ln ∧ ln ≤ a)
    (hin : ∀ i : Nat, a ≤ i → i ≤ e → rd L (i : Int) = ln) (hout : e + 1 < J.n → rd L ((e + 1 : Nat) : Int) = ln + 1) (hpre : (a = 0 ∧ ln = 0) ∨ (0 < a ∧ rd L ((a - 1 : Nat) : Int) = ln - 1))
    (hnext : Ev (fun q => abugidalaw08_BreaksGreedy.l0 q true L (hels J J.n 0) J.wd a ((e + 1 : Nat) : Int)) true) : ∀ (c i first : Nat), i + c = e → a ≤ i → (a < i → first = a) → (i = 0 → first = 0) →
    Ev (fun q => abugidalaw08_BreaksGreedy.l0 q true L (hels J J.n 0) J.wd first i) true := by
  intro c
  induction c with
  | zero =>
    intro i first hi hai hf1 hf2
    obtain rfl : i = e := by omega
    have hin' := hin
    have w1 : wrap64 ((i : Int) + 1) = ((i + 1 : Nat) : Int) := by rw [w64 _ (by omega) (by omega)]; omega
    have w2 : wrap64 ((L.length : Int) - 1) = (L.length : Int) - 1 := w64 _ (by omega) (by omega)
    have hl : ((hels J J.n 0).length : Int) = J.n := by rw [hels_length]
    have hri := rd_hels J J.n 0 i he
    rw [Nat.zero_add] at hri
    have c0 : (i : Int) < (L.length : Int) := by omega
    have c1 : (0 : Int) ≤ i := by omega
    have hli := hin i hai (Nat.le_refl _)
    obtain ⟨q1, q2, q3⟩ := hg
    have j6 : ∀ b : Bool, (b = false → ∀ k, i < k → k < J.n → (∀ q, i < q → q ≤ k → hS J a q ≤ J.wd) → J.m k ≠ 1 ∧ J.m k ≠ 2 ∧ k + 1 ≠ J.n ∧ J.m i = 1) → Ev (fun q => abugidalaw08_BreaksGreedy.j6 q true L (hels J J.n 0) J.wd a i b) true := by
      intro b hb
      cases b with
      | true =>
        refine Ev.step (fun q => by simp only [abugidalaw08_BreaksGreedy.j6, if_true, w1]; rfl) ?_
        exact hnext
      | false =>
        refine Ev.step (fun q => by simp only [abugidalaw08_BreaksGreedy.j6, Bool.false_eq_true, if_false, w1]; rfl) ?_
        exact ev_l1 J hc hn L hL a i hae he (hb rfl) hnext (J.n - (i + 1)) (i + 1) (by omega) (by omega) (fun q g1 g2 => by omega)
    have j5 : Ev (fun q => abugidalaw08_BreaksGreedy.j5 q true L (hels J J.n 0) J.wd a i false) true := by
      by_cases b : (i : Int) = (L.length : Int) - 1
      · refine Ev.step (fun q => by simp only [abugidalaw08_BreaksGreedy.j5, Bool.false_eq_true, if_false, w2, if_pos b]; rfl) ?_
        exact j6 true (fun h => by cases h)
      · refine Ev.step (fun q => by simp only [abugidalaw08_BreaksGreedy.j5, Bool.false_eq_true, if_false, w2, if_neg b, if_pos c1, hl, if_pos (show (i : Int) < (J.n : Int) by omega), hri, hel]; rfl) ?_
        refine j6 _ (fun hb => ?_)
        rcases q3 with q3 | q3 | q3
        · omega
        · rw [beq_eq_false_iff_ne] at hb; exact absurd q3 hb
        · exact q3
    have j4 : Ev (fun q => abugidalaw08_BreaksGreedy.j4 q true L (hels J J.n 0) J.wd a i true) true := by
      refine Ev.step (fun q => by simp only [abugidalaw08_BreaksGreedy.j4, if_true]; rfl) ?_
      refine Ev.bind (ev_sum J hc hn a i hae he) ?_
      by_cases b : hS J a i > J.wd
      · have : i = a := q2.resolve_left (by omega)
        simp only [if_pos b, decide_eq_false (show ¬ (i : Int) > (a : Int) by omega)]
        exact j5
      · simp only [if_neg b]
        exact j5
    have j3 : Ev (fun q => abugidalaw08_BreaksGreedy.j3 q true L (hels J J.n 0) J.wd a i) true := by
      by_cases b : (i : Int) = (L.length : Int) - 1
      · refine Ev.step (fun q => by simp only [abugidalaw08_BreaksGreedy.j3, w2, if_pos b]; rfl) ?_
        exact j4
      · have hlo := hout (by omega)
        refine Ev.step (fun q => by simp only [abugidalaw08_BreaksGreedy.j3, w2, if_neg b, w1, if_pos (show (0 : Int) ≤ ((i + 1 : Nat) : Int) by omega), if_pos (show ((i + 1 : Nat) : Int) < (L.length : Int) by omega), if_pos c1, if_pos c0, hlo, hli, decide_eq_true (show ln + 1 > ln by omega)]; rfl) ?_
        exact j4
    -- from the line's beginning, or within it
    exact ev_head J hn L hL a i ln first hin' (by omega) (by omega) h0 hpre hf1 hf2 j3
  | succ c ih =>
    intro i first hi hai hf1 hf2
    have hin' : ∀ j : Nat, a ≤ j → j ≤ i → rd L (j : Int) = ln := fun j h1 h2 => hin j h1 (by omega)
    have w1 : wrap64 ((i : Int) + 1) = ((i + 1 : Nat) : Int) := by rw [w64 _ (by omega) (by omega)]; omega
    have w2 : wrap64 ((L.length : Int) - 1) = (L.length : Int) - 1 := w64 _ (by omega) (by omega)
    have hl : ((hels J J.n 0).length : Int) = J.n := by rw [hels_length]
    have hri := rd_hels J J.n 0 i (by omega)
    rw [Nat.zero_add] at hri
    have m2 := hg.1 i hai (by omega)
    have g1 := hin i hai (by omega)
    have g2 := hin (i + 1) (by omega) (by omega)
    have nx := ih (i + 1) a (by omega) (by omega) (fun _ => rfl) (fun h => by omega)
    refine ev_head J hn L hL a i ln first hin' (by omega) (by omega) h0 hpre hf1 hf2 ?_
    refine Ev.step (fun q => by simp only [abugidalaw08_BreaksGreedy.j3, w2, if_neg (show ¬ (i : Int) = (L.length : Int) - 1 by omega), w1, if_pos (show (0 : Int) ≤ ((i + 1 : Nat) : Int) by omega), if_pos (show ((i + 1 : Nat) : Int) < (L.length : Int) by omega), if_pos (show (0 : Int) ≤ i by omega), if_pos (show (i : Int) < (L.length : Int) by omega), g1, g2, decide_eq_false (show ¬ ln > ln by omega)]; rfl) ?_
    refine Ev.step (fun q => by simp only [abugidalaw08_BreaksGreedy.j4, Bool.false_eq_true, if_false, if_pos (show (0 : Int) ≤ i by omega), hl, if_pos (show (i : Int) < (J.n : Int) by omega), hri, hel, if_neg m2, w1]; rfl) ?_
    exact nx

/-- The line of an element. -/
def hline (J : Job) : Nat → Nat → Int → Nat → Int
  | 0, _, _, _ => 0
  | f + 1, first, line, i => if i ≤ (hend' J first).toNat then line else hline J f ((hend' J first).toNat + 1) (line + 1) i

theorem rd_rep (c : Nat) (line : Int) (rest : List Int) (j : Nat) : rd (List.replicate c line ++ rest) (j : Int) = if j < c then line else rd rest ((j - c : Nat) : Int) := by
  unfold rd
  rw [Int.toNat_natCast, Int.toNat_natCast, List.getD_eq_getElem?_getD, List.getD_eq_getElem?_getD]
  by_cases h : j < c
  · rw [if_pos h, List.getElem?_append_left (by rw [List.length_replicate]; exact h)]
    simp [h]
  · rw [if_neg h, List.getElem?_append_right (by rw [List.length_replicate]; omega), List.length_replicate]

theorem rd_hfill (J : Job) : ∀ (f first : Nat) (line : Int) (i : Nat), J.n ≤ f + first → first ≤ i → i < J.n → rd (hfill J f first line) ((i - first : Nat) : Int) = hline J f first line i
  | 0, first, line, i, h1, h2, h3 => by omega
  | f + 1, first, line, i, h1, h2, h3 => by
    obtain ⟨e, he, g1, g2⟩ := hend_in J first (by omega)
    unfold hfill hline
    rw [if_pos (by omega), he, Int.toNat_natCast, rd_rep]
    by_cases h : i ≤ e
    · rw [if_pos h, if_pos (by omega)]
    · rw [if_neg h, if_neg (by omega), show i - first - (e + 1 - first) = i - (e + 1) by omega]
      exact rd_hfill J f (e + 1) (line + 1) i (by omega) (by omega) h3

theorem ev_all (J : Job) (hc : ∀ i, 0 ≤ J.cw i ∧ J.cw i ≤ 10000) (hn : J.n ≤ 1000) (L : List Int) (hL : L.length = J.n) : ∀ (f a first : Nat) (ln : Int), J.n ≤ f + a → a ≤ J.n → 0 ≤ ln → ln ≤ a → (∀ i : Nat, a ≤ i → i < J.n → rd L (i : Int) = hline J f a ln i) → (a = 0 ∧ ln = 0) ∨ (0 < a ∧ rd L ((a - 1 : Nat) : Int) = ln - 1) → (a = 0 → first = 0) →
    Ev (fun q => abugidalaw08_BreaksGreedy.l0 q true L (hels J J.n 0) J.wd first a) true
  | 0, a, first, ln, h1, h2, h3, h4, h5, h6, h7 => by
    refine Ev.step (fun q => by simp only [abugidalaw08_BreaksGreedy.l0, if_neg (show ¬ (a : Int) < (L.length : Int) by omega)]; rfl) ?_
    exact Ev.now _
  | f + 1, a, first, ln, h1, h2, h3, h4, h5, h6, h7 => by
    by_cases h : a < J.n
    · obtain ⟨e, he, g1, g2, g3⟩ := good_hend J hc a h
      have hin : ∀ i : Nat, a ≤ i → i ≤ e → rd L (i : Int) = ln := fun i k1 k2 => by
        rw [h5 i k1 (by omega)]
        unfold hline
        rw [he, Int.toNat_natCast, if_pos k2]
      have hafter : ∀ i : Nat, e < i → i < J.n → rd L (i : Int) = hline J f (e + 1) (ln + 1) i := fun i k1 k2 => by
        rw [h5 i (by omega) k2]
        show (if i ≤ (hend' J a).toNat then ln else hline J f ((hend' J a).toNat + 1) (ln + 1) i) = _
        rw [he, Int.toNat_natCast, if_neg (by omega)]
      have hnext := ev_all J hc hn L hL f (e + 1) a (ln + 1) (by omega) (by omega) (by omega) (by omega) (fun i k1 k2 => hafter i (by omega) k2) (.inr ⟨by omega, by rw [Nat.add_sub_cancel, hin e g1 (Nat.le_refl _)]; omega⟩) (fun h => by omega)
      refine ev_line J hc hn L hL a e ln g1 g2 g3 ⟨h3, h4⟩ hin (fun k => ?_) h6 hnext (e - a) a first (by omega) (Nat.le_refl _) (fun h => by omega) h7
      rw [hafter (e + 1) (by omega) k]
      obtain ⟨e', he', r1, r2⟩ := hend_in J (e + 1) k
      cases f with
      | zero => omega
      | succ f =>
        unfold hline
        rw [he', Int.toNat_natCast, if_pos r1]
    · refine Ev.step (fun q => by simp only [abugidalaw08_BreaksGreedy.l0, if_neg (show ¬ (a : Int) < (L.length : Int) by omega)]; rfl) ?_
      exact Ev.now _

theorem BreaksGreedy : abugidalaw08_BreaksGreedy.Pure := by
  intro W M S width _ _ _ _ _ _
  have hl : (W.take 40).length ≤ 1000 := by rw [List.length_take]; omega
  obtain ⟨J, hJ⟩ : ∃ J, J = job (W.take 40) (M.take 40) (S.take 40) width := ⟨_, rfl⟩
  have e1 := ev_fill (W.take 40) (M.take 40) (S.take 40) width hl
  have e2 := ev_elements (W.take 40) (M.take 40) (S.take 40) width hl
  rw [← hJ] at e1 e2
  have n1 : J.wd = mx 0 (mn width 10000) := by rw [hJ]; rfl
  have n6 : ∀ i, 0 ≤ J.cw i ∧ J.cw i ≤ 10000 := by rw [hJ]; exact fun i => job_cw _ _ _ _ i
  have n7 : J.n ≤ 1000 := by rw [hJ]; show min (min (W.take 40).length (M.take 40).length) (S.take 40).length ≤ 1000; omega
  refine Ev.rounds ?_
  unfold abugidalaw08_BreaksGreedy.f
  refine Ev.bind ev_sanity ?_
  simp only [cut_f, Option.bind_some]
  refine Ev.bind e1 ?_
  refine Ev.bind e2 ?_
  simp only [tfill_length, hels_length, if_true, ← n1]
  refine ev_all J n6 n7 (tfill J) (tfill_length J) J.n 0 0 0 (by omega) (Nat.zero_le _) (by omega) (by omega) (fun i _ hi => ?_) (.inl ⟨rfl, rfl⟩) (fun _ => rfl)
  have g1 := rd_hfill J J.n 0 0 i (by omega) (by omega) hi
  rw [Nat.sub_zero] at g1
  exact g1

end Go.Proofs.Ythllgpjjjegenaa.Pure
