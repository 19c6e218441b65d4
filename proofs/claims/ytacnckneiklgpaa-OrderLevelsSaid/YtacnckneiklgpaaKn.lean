/- r07: the clusters and the kinds, in plain Lean. -/
import Derived.Test.YtacnckneiklgpaaQx5
import Derived.Test.YtacnckneiklgpaaQx16
import Derived.Test.YtacnckneiklgpaaRn
namespace Go.Proofs.Ytacnckneiklgpaa.Plain
open Go.RowKit Go.Proofs.Ytacnckneiklgpaa.Q Go.Proofs.YtacnckneiklgpaaW.PrintWords Go.Proofs.YtacnckneiklgpaaW.PrintLast
set_option linter.unusedVariables false
set_option linter.unusedSimpArgs false

theorem w64 (x : Int) (h0 : -1000000000 ≤ x) (h1 : x ≤ 1000000000) : wrap64 x = x := by unfold wrap64; omega

theorem bt255 (s : ByteArray) (i : Int) : wrap64 (bt s i) = bt s i := by
  have := bt_range s i
  exact w64 _ (by omega) (by omega)

theorem chars_in : (List.range 256).all (fun c => (abugidaref05_Class.f 40 (c : Int) == some (hcls c)) && (abugidaref05_Extends.f 40 (c : Int) == some (hext c))) = true := by decide +kernel

theorem chars_at (s : ByteArray) (i : Int) : abugidaref05_Class.f 40 (bt s i) = some (hcls (bt s i)) ∧ abugidaref05_Extends.f 40 (bt s i) = some (hext (bt s i)) := by
  have hr := bt_range s i
  obtain ⟨c, hc⟩ : ∃ c : Nat, bt s i = (c : Int) := ⟨(bt s i).toNat, by omega⟩
  rw [hc]
  have := List.all_eq_true.mp chars_in c (List.mem_range.mpr (by omega))
  simp only [Bool.and_eq_true, beq_iff_eq] at this
  exact this

theorem ev_class (s : ByteArray) (i : Int) : Ev (fun k => chars_Class.f k (wrap64 (bt s i))) (hcls (bt s i)) := by
  rw [bt255]; exact Ev.of (chars_Class.mono _) (hcls_some _)
theorem ev_ext (s : ByteArray) (i : Int) : Ev (fun k => chars_Extends.f k (wrap64 (bt s i))) (hext (bt s i)) := by
  rw [bt255]; exact Ev.of (chars_Extends.mono _) (hext_some _)
theorem ev_rclass (s : ByteArray) (i : Int) : Ev (fun k => abugidaref05_Class.f k (wrap64 (bt s i))) (hcls (bt s i)) := by
  rw [bt255]; exact Ev.of (abugidaref05_Class.mono _) (chars_at s i).1
theorem ev_rext (s : ByteArray) (i : Int) : Ev (fun k => abugidaref05_Extends.f k (wrap64 (bt s i))) (hext (bt s i)) := by
  rw [bt255]; exact Ev.of (abugidaref05_Extends.mono _) (chars_at s i).2

theorem ev_cls (s : ByteArray) (i : Int) (h0 : 0 ≤ i) (h1 : i < (s.size : Int)) : Ev (fun k => abugidaref06_class.f k s i) (hcls (bt s i)) := by
  unfold abugidaref06_class.f
  simp only [if_pos h0, if_pos h1]
  exact Ev.bind (ev_rclass s i) (Ev.now _)

theorem ev_begins_j0 (s : ByteArray) (i : Nat) (b : Bool) (hi : i < s.size) (hs : s.size ≤ 1000) (h0 : b = false → 0 < i) : Ev (fun k => abugidaref06_begins.j0 k s i b) (b || !(hext (bt s i) || (hcls (bt s i) == 9 && hcls (bt s ((i : Int) - 1)) == 10))) := by
  cases b with
  | true => refine Ev.step (fun k => by simp only [abugidaref06_begins.j0, if_true]; rfl) ?_; exact Ev.now _
  | false =>
    have hp := h0 rfl
    refine Ev.step (fun k => by simp only [abugidaref06_begins.j0, Bool.false_eq_true, if_false, if_pos (show (0 : Int) ≤ i by omega), if_pos (show (i : Int) < (s.size : Int) by omega)]; rfl) ?_
    refine Ev.bind (ev_rext s i) ?_
    cases hext (bt s i) with
    | true => simp only [if_true]; exact Ev.now _
    | false =>
      simp only [Bool.false_eq_true, if_false]
      refine Ev.bind (ev_cls s i (by omega) (by omega)) ?_
      by_cases h9 : hcls (bt s i) = 9
      · simp only [if_pos h9]
        rw [w64 _ (by omega) (by omega)]
        have := Ev.bind (ev_cls s ((i : Int) - 1) (by omega) (by omega)) (f := fun _ t => some (!(t == 10))) (Ev.now _)
        simpa [h9] using this
      · simp only [if_neg h9]
        have e : (hcls (bt s i) == 9) = false := by simpa using h9
        rw [e]
        exact Ev.now _

theorem ev_begins (s : ByteArray) (i frm : Nat) (hi : i < s.size) (hf : frm ≤ i) (hs : s.size ≤ 1000) : Ev (fun k => abugidaref06_begins.f k s i (wrap64 ((i : Int) - frm))) (hbegin s i frm) := by
  unfold abugidaref06_begins.f hbegin
  rw [w64 _ (by omega) (by omega)]
  by_cases h0 : i = 0
  · have := ev_begins_j0 s i true hi hs (by simp)
    simpa [h0] using this
  · have e0 : (i == 0) = false := by simpa using h0
    simp only [if_neg (show ¬ (i : Int) = 0 by omega)]
    by_cases h6 : i = frm + 6
    · have := ev_begins_j0 s i true hi hs (by simp)
      simp only [if_pos (show (i : Int) - frm = 6 by omega)]
      simpa [h6] using this
    · have e6 : (i == frm + 6) = false := by simpa using h6
      simp only [if_neg (show ¬ (i : Int) - frm = 6 by omega)]
      rw [w64 _ (by omega) (by omega), e0, e6, Bool.false_or, Bool.false_or]
      exact Ev.bind (ev_cls s ((i : Int) - 1) (by omega) (by omega)) (ev_begins_j0 s i _ hi hs (fun _ => by omega))

/-- What the reference adds from place i on: a cluster has begun at frm. -/
theorem ev_split_l0 (s : ByteArray) (hs : s.size ≤ 1000) (d : Nat) : ∀ (i frm : Nat) (acc : List S51), i + d = s.size → 0 < i → frm ≤ i → acc.length ≤ i →
    Ev (fun k => abugidaref06_Split.l0 k s acc frm i) (acc ++ hspans s.size (frm :: hstarts s (s.size - i) i frm)) := by
  induction d with
  | zero =>
    intro i frm acc hi h0 hf ha
    have e : s.size - i = 0 := by omega
    refine Ev.step (fun k => by simp only [abugidaref06_Split.l0, if_neg (show ¬ (i : Int) < (s.size : Int) by omega), if_pos (show (s.size : Int) > 0 by omega), if_pos (show acc.length < 8796093022208 by omega)]; rfl) ?_
    rw [e]
    exact Ev.now _
  | succ d ih =>
    intro i frm acc hi h0 hf ha
    refine Ev.step (fun k => by simp only [abugidaref06_Split.l0, if_pos (show (i : Int) < (s.size : Int) by omega)]; rfl) ?_
    refine Ev.bind (ev_begins s i frm (by omega) hf hs) ?_
    rw [hstarts_step s i frm (by omega)]
    have hw : wrap64 ((i : Int) + 1) = ((i + 1 : Nat) : Int) := by rw [w64 _ (by omega) (by omega)]; omega
    simp only [hw]
    cases hb : hbegin s i frm with
    | true =>
      simp only [if_true, if_pos (show (i : Int) > 0 by omega), if_pos (show acc.length < 8796093022208 by omega)]
      have := ih (i + 1) i (acc ++ [⟨frm, i⟩]) (by omega) (by omega) (by omega) (by rw [List.length_append, List.length_singleton]; omega)
      rw [List.append_assoc] at this
      exact this
    | false =>
      simp only [Bool.false_eq_true, if_false]
      exact ih (i + 1) frm acc (by omega) (by omega) (by omega) (by omega)

theorem hbegin_zero (s : ByteArray) (frm : Nat) : hbegin s 0 frm = true := by simp [hbegin]

theorem ev_split (s : ByteArray) (hs : s.size ≤ 1000) : Ev (fun k => abugidaref06_Split.f k s) (hspans s.size (hstarts s s.size 0 0)) := by
  unfold abugidaref06_Split.f
  by_cases h0 : s.size = 0
  · refine Ev.step (fun k => by simp only [abugidaref06_Split.l0, if_neg (show ¬ (0 : Int) < (s.size : Int) by omega)]; rfl) ?_
    rw [h0]
    exact Ev.now _
  · refine Ev.step (fun k => by simp only [abugidaref06_Split.l0, if_pos (show (0 : Int) < (s.size : Int) by omega)]; rfl) ?_
    have hb := ev_begins s 0 0 (by omega) (Nat.le_refl _) hs
    refine Ev.bind hb ?_
    simp only [hbegin_zero, if_true, if_neg (show ¬ ((0 : Int) > 0) by omega)]
    have hw : wrap64 ((0 : Int) + 1) = ((1 : Nat) : Int) := by rw [w64 _ (by omega) (by omega)]; rfl
    simp only [hw]
    have := ev_split_l0 s hs (s.size - 1) 1 0 [] (by omega) (by omega) (by omega) (by simp)
    have e := hstarts_step s 0 0 (by omega)
    rw [hbegin_zero, if_pos rfl, Nat.sub_zero] at e
    rw [e]
    exact this

theorem split_f (s : ByteArray) (hs : s.size ≤ 1000) : cluster_Split.f s = some (hspans s.size (hstarts s s.size 0 0)) := by
  unfold cluster_Split.f
  rw [if_pos (by omega)]

/-- Spans that cover the places from a on, before N, as the rules say. -/
def Cov (s : ByteArray) (N : Nat) : Nat → List S51 → Prop
  | a, [] => a = N
  | a, sp :: t => ∃ b : Nat, sp = ⟨a, b⟩ ∧ a < b ∧ b ≤ N ∧ b ≤ a + 6 ∧ (∀ i, a < i → i < b → hbegin s i a = false) ∧ (b < N → hbegin s b a = true) ∧ Cov s N b t

theorem cov_from (s : ByteArray) (N : Nat) (d : Nat) : ∀ (i frm : Nat), i + d = N → frm < i → i ≤ frm + 6 → (∀ j, frm < j → j < i → hbegin s j frm = false) → Cov s N frm (hspans N (frm :: hstarts s (N - i) i frm)) := by
  induction d with
  | zero =>
    intro i frm hi hf h6 hj
    rw [show N - i = 0 by omega]
    exact ⟨N, rfl, by omega, Nat.le_refl _, by omega, fun j h1 h2 => hj j h1 (by omega), fun h => absurd h (Nat.lt_irrefl _), rfl⟩
  | succ d ih =>
    intro i frm hi hf h6 hj
    obtain ⟨e, he⟩ : ∃ e, N - i = e + 1 := ⟨d, by omega⟩
    have he2 : N - (i + 1) = e := by omega
    rw [he]
    unfold hstarts
    cases hb : hbegin s i frm with
    | true =>
      rw [if_pos rfl]
      unfold hspans
      refine ⟨i, rfl, hf, by omega, h6, hj, fun _ => hb, ?_⟩
      rw [← he2]
      exact ih (i + 1) i (by omega) (by omega) (by omega) (fun j h1 h2 => by omega)
    | false =>
      rw [if_neg (by decide), ← he2]
      refine ih (i + 1) frm (by omega) (by omega) ?_ (fun j h1 h2 => ?_)
      · rcases Nat.lt_or_ge i (frm + 6) with h | h
        · omega
        · have e6 : i = frm + 6 := by omega
          rw [e6] at hb
          simp [hbegin] at hb
      · rcases Nat.lt_or_ge j i with h | h
        · exact hj j h1 h
        · obtain rfl : j = i := by omega
          exact hb

/-- The spans that Split returns. -/
def spans (s : ByteArray) : List S51 := hspans s.size (hstarts s s.size 0 0)

theorem cov_spans (s : ByteArray) : Cov s s.size 0 (spans s) := by
  unfold spans
  by_cases h0 : s.size = 0
  · rw [h0]; exact rfl
  · obtain ⟨e, he⟩ : ∃ e, s.size = e + 1 := ⟨s.size - 1, by omega⟩
    have e1 : hstarts s s.size 0 0 = 0 :: hstarts s (s.size - 1) 1 0 := by
      rw [he]
      show (if hbegin s 0 0 = true then 0 :: hstarts s e 1 0 else hstarts s e 1 0) = _
      rw [hbegin_zero, if_pos rfl]
      rfl
    rw [e1]
    exact cov_from s s.size (s.size - 1) 1 0 (by omega) (by omega) (by omega) (fun j h1 h2 => by omega)

/-- The rules leave no choice. -/
theorem cov_unique (s : ByteArray) (N : Nat) : ∀ (l l' : List S51) (a : Nat), Cov s N a l → Cov s N a l' → l = l'
  | [], [], _, _, _ => rfl
  | [], sp :: t, a, h, ⟨b, _, h1, h2, _⟩ => by have h : a = N := h; omega
  | sp :: t, [], a, ⟨b, _, h1, h2, _⟩, h => by have h : a = N := h; omega
  | sp :: t, sp' :: t', a, ⟨b, e, h1, h2, h3, h4, h5, h6⟩, ⟨b', e', h1', h2', h3', h4', h5', h6'⟩ => by
    have hb : b = b' := by
      rcases Nat.lt_trichotomy b b' with h | h | h
      · have := h4' b h1 h; rw [h5 (by omega)] at this; cases this
      · exact h
      · have := h4 b' h1' h; rw [h5' (by omega)] at this; cases this
    subst hb
    rw [e, e', cov_unique s N t t' b h6 h6']

theorem cov_le (s : ByteArray) (N : Nat) : ∀ (l : List S51) (a : Nat), Cov s N a l → a ≤ N
  | [], a, h => Nat.le_of_eq h
  | _ :: _, a, ⟨b, _, h1, h2, _⟩ => by omega

theorem cov_length (s : ByteArray) (N : Nat) : ∀ (l : List S51) (a : Nat), Cov s N a l → l.length ≤ N - a
  | [], _, _ => Nat.zero_le _
  | sp :: t, a, ⟨b, _, h1, h2, _, _, _, h6⟩ => by
    have := cov_length s N t b h6
    rw [List.length_cons]; omega

theorem spans_length (s : ByteArray) : (spans s).length ≤ s.size := cov_length s s.size _ 0 (cov_spans s)

theorem split_spans (s : ByteArray) (hs : s.size ≤ 1000) : cluster_Split.f s = some (spans s) := split_f s hs

end Go.Proofs.Ytacnckneiklgpaa.Plain
