/- The clusters, in plain Lean: what the spans of a text are, place by place. -/
import Derived.Test.YthllgpjjjegenaaPlain
namespace Go.Proofs.Ythllgpjjjegenaa.Plain
open Go.RowKit Go.Proofs.Ythllgpjjjegenaa.Q Go.Proofs.YthllgpjjjegenaaW.PrintWords Go.Proofs.YthllgpjjjegenaaW.PrintLast

/-- Spans that cover the places from a on, before N, as the rules say. -/
def Cov (s : ByteArray) (N : Nat) : Nat → List S33 → Prop
  | a, [] => a = N
  | a, sp :: t => ∃ b : Nat, sp = ⟨a, b⟩ ∧ a < b ∧ b ≤ N ∧ b ≤ a + 6 ∧ (∀ i, a < i → i < b → hbegin s i a = false) ∧ (b < N → hbegin s b a = true) ∧ Cov s N b t

theorem cov_from (s : ByteArray) (N : Nat) (d : Nat) : ∀ (i frm : Nat), i + d = N → frm < i → i ≤ frm + 6 → (∀ j, frm < j → j < i → hbegin s j frm = false) → Cov s N frm (hspans N (frm :: hstarts s (N - i) i frm)) := by
  induction d with
  | zero =>
    intro i frm hi hf h6 hj
    rw [show N - i = 0 by omega]
    exact ⟨N, rfl, by omega, Nat.le_refl _, by omega, fun j h1 h2 => hj j h1 (by omega), fun h => absurd h (Nat.lt_irrefl _), rfl⟩
  | succ d ih =>
    intro i frm hi hf h6 hj
    obtain ⟨e, he⟩ : ∃ e, N - i = e + 1 := ⟨d, by omega⟩
    have he2 : N - (i + 1) = e := by omega
    rw [he]
    unfold hstarts
    cases hb : hbegin s i frm with
    | true =>
      rw [if_pos rfl]
      unfold hspans
      refine ⟨i, rfl, hf, by omega, h6, hj, fun _ => hb, ?_⟩
      rw [← he2]
      exact ih (i + 1) i (by omega) (by omega) (by omega) (fun j h1 h2 => by omega)
    | false =>
      rw [if_neg (by decide), ← he2]
      refine ih (i + 1) frm (by omega) (by omega) ?_ (fun j h1 h2 => ?_)
      · rcases Nat.lt_or_ge i (frm + 6) with h | h
        · omega
        · have e6 : i = frm + 6 := by omega
          rw [e6] at hb
          simp [hbegin] at hb
      · rcases Nat.lt_or_ge j i with h | h
        · exact hj j h1 h
        · obtain rfl : j = i := by omega
          exact hb

/-- The spans that Split returns. -/
def spans (s : ByteArray) : List S33 := hspans s.size (hstarts s s.size 0 0)

theorem cov_spans (s : ByteArray) : Cov s s.size 0 (spans s) := by
  unfold spans
  by_cases h0 : s.size = 0
  · rw [h0]; exact rfl
  · obtain ⟨e, he⟩ : ∃ e, s.size = e + 1 := ⟨s.size - 1, by omega⟩
    have e1 : hstarts s s.size 0 0 = 0 :: hstarts s (s.size - 1) 1 0 := by
      rw [he]
      show (if hbegin s 0 0 = true then 0 :: hstarts s e 1 0 else hstarts s e 1 0) = _
      rw [hbegin_zero, if_pos rfl]
      rfl
    rw [e1]
    exact cov_from s s.size (s.size - 1) 1 0 (by omega) (by omega) (by omega) (fun j h1 h2 => by omega)

/-- The rules leave no choice. -/
theorem cov_unique (s : ByteArray) (N : Nat) : ∀ (l l' : List S33) (a : Nat), Cov s N a l → Cov s N a l' → l = l'
  | [], [], _, _, _ => rfl
  | [], sp :: t, a, h, ⟨b, _, h1, h2, _⟩ => by have h : a = N := h; omega
  | sp :: t, [], a, ⟨b, _, h1, h2, _⟩, h => by have h : a = N := h; omega
  | sp :: t, sp' :: t', a, ⟨b, e, h1, h2, h3, h4, h5, h6⟩, ⟨b', e', h1', h2', h3', h4', h5', h6'⟩ => by
    have hb : b = b' := by
      rcases Nat.lt_trichotomy b b' with h | h | h
      · have := h4' b h1 h; rw [h5 (by omega)] at this; cases this
      · exact h
      · have := h4 b' h1' h; rw [h5' (by omega)] at this; cases this
    subst hb
    rw [e, e', cov_unique s N t t' b h6 h6']

theorem cov_le (s : ByteArray) (N : Nat) : ∀ (l : List S33) (a : Nat), Cov s N a l → a ≤ N
  | [], a, h => Nat.le_of_eq h
  | _ :: _, a, ⟨b, _, h1, h2, _⟩ => by omega

theorem cov_length (s : ByteArray) (N : Nat) : ∀ (l : List S33) (a : Nat), Cov s N a l → l.length ≤ N - a
  | [], _, _ => Nat.zero_le _
  | sp :: t, a, ⟨b, _, h1, h2, _, _, _, h6⟩ => by
    have := cov_length s N t b h6
    rw [List.length_cons]; omega

theorem spans_length (s : ByteArray) : (spans s).length ≤ s.size := cov_length s s.size _ 0 (cov_spans s)

theorem split_spans (s : ByteArray) (hs : s.size ≤ 1000) : cluster_Split.f s = some (spans s) := split_f s hs

end Go.Proofs.Ythllgpjjjegenaa.Plain
