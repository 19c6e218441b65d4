/- The clusters of two texts, one behind the other. -/
import Derived.Test.YthllgpjjjegenaaMade
namespace Go.Proofs.Ythllgpjjjegenaa.Plain
open Go.RowKit Go.Proofs.Ythllgpjjjegenaa.Q Go.Proofs.YthllgpjjjegenaaW.PrintWords Go.Proofs.YthllgpjjjegenaaW.PrintLast

theorem bt_left (s t : ByteArray) (j : Int) (h0 : 0 ≤ j) (h : j < (s.size : Int)) : bt (s ++ t) j = bt s j := by
  unfold bt
  have h1 : j.toNat < s.size := by omega
  have h2 : j.toNat < (s ++ t).size := by rw [ByteArray.size_append]; omega
  rw [dif_pos h1, dif_pos h2, ByteArray.getElem_append_left h1]

theorem bt_right (s t : ByteArray) (j : Nat) (h : j < t.size) : bt (s ++ t) ((s.size + j : Nat) : Int) = bt t j := by
  unfold bt
  have h1 : (j : Int).toNat < t.size := by omega
  have h2 : ((s.size + j : Nat) : Int).toNat < (s ++ t).size := by rw [ByteArray.size_append]; omega
  have h3 : s.size ≤ ((s.size + j : Nat) : Int).toNat := by omega
  rw [dif_pos h1, dif_pos h2, ByteArray.getElem_append_right h3]
  have e : ((s.size + j : Nat) : Int).toNat - s.size = (j : Int).toNat := by omega
  simp only [e]

theorem hbegin_left (s t : ByteArray) (i a : Nat) (h : i < s.size) : hbegin (s ++ t) i a = hbegin s i a := by
  rcases Nat.eq_zero_or_pos i with h0 | h0
  · subst h0; rw [hbegin_zero, hbegin_zero]
  · unfold hbegin
    rw [bt_left s t i (by omega) (by omega), bt_left s t ((i : Int) - 1) (by omega) (by omega)]

theorem hbegin_right (s t : ByteArray) (i a : Nat) (h0 : 0 < i) (h : i < t.size) : hbegin (s ++ t) (s.size + i) (s.size + a) = hbegin t i a := by
  unfold hbegin
  have e1 : ((s.size + i : Nat) : Int) - 1 = ((s.size + (i - 1) : Nat) : Int) := by omega
  have e2 : (i : Int) - 1 = ((i - 1 : Nat) : Int) := by omega
  rw [bt_right s t i h, e1, bt_right s t (i - 1) (by omega), e2]
  have e3 : (s.size + i == 0) = (i == 0) := by rw [Bool.eq_iff_iff, beq_iff_eq, beq_iff_eq]; omega
  have e4 : (s.size + i == s.size + a + 6) = (i == a + 6) := by rw [Bool.eq_iff_iff, beq_iff_eq, beq_iff_eq]; omega
  rw [e3, e4]

theorem cov_append (s t : ByteArray) (hN : ∀ a, 0 < t.size → hbegin (s ++ t) s.size a = true) (rest : List S33) (hr : Cov (s ++ t) (s.size + t.size) s.size rest) : ∀ (l : List S33) (a : Nat), Cov s s.size a l → Cov (s ++ t) (s.size + t.size) a (l ++ rest)
  | [], a, h => by have h : a = s.size := h; rw [h]; exact hr
  | sp :: l, a, ⟨b, e, h1, h2, h3, h4, h5, h6⟩ => by
    refine ⟨b, e, h1, by omega, h3, fun i g1 g2 => by rw [hbegin_left s t i a (by omega)]; exact h4 i g1 g2, fun hb => ?_, cov_append s t hN rest hr l b h6⟩
    rcases Nat.lt_or_ge b s.size with h | h
    · rw [hbegin_left s t b a h]; exact h5 h
    · obtain rfl : b = s.size := by omega
      exact hN a (by omega)

/-- A span moved by n. -/
def shift (n : Nat) (sp : S33) : S33 := ⟨sp.f0 + n, sp.f1 + n⟩

theorem cov_shift (s t : ByteArray) : ∀ (l : List S33) (a : Nat), Cov t t.size a l → Cov (s ++ t) (s.size + t.size) (s.size + a) (l.map (shift s.size))
  | [], a, h => by have h : a = t.size := h; rw [h]; exact rfl
  | sp :: l, a, ⟨b, e, h1, h2, h3, h4, h5, h6⟩ => by
    refine ⟨s.size + b, ?_, by omega, by omega, by omega, fun i g1 g2 => ?_, fun hb => ?_, cov_shift s t l b h6⟩
    · subst e
      show (⟨(a : Int) + s.size, (b : Int) + s.size⟩ : S33) = _
      congr 1 <;> omega
    · obtain ⟨j, rfl⟩ : ∃ j, i = s.size + j := ⟨i - s.size, by omega⟩
      rw [hbegin_right s t j a (by omega) (by omega)]
      exact h4 j (by omega) (by omega)
    · rw [hbegin_right s t b a (by omega) (by omega)]
      exact h5 (by omega)

theorem spans_append (s t : ByteArray) (hN : ∀ a, 0 < t.size → hbegin (s ++ t) s.size a = true) : spans (s ++ t) = spans s ++ (spans t).map (shift s.size) := by
  have h := cov_append s t hN ((spans t).map (shift s.size)) (by have := cov_shift s t (spans t) 0 (cov_spans t); rwa [Nat.add_zero] at this) (spans s) 0 (cov_spans s)
  have h2 := cov_spans (s ++ t)
  rw [ByteArray.size_append] at h2
  exact cov_unique _ _ _ _ 0 h2 h

/-- The first text's spans, and those of both: g: may the last one grow? -/
def Rel (g : Bool) : List S33 → List S33 → Prop
  | [], _ => True
  | [sp], l' => ∃ sp' r, l' = sp' :: r ∧ sp'.f0 = sp.f0 ∧ (g = false → sp' = sp)
  | sp :: q :: t, l' => ∃ r, l' = sp :: r ∧ Rel g (q :: t) r

theorem rel_of_cov (s t : ByteArray) (g : Bool) (hg : g = false → ∀ a, 0 < t.size → 0 < s.size → hbegin (s ++ t) s.size a = true) : ∀ (l l' : List S33) (a : Nat), Cov s s.size a l → Cov (s ++ t) (s.size + t.size) a l' → Rel g l l'
  | [], _, _, _, _ => trivial
  | sp :: l, [], a, ⟨b, _, h1, h2, _⟩, h' => by have h' : a = s.size + t.size := h'; omega
  | [sp], sp' :: l', a, ⟨b, e, h1, h2, h3, h4, h5, h6⟩, ⟨b', e', h1', h2', h3', h4', h5', h6'⟩ => by
    have hb : b = s.size := h6
    refine ⟨sp', l', rfl, by rw [e, e'], fun h => ?_⟩
    have k1 : ¬ b' < b := fun h => by
      have := h5' (by omega)
      rw [hbegin_left s t b' a (by omega), h4 b' h1' h] at this
      cases this
    have k2 : ¬ b < b' := fun h7 => by
      have := h4' b h1 h7
      rw [hb, hg h a (by omega) (by omega)] at this
      cases this
    rw [e, e', show b' = b by omega]
  | sp :: q :: l, sp' :: l', a, ⟨b, e, h1, h2, h3, h4, h5, h6⟩, ⟨b', e', h1', h2', h3', h4', h5', h6'⟩ => by
    have hq : b < s.size := by obtain ⟨c, _, g1, g2, _⟩ := h6; omega
    have k1 : ¬ b' < b := fun h => by
      have := h5' (by omega)
      rw [hbegin_left s t b' a (by omega), h4 b' h1' h] at this
      cases this
    have k2 : ¬ b < b' := fun h7 => by
      have := h4' b h1 h7
      rw [hbegin_left s t b a hq, h5 hq] at this
      cases this
    obtain rfl : b' = b := by omega
    exact ⟨l', by rw [e, e'], rel_of_cov s t g hg (q :: l) l' b' h6 h6'⟩

theorem rel_length (g : Bool) : ∀ (l l' : List S33), Rel g l l' → l.length ≤ l'.length
  | [], _, _ => Nat.zero_le _
  | [sp], l', ⟨sp', r, e, _⟩ => by rw [e]; simp
  | sp :: q :: t, l', ⟨r, e, h⟩ => by
    have := rel_length g (q :: t) r h
    rw [e]
    exact Nat.succ_le_succ this

end Go.Proofs.Ythllgpjjjegenaa.Plain
