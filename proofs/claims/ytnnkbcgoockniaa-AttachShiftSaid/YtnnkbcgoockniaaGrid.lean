import Derived.Test.YtnnkbcgoockniaaWWords
import Derived.Test.YtnnkbcgoockniaaWLast
import Derived.Deep.Matrix
namespace Go.Proofs.Ytnnkbcgoockniaa.Q
open Go.RowKit Go.Proofs.YtnnkbcgoockniaaW.PrintWords Go.Proofs.YtnnkbcgoockniaaW.PrintLast

/-- What 'open_int_rows' tells of a list of lists, as the walks ask for it. -/
theorem grid_C {w : World} {k : IntKind} {e : Nat} {base : Nat} {a : Addr} {len cap : Nat} {A : Nat → Option Addr} {L C : Nat → Nat} {Z : Nat → List Int} (hl : len ≤ cap) (hm : cap ≤ maxLen)
    (h : ∀ r, r < cap → w.cell? (a.add r) = some (.slice (A r) (L r) (C r)) ∧ L r ≤ C r ∧ C r ≤ maxLen ∧ (Z r).length = C r ∧ (∀ n ∈ Z r, (Lit.int k n).wf = true) ∧ (A r = none → C r = 0) ∧
      ∀ a', A r = some a' → base ≤ a'.block ∧ ∀ c, c < C r → w.cell? (a'.add c) = some (.int k ((Z r).getD c 0))) :
    Kd.C (Kd.slice e (Kd.int k)) w (some a) ((List.range len).map fun r => (Z r).take (L r)).length ((List.range len).map fun r => (Z r).take (L r)) := by
  have hml : maxLen ≤ 9223372036854775807 := by decide
  refine ⟨rfl, by rw [List.length_map, List.length_range]; omega, fun _ => ⟨a, rfl, fun j p hj => ?_⟩⟩
  rw [List.getElem?_map] at hj
  obtain ⟨i, hi, rfl⟩ := Option.map_eq_some_iff.mp hj
  have hij : j < len ∧ i = j := by
    rw [List.getElem?_eq_some_iff] at hi
    obtain ⟨h1, h2⟩ := hi
    rw [List.length_range] at h1
    rw [List.getElem_range] at h2
    exact ⟨h1, h2.symm⟩
  obtain ⟨hj2, rfl⟩ := hij
  obtain ⟨h1, h2, h3, h4, h5, h6, h7⟩ := h i (by omega)
  have hlen : ((Z i).take (L i)).length = L i := by rw [List.length_take]; omega
  refine ⟨[.slice (A i) (L i) (C i)], rfl, ⟨A i, C i, by rw [hlen], by rw [hlen]; exact h2, rfl, by rw [hlen]; omega, fun h0 => ?_⟩, fun q u hu => ?_⟩
  · rw [hlen] at h0
    cases hA : A i with
    | none => have := h6 hA; omega
    | some a' =>
      refine ⟨a', rfl, fun c x hc => ⟨[.int k x], rfl, rfl, fun q u hu => ?_⟩⟩
      cases q with
      | zero =>
        simp only [List.getElem?_cons_zero, Option.some.injEq] at hu
        subst hu
        have hcl : c < L i := by
          rw [List.getElem?_eq_some_iff] at hc
          obtain ⟨h8, _⟩ := hc
          rw [hlen] at h8
          exact h8
        have hz : (Z i)[c]? = some x := by
          rw [List.getElem?_take] at hc
          simpa [hcl] using hc
        have := (h7 a' hA).2 c (by omega)
        rw [List.getD_eq_getElem?_getD, hz] at this
        have e1 : c * (Kd.int k).sz + 0 = c := Nat.mul_one c
        rw [e1]
        exact this
      | succ q => simp at hu
  · cases q with
    | zero =>
      simp only [List.getElem?_cons_zero, Option.some.injEq] at hu
      subst hu
      have e1 : i * (Kd.slice e (Kd.int k)).sz + 0 = i := Nat.mul_one i
      rw [e1]
      exact h1
    | succ q => simp at hu
end Go.Proofs.Ytnnkbcgoockniaa.Q
