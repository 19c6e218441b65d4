/- Things bundled: a list of things of one's own as one thing. -/
import Derived.Test.YtlgkeaildncojaaMt
namespace Go.Proofs.Ytlgkeaildncojaa.Q
open Go.RowKit Go.Shelf Go.Proofs.YtlgkeaildncojaaW.PrintWords Go.Proofs.YtlgkeaildncojaaW.PrintLast Go.Proofs.YtlgkeaildncojaaW.PrintMore
set_option linter.unusedSimpArgs false
set_option linter.unusedVariables false
/-- Some things, in blocks apart, as one. -/
def Res.bag (M : List Res) : Res := ⟨fun W ok => ∃ F : Nat → Nat, ∀ (i : Nat) (r : Res), M[i]? = some r → r.P W (fun k => ok k ∧ F k = i), fun {W W' ok ok'} h hm => by
  obtain ⟨F, h⟩ := h
  exact ⟨F, fun i r hi => r.move (h i r hi) (fun k hk hl hs => ⟨(hm k hk.1 hl hs).1, (hm k hk.1 hl hs).2, hk.2⟩)⟩⟩
theorem Own.bag {w W : World} {K : Nat → Obj → Prop} (L M : List Res) (h : Own w W (L ++ M) K) : Own w W (L ++ [.bag M]) K := by
  obtain ⟨h1, hk0, F, h2⟩ := h
  refine ⟨h1, hk0, fun k => if F k < L.length then F k else L.length, fun i r hi => ?_⟩
  by_cases hil : i < L.length
  · rw [List.getElem?_append_left hil] at hi
    refine r.move (h2 i r (by rw [List.getElem?_append_left hil]; exact hi)) (fun k hk hl _ => ⟨rfl, hk.1, ?_⟩)
    dsimp only
    rw [if_pos (by omega)]
    exact hk.2
  · have hii : i = L.length := by
      have := (List.getElem?_eq_some_iff.mp hi).1
      rw [List.length_append, List.length_singleton] at this
      omega
    subst hii
    rw [List.getElem?_append_right (Nat.le_refl _), Nat.sub_self] at hi
    injection hi with hi
    subst hi
    refine ⟨fun k => F k - L.length, fun j q hj => ?_⟩
    have hq := h2 (L.length + j) q (by rw [List.getElem?_append_right (by omega), Nat.add_sub_cancel_left]; exact hj)
    refine q.move hq (fun k hk hl _ => ⟨rfl, ⟨hk.1, ?_⟩, ?_⟩)
    · dsimp only
      rw [if_neg (by omega)]
    · dsimp only
      omega
theorem Own.unbag {w W : World} {K : Nat → Obj → Prop} (L M : List Res) (h : Own w W (L ++ [.bag M]) K) : Own w W (L ++ M) K := by
  obtain ⟨h1, hk0, F, h2⟩ := h
  obtain ⟨G, hG⟩ := h2 L.length (.bag M) (by rw [List.getElem?_append_right (Nat.le_refl _), Nat.sub_self]; rfl)
  refine ⟨h1, hk0, fun k => if F k < L.length then F k else L.length + G k, fun i r hi => ?_⟩
  by_cases hil : i < L.length
  · rw [List.getElem?_append_left hil] at hi
    refine r.move (h2 i r (by rw [List.getElem?_append_left hil]; exact hi)) (fun k hk hl _ => ⟨rfl, hk.1, ?_⟩)
    dsimp only
    rw [if_pos (by omega)]
    exact hk.2
  · rw [List.getElem?_append_right (by omega)] at hi
    refine r.move (hG (i - L.length) r hi) (fun k hk hl _ => ⟨rfl, hk.1.1, ?_⟩)
    dsimp only
    have := hk.1.2
    have := hk.2
    rw [if_neg (by omega)]
    omega
end Go.Proofs.Ytlgkeaildncojaa.Q
