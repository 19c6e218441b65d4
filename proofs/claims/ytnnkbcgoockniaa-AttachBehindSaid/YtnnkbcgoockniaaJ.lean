/- AttachBehind, the plain part: places of a prefix; places without a mark that has no anchors. -/
import Derived.Test.YtnnkbcgoockniaaH
namespace Go.Proofs.Ytnnkbcgoockniaa.Q
open Go.RowKit Go.Shelf Go.Proofs.YtnnkbcgoockniaaW.PrintWords Go.Proofs.YtnnkbcgoockniaaW.PrintLast Go.Proofs.YtnnkbcgoockniaaW.PrintMore
set_option linter.unusedSimpArgs false
set_option linter.unusedVariables false

theorem placesN_same (l m : List S35) (n : Nat) (h : ∀ j, j < n → m.getD j z35 = l.getD j z35) (hb : ∀ c j, j ≤ n → backs m c j = backs l c j) : ∀ j, j ≤ n → placesN m j = placesN l j
  | 0, _ => rfl
  | j + 1, hj => by
    have ih := placesN_same l m n h hb j (by omega)
    simp only [placesN, place1, pen1]
    rw [ih, h j (by omega), hb _ j (by omega)]
theorem placesN_tk (l : List S35) (n : Nat) : ∀ j, j ≤ n → placesN (l.take n) j = placesN l j :=
  placesN_same l (l.take n) n (fun j hj => by simp [List.getD_eq_getElem?_getD, List.getElem?_take, hj]) (fun c j hj => backs_take l c n j hj)
theorem placesN_cut (l : List S35) (j : Nat) : ∀ n, j ≤ n → (placesN l n).1.take j = (placesN l j).1
  | 0, h => by
    obtain rfl : j = 0 := by omega
    rfl
  | n + 1, h => by
    have hl := placesN_length l n
    rcases Nat.lt_or_ge n j with h2 | h2
    · obtain rfl : j = n + 1 := by omega
      rw [List.take_of_length_le (by rw [placesN_length]; omega)]
    · simp only [placesN]
      rw [List.take_append_of_le_length (by omega), placesN_cut l j n h2]
theorem erase_getD {α : Type} (l : List α) (k j : Nat) (z : α) : (l.eraseIdx k).getD j z = if j < k then l.getD j z else l.getD (j + 1) z := by
  rw [List.getD_eq_getElem?_getD, List.getElem?_eraseIdx]
  split <;> rw [List.getD_eq_getElem?_getD]
def shiftI (k : Nat) (x : Nat × S33) : Nat × S33 := (if k < x.1 then x.1 - 1 else x.1, x.2)
theorem backs_before (l : List S35) (c : Int) (k : Nat) : ∀ j, j ≤ k → backs (l.eraseIdx k) c j = backs l c j
  | 0, _ => rfl
  | j + 1, h => by
    simp only [backs]
    rw [backs_before l c k j (by omega), erase_getD, if_pos (by omega)]
theorem backs_shift (l : List S35) (c : Int) (k : Nat) : ∀ j, j ≤ k → (backs l c j).map (shiftI k) = backs l c j := by
  intro j hj
  conv => rhs; rw [← List.map_id (backs l c j)]
  refine List.map_congr_left (fun x hx => ?_)
  have := (backs_lt l c j x hx).1
  simp only [shiftI]
  rw [if_neg (by omega)]
  rfl
theorem backs_behind (l : List S35) (c : Int) (k : Nat) (hk : (l.getD k z35).f1 = []) : ∀ d j, j = k + d → backs (l.eraseIdx k) c j = (backs l c (j + 1)).map (shiftI k)
  | 0, j, h => by
    obtain rfl : j = k := by omega
    rw [backs_before l c j j (Nat.le_refl _)]
    simp only [backs]
    rw [hk]
    exact (backs_shift l c j j (Nat.le_refl _)).symm
  | d + 1, j, h => by
    obtain ⟨i, rfl⟩ : ∃ i, j = i + 1 := ⟨j - 1, by omega⟩
    rw [show backs (l.eraseIdx k) c (i + 1) = (((l.eraseIdx k).getD i z35).f1.filter (fun a => a.f0 == c)).map (fun a => (i, a)) ++ backs (l.eraseIdx k) c i from rfl]
    rw [show backs l c (i + 1 + 1) = ((l.getD (i + 1) z35).f1.filter (fun a => a.f0 == c)).map (fun a => (i + 1, a)) ++ backs l c (i + 1) from rfl]
    rw [backs_behind l c k hk d i (by omega), List.map_append, erase_getD, if_neg (by omega), List.map_map]
    congr 1
    refine List.map_congr_left (fun a _ => ?_)
    simp only [Function.comp, shiftI]
    rw [if_pos (by omega)]
    rfl
theorem placesN_behind (l : List S35) (k : Nat) (hk : (l.getD k z35).f1 = []) (hc : (l.getD k z35).f2.f0 ≠ 0) : ∀ d j, j = k + d → placesN (l.eraseIdx k) j = ((placesN l (j + 1)).1.eraseIdx k, (placesN l (j + 1)).2)
  | 0, j, h => by
    obtain rfl : j = k := by omega
    have hl := placesN_length l j
    rw [placesN_same l (l.eraseIdx j) j (fun i hi => by rw [erase_getD, if_pos hi]) (fun c i hi => backs_before l c j i hi) j (Nat.le_refl _)]
    simp only [placesN, pen1]
    rw [if_neg hc, List.eraseIdx_append_of_length_le (by omega), hl, Nat.sub_self]
    simp
  | d + 1, j, h => by
    obtain ⟨i, rfl⟩ : ∃ i, j = i + 1 := ⟨j - 1, by omega⟩
    have ih := placesN_behind l k hk hc d i (by omega)
    have hl := placesN_length l (i + 1)
    have hg : (l.eraseIdx k).getD i z35 = l.getD (i + 1) z35 := by rw [erase_getD, if_neg (by omega)]
    rw [show placesN (l.eraseIdx k) (i + 1) = ((placesN (l.eraseIdx k) i).1 ++ [place1 (l.eraseIdx k) (placesN (l.eraseIdx k) i).1 (placesN (l.eraseIdx k) i).2 i], pen1 (l.eraseIdx k) (placesN (l.eraseIdx k) i).2 i) from rfl]
    rw [show placesN l (i + 1 + 1) = ((placesN l (i + 1)).1 ++ [place1 l (placesN l (i + 1)).1 (placesN l (i + 1)).2 (i + 1)], pen1 l (placesN l (i + 1)).2 (i + 1)) from rfl]
    rw [ih]
    dsimp only
    rw [List.eraseIdx_append_of_lt_length (by omega)]
    have hp : place1 (l.eraseIdx k) ((placesN l (i + 1)).1.eraseIdx k) (placesN l (i + 1)).2 i = place1 l (placesN l (i + 1)).1 (placesN l (i + 1)).2 (i + 1) := by
      simp only [place1]
      rw [hg, backs_behind l _ k hk d i (by omega), List.head?_map]
      split
      · rfl
      · cases hh : (backs l (l.getD (i + 1) z35).f2.f0 (i + 1)).head? with
        | none => rfl
        | some x =>
          have hx := (backs_lt l _ (i + 1) x (List.mem_of_mem_head? hh)).2
          have hne : x.1 ≠ k := fun e => by rw [e, hk] at hx; cases hx
          simp only [Option.map_some, shiftI]
          rw [erase_getD]
          by_cases hlt : k < x.1
          · rw [if_pos hlt, if_neg (by omega), show x.1 - 1 + 1 = x.1 by omega]
          · rw [if_neg hlt, if_pos (by omega)]
    rw [hp]
    simp only [pen1]
    rw [hg]
theorem placesF_take {d : List S35} (hr : ∀ x ∈ d, rightB x = true) (hl : d.length ≤ 200) (n : Nat) : placesF (d.take n) = (placesF d).take n := by
  rw [placesF_right hr hl, placesF_right (fun x hx => hr x (List.mem_of_mem_take hx)) (by rw [List.length_take]; omega)]
  rw [placesN_tk d n _ (by rw [List.length_take]; omega)]
  rcases Nat.le_total n d.length with h | h
  · rw [show (d.take n).length = n by rw [List.length_take]; omega, placesN_cut d n d.length h]
  · rw [List.take_of_length_le h, List.take_of_length_le (by rw [placesN_length]; omega)]
theorem placesF_rest {d : List S35} (hr : ∀ x ∈ d, rightB x = true) (hl : d.length ≤ 200) (k : Nat) (hk : k < d.length) (ha : (d.getD k z35).f1 = []) (hc : (d.getD k z35).f2.f0 ≠ 0) : placesF (d.take k ++ d.drop (k + 1)) = (placesF d).take k ++ (placesF d).drop (k + 1) := by
  rw [← List.eraseIdx_eq_take_drop_succ, ← List.eraseIdx_eq_take_drop_succ]
  have hle : (d.eraseIdx k).length = d.length - 1 := by rw [List.length_eraseIdx, if_pos hk]
  rw [placesF_right hr hl, placesF_right (fun x hx => hr x (List.mem_of_mem_eraseIdx hx)) (by omega), hle]
  rw [placesN_behind d k ha hc (d.length - 1 - k) (d.length - 1) (by omega), show d.length - 1 + 1 = d.length by omega]
end Go.Proofs.Ytnnkbcgoockniaa.Q
