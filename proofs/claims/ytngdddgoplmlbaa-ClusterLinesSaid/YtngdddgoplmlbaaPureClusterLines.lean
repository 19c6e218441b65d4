/- ClusterLines: behind the end of a line the clusters are those of the rest alone. For all numbers. -/
import Derived.Test.YtngdddgoplmlbaaQx15
import Derived.Test.YtngdddgoplmlbaaTwo
namespace Go.Proofs.Ytngdddgoplmlbaa.Pure
open Go.RowKit Go.Proofs.Ytngdddgoplmlbaa.Q Go.Proofs.Ytngdddgoplmlbaa.Plain Go.Proofs.YtngdddgoplmlbaaW.PrintWords Go.Proofs.YtngdddgoplmlbaaW.PrintLast

theorem rdL_at (L : List S30) (j : Nat) (h : j < L.length) : rd_T30 L (j : Int) = L[j] := by
  unfold rd_T30
  rw [List.getD_eq_getElem?_getD, Int.toNat_natCast, List.getElem?_eq_getElem h]
  rfl

theorem class_line : hcls 10 = 1 := by decide +kernel

theorem lines_end (s t : ByteArray) (a : Nat) (_ht : 0 < t.size) : hbegin ((s ++ ⟨#[10]⟩) ++ t) (s ++ (⟨#[10]⟩ : ByteArray)).size a = true := by
  have e : ((s ++ (⟨#[10]⟩ : ByteArray)).size : Int) - 1 = ((s.size + 0 : Nat) : Int) := by rw [ByteArray.size_append]; show ((s.size + 1 : Nat) : Int) - 1 = _; omega
  have hb : bt ((s ++ ⟨#[10]⟩) ++ t) (((s ++ (⟨#[10]⟩ : ByteArray)).size : Int) - 1) = 10 := by
    rw [bt_left _ t _ (by omega) (by omega), e, bt_right s ⟨#[10]⟩ 0 (by decide)]
    rfl
  unfold hbegin
  rw [hb, class_line]
  simp

theorem lines_l0 (s t : ByteArray) (hs : s.size ≤ 100) (ht : t.size ≤ 100) (hst : spans (s ++ t) = spans s ++ (spans t).map (shift s.size)) (d : Nat) : ∀ j : Nat, j + d = (spans t).length →
    Ev (fun k => abugidalaw06_ClusterLines.l0 k true s t (spans s ++ ((spans t).take j).map (shift s.size)) (spans t) ((spans t).length : Int) j) true := by
  have hls := spans_length s
  have hlt := spans_length t
  induction d with
  | zero =>
    intro j hj
    have hz : s.size + t.size ≤ 9223372036854775807 := by omega
    refine Ev.step (fun k => by simp only [abugidalaw06_ClusterLines.l0, if_neg (show ¬ (j : Int) < ((spans t).length : Int) by omega), if_true, if_pos hz, split_spans (s ++ t) (by rw [ByteArray.size_append]; omega), Option.bind_some]; rfl) ?_
    rw [List.take_of_length_le (by omega), ← hst]
    exact Ev.bind (ev_same (spans (s ++ t)) (by rw [hst, List.length_append, List.length_map]; omega)) (Ev.now _)
  | succ d ih =>
    intro j hj
    have hjl : j < (spans t).length := by omega
    have hw : wrap64 ((j : Int) + 1) = ((j + 1 : Nat) : Int) := by rw [w64 _ (by omega) (by omega)]; omega
    have hr := rdL_at (spans t) j hjl
    have hmem : ∀ sp ∈ spans t, 0 ≤ sp.f0 ∧ sp.f0 ≤ 100 ∧ 0 ≤ sp.f1 ∧ sp.f1 ≤ 100 := by
      have key : ∀ (l : List S30) (a : Nat), Cov t t.size a l → ∀ sp ∈ l, 0 ≤ sp.f0 ∧ sp.f0 ≤ 100 ∧ 0 ≤ sp.f1 ∧ sp.f1 ≤ 100 := by
        intro l
        induction l with
        | nil => intro a _ sp h; cases h
        | cons p l ih =>
          rintro a ⟨b, e, h1, h2, _, _, _, h6⟩ sp h
          rcases List.mem_cons.mp h with rfl | h
          · subst e
            exact ⟨by simp, by show (a : Int) ≤ 100; omega, by simp, by show (b : Int) ≤ 100; omega⟩
          · exact ih b h6 sp h
      exact key _ 0 (cov_spans t)
    obtain ⟨g1, g2, g3, g4⟩ := hmem _ (List.getElem_mem hjl)
    have hacc : (spans s ++ ((spans t).take j).map (shift s.size)).length < 8796093022208 := by rw [List.length_append, List.length_map, List.length_take]; omega
    have e0 : wrap64 ((spans t)[j].f0 + (s.size : Int)) = (spans t)[j].f0 + (s.size : Int) := w64 _ (by omega) (by omega)
    have e1 : wrap64 ((spans t)[j].f1 + (s.size : Int)) = (spans t)[j].f1 + (s.size : Int) := w64 _ (by omega) (by omega)
    refine Ev.step (fun k => by simp only [abugidalaw06_ClusterLines.l0, if_pos (show (j : Int) < ((spans t).length : Int) by omega), if_pos (show (0 : Int) ≤ j by omega), if_pos hacc, hr, e0, e1, hw]; rfl) ?_
    have := ih (j + 1) (by omega)
    rw [List.take_succ_eq_append_getElem hjl, List.map_append, ← List.append_assoc] at this
    exact this

theorem ClusterLines : abugidalaw06_ClusterLines.Pure := by
  intro l l' _ _ _ _ _ _
  obtain ⟨s, hs, h30⟩ := ev_made l 30 (by omega)
  obtain ⟨t, ht, h30'⟩ := ev_made l' 30 (by omega)
  refine Ev.rounds ?_
  unfold abugidalaw06_ClusterLines.f
  have hsz : (s ++ (⟨#[10]⟩ : ByteArray)).size = s.size + 1 := by rw [ByteArray.size_append]; rfl
  refine Ev.bind ev_sanity ?_
  refine Ev.bind hs ?_
  simp only [if_pos (show s.size + 1 ≤ 9223372036854775807 by omega)]
  refine Ev.bind ht ?_
  simp only [split_spans (s ++ (⟨#[10]⟩ : ByteArray)) (by omega), split_spans t (by omega), Option.bind_some]
  have := lines_l0 (s ++ ⟨#[10]⟩) t (by omega) (by omega) (spans_append _ t (fun a h => lines_end s t a h)) (spans t).length 0 (Nat.zero_add _)
  rw [List.take_zero, List.map_nil, List.append_nil] at this
  exact this

end Go.Proofs.Ytngdddgoplmlbaa.Pure
