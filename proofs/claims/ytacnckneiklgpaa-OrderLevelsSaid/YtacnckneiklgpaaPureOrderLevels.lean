/- OrderLevels, the plain part. -/
import Derived.Test.YtacnckneiklgpaaQx20
import Derived.Test.YtacnckneiklgpaaRd
namespace Go.Proofs.Ytacnckneiklgpaa.Plain
open Go.RowKit Go.Proofs.Ytacnckneiklgpaa.Q Go.Proofs.YtacnckneiklgpaaW.PrintWords Go.Proofs.YtacnckneiklgpaaW.PrintLast
set_option linter.unusedVariables false
set_option linter.unusedSimpArgs false
/- Runs. -/
def snocP : List (Nat × Nat × Int) → Nat → Int → List (Nat × Nat × Int)
  | [], a, v => [(a, a + 1, v)]
  | [p], a, v => if p.2.2 = v then [(p.1, a + 1, v)] else [p, (a, a + 1, v)]
  | p :: q :: r, a, v => p :: snocP (q :: r) a v
theorem snocP_ne (ps : List (Nat × Nat × Int)) (a : Nat) (v : Int) : snocP ps a v ≠ [] := by
  cases ps with
  | nil => simp [snocP]
  | cons p r =>
    cases r with
    | nil => simp only [snocP]; split <;> simp
    | cons q r => simp [snocP]
theorem pcs_snoc : ∀ (l : List Int) (off : Nat) (x : Int), pcs (fun y => y) off (l ++ [x]) = snocP (pcs (fun y => y) off l) (off + l.length) x := by
  intro l
  induction l with
  | nil => intro off x; rfl
  | cons y l ih =>
    intro off x
    have h := ih (off + 1) x
    rw [List.cons_append, pcs, h, pcs, List.length_cons, show off + (l.length + 1) = off + 1 + l.length by omega]
    cases pcs (fun y => y) (off + 1) l with
    | nil =>
      simp only [snocP]
      by_cases e : x = y
      · rw [if_pos e, if_pos e.symm, e]
      · rw [if_neg e, if_neg (Ne.symm e)]
    | cons p ps =>
      cases ps with
      | nil =>
        simp only [snocP]
        by_cases e : p.2.2 = x
        · rw [if_pos e]
          dsimp only
          by_cases e2 : x = y
          · rw [if_pos e2, if_pos (e.trans e2)]
            simp only [snocP]
            rw [if_pos e2.symm, e2]
          · rw [if_neg e2, if_neg (fun h => e2 (e.symm.trans h))]
            simp only [snocP]
            rw [if_pos e]
        · rw [if_neg e]
          dsimp only
          by_cases e2 : p.2.2 = y
          · rw [if_pos e2, if_pos e2]
            simp only [snocP]
            rw [if_neg (fun h => e (e2.trans h))]
          · rw [if_neg e2, if_neg e2]
            simp only [snocP]
            rw [if_neg e]
      | cons q r =>
        simp only [snocP]
        by_cases e2 : p.2.2 = y
        · rw [if_pos e2, if_pos e2]
          simp only [snocP]
        · rw [if_neg e2, if_neg e2]
          simp only [snocP]
theorem snocP_app (qs : List (Nat × Nat × Int)) (p : Nat × Nat × Int) (a : Nat) (v : Int) : snocP (qs ++ [p]) a v = if p.2.2 = v then qs ++ [(p.1, a + 1, v)] else (qs ++ [p]) ++ [(a, a + 1, v)] := by
  induction qs with
  | nil => simp only [List.nil_append, snocP]; split <;> rfl
  | cons q qs ih =>
    cases qs with
    | nil =>
      simp only [List.nil_append, List.cons_append, snocP]
      split <;> rfl
    | cons r qs =>
      rw [List.cons_append, List.cons_append, snocP, ← List.cons_append, ih]
      split <;> simp
theorem snocP_last (ps : List (Nat × Nat × Int)) (a : Nat) (v : Int) : ∃ qs p, snocP ps a v = qs ++ [p] ∧ p.2.2 = v := by
  rcases List.eq_nil_or_concat ps with h | ⟨qs, p, h⟩
  · subst h
    exact ⟨[], _, rfl, rfl⟩
  · rw [h, List.concat_eq_append, snocP_app]
    split
    · exact ⟨_, _, rfl, rfl⟩
    · exact ⟨_, _, rfl, rfl⟩
theorem take_snoc (l : List Int) (i : Nat) (h : i < l.length) : l.take (i + 1) = l.take i ++ [l.getD i 0] := by
  rw [List.take_add_one, List.getD_eq_getElem?_getD, List.getElem?_eq_getElem h]
  rfl
def mk44 (p : Nat × Nat × Int) : S44 := ⟨(p.1 : Int), (p.2.1 : Int), p.2.2⟩
theorem runsL_def (l : List Int) : runsL l = (pcs (fun x => x) 0 l).map mk44 := rfl
theorem runs_first (l : List Int) (h : 0 < l.length) : runsL (l.take 1) = [⟨0, 1, l.getD 0 0⟩] := by
  rw [take_snoc l 0 h]
  rfl
theorem runs_last (l : List Int) (i : Nat) (h0 : 0 < i) (h : i < l.length) : ∃ qs p, pcs (fun x => x) 0 (l.take i) = qs ++ [p] ∧ p.2.2 = l.getD (i - 1) 0 := by
  obtain ⟨j, rfl⟩ : ∃ j, i = j + 1 := ⟨i - 1, by omega⟩
  rw [take_snoc l j (by omega), pcs_snoc]
  exact snocP_last _ _ _
theorem runs_step (l : List Int) (i : Nat) (h : i < l.length) : pcs (fun x => x) 0 (l.take (i + 1)) = snocP (pcs (fun x => x) 0 (l.take i)) i (l.getD i 0) := by
  rw [take_snoc l i h, pcs_snoc, List.length_take, Nat.min_eq_left (by omega), Nat.zero_add]
theorem ev_runs_l0 (l : List Int) (hl : l.length ≤ 1000) : ∀ (d i : Nat), i + d = l.length → Ev (fun k => abugidaref07_Runs.l0 k (runsL (l.take i)) l (i : Int)) (runsL l) := by
  intro d
  induction d with
  | zero =>
    intro i h
    rw [List.take_of_length_le (by omega)]
    refine Ev.step (fun k => by rw [abugidaref07_Runs.l0, if_neg (by omega)]) ?_
    exact Ev.now _
  | succ d ih =>
    intro i h
    have h2 := ih (i + 1) (by omega)
    have c0 : (i : Int) < (l.length : Int) := by omega
    have c1 : (0 : Int) ≤ (i : Int) := by omega
    have hw : wrap64 ((i : Int) + 1) = ((i + 1 : Nat) : Int) := by rw [w64 _ (by omega) (by omega)]; omega
    have hrl : (runsL (l.take i)).length ≤ i := by
      rw [runsL_def, List.length_map]
      have := pcs_len (fun x : Int => x) (l.take i) 0
      rw [List.length_take] at this
      omega
    have c2 : (runsL (l.take i)).length < 5864062014805 := by omega
    have hx : rd l (i : Int) = l.getD i 0 := rd_nat l i
    by_cases h0 : 0 < i
    · obtain ⟨qs, p, e1, e2⟩ := runs_last l i h0 (by omega)
      have hst := runs_step l i (by omega)
      rw [e1, snocP_app] at hst
      have hR : runsL (l.take i) = qs.map mk44 ++ [mk44 p] := by rw [runsL_def, e1, List.map_append]; rfl
      have q0 : (i : Int) > 0 := by omega
      have hwi : wrap64 ((i : Int) - 1) = ((i - 1 : Nat) : Int) := by rw [w64 _ (by omega) (by omega)]; omega
      have q1 : (0 : Int) ≤ ((i - 1 : Nat) : Int) := by omega
      have q2 : ((i - 1 : Nat) : Int) < (l.length : Int) := by omega
      have hp : rd l ((i - 1 : Nat) : Int) = l.getD (i - 1) 0 := rd_nat l (i - 1)
      by_cases he : l.getD (i - 1) 0 = l.getD i 0
      · have hlen : ((runsL (l.take i)).length : Int) = ((qs.length + 1 : Nat) : Int) := by rw [hR]; simp
        have hle : qs.length + 1 ≤ i := by
          rw [hR] at hrl
          simpa using hrl
        have hwl : wrap64 (((runsL (l.take i)).length : Int) - 1) = (qs.length : Int) := by rw [hlen, w64 _ (by omega) (by omega)]; omega
        have q3 : (0 : Int) ≤ (qs.length : Int) := by omega
        have q4 : (qs.length : Int) < ((runsL (l.take i)).length : Int) := by rw [hlen]; omega
        have hrd : rd_T44 (runsL (l.take i)) (qs.length : Int) = mk44 p := by
          unfold rd_T44
          rw [Int.toNat_natCast, hR, List.getD_eq_getElem?_getD, List.getElem?_append_right (by rw [List.length_map]; exact Nat.le_refl _), List.length_map, Nat.sub_self]
          rfl
        rw [if_pos (e2.trans he)] at hst
        have hN : runsL (l.take (i + 1)) = (runsL (l.take i)).set qs.length ⟨(mk44 p).f0, ((i + 1 : Nat) : Int), (mk44 p).f2⟩ := by
          rw [runsL_def, hst, hR, List.set_append_right _ _ (by rw [List.length_map]; exact Nat.le_refl _), List.length_map, Nat.sub_self, List.map_append]
          simp only [List.set_cons_zero, List.map_cons, List.map_nil, mk44, ← he, e2]
        rw [hN] at h2
        refine Ev.step (fun k => by rw [abugidaref07_Runs.l0, if_pos c0, if_pos q0, hwi, if_pos q1, if_pos q2, if_pos c1, hp, hx, if_pos he, hwl, if_pos q3, if_pos q4, Int.toNat_natCast, hrd, hw]) ?_
        exact h2
      · rw [if_neg (fun hh => he (e2.symm.trans hh)), ← e1] at hst
        have hN : runsL (l.take (i + 1)) = runsL (l.take i) ++ [⟨(i : Int), ((i + 1 : Nat) : Int), l.getD i 0⟩] := by
          rw [runsL_def, hst, List.map_append]
          rfl
        rw [hN] at h2
        refine Ev.step (fun k => by rw [abugidaref07_Runs.l0, if_pos c0, if_pos q0, hwi, if_pos q1, if_pos q2, if_pos c1, hp, hx, if_neg he, if_pos c2, hw]) ?_
        exact h2
    · obtain rfl : i = 0 := by omega
      rw [runs_first l (by omega)] at h2
      refine Ev.step (fun k => by rw [abugidaref07_Runs.l0, if_pos c0, if_neg (by omega), if_pos c1, if_pos c2, hw, hx]) ?_
      exact h2
theorem ev_rruns (s : ByteArray) (hs : s.size ≤ 1000) : Ev (fun k => abugidaref07_Runs.f k s) (runsL (levF (bytesOf s) (kindsP s))) := by
  have hl := levF_length s
  unfold abugidaref07_Runs.f
  refine Ev.bind (g := fun k => abugidaref07_Levels.f k s) (ev_rlevels s hs) ?_
  exact ev_runs_l0 (levF (bytesOf s) (kindsP s)) (by omega) (levF (bytesOf s) (kindsP s)).length 0 (by omega)
theorem ev_same_l0 (L : List S44) (hL : L.length ≤ 1000) (d : Nat) : ∀ i : Nat, i + d = L.length → Ev (fun k => abugidaref07_Same.l0 k L L (i : Int)) true := by
  induction d with
  | zero =>
    intro i hi
    refine Ev.step (fun k => by simp only [abugidaref07_Same.l0, if_neg (show ¬ (i : Int) < (L.length : Int) by omega)]; rfl) ?_; exact Ev.now _
  | succ d ih =>
    intro i hi
    have hw : wrap64 ((i : Int) + 1) = ((i + 1 : Nat) : Int) := by rw [w64 _ (by omega) (by omega)]; omega
    refine Ev.step (fun k => by simp only [abugidaref07_Same.l0, if_pos (show (i : Int) < (L.length : Int) by omega), if_pos (show (0 : Int) ≤ i by omega), beq_self_eq_true, Bool.not_true, Bool.or_self, Bool.false_eq_true, if_false, hw]; rfl) ?_
    exact ih (i + 1) (by omega)
theorem ev_same (L : List S44) (hL : L.length ≤ 1000) : Ev (fun k => abugidaref07_Same.f k L L) true := by
  unfold abugidaref07_Same.f
  simp only [if_true]
  exact ev_same_l0 L hL L.length 0 (Nat.zero_add _)
theorem runsL_length (l : List Int) : (runsL l).length ≤ l.length := by
  rw [runsL_def, List.length_map]
  exact pcs_len _ _ _
end Go.Proofs.Ytacnckneiklgpaa.Plain
namespace Go.Proofs.Ytacnckneiklgpaa.Pure
open Go.RowKit Go.Proofs.Ytacnckneiklgpaa.Q Go.Proofs.Ytacnckneiklgpaa.Plain Go.Proofs.YtacnckneiklgpaaW.PrintWords Go.Proofs.YtacnckneiklgpaaW.PrintLast Go.Proofs.YtacnckneiklgpaaW.PrintMore
set_option linter.unusedVariables false
namespace Lvl
theorem saneK : ∃ k, abugidalaw07_sanity.f k = some true := ⟨300, by decide +kernel⟩
theorem ev_sane : Ev (fun k => abugidalaw07_sanity.f k) true := by
  obtain ⟨k, h⟩ := saneK
  exact Ev.of abugidalaw07_sanity.mono h
theorem equal_l0 (l : List Int) (hl : l.length ≤ 1000) : ∀ (d i : Nat), i + d = l.length → Ev (fun k => abugidaref07_Equal.l0 k l l (i : Int)) true
  | 0, i, h => by
    refine Ev.step (fun k => by simp only [abugidaref07_Equal.l0, if_neg (show ¬ (i : Int) < (l.length : Int) by omega)]; rfl) ?_
    exact Ev.now _
  | d + 1, i, h => by
    refine Ev.step (fun k => by simp only [abugidaref07_Equal.l0, if_pos (show (i : Int) < (l.length : Int) by omega), if_pos (show (0 : Int) ≤ (i : Int) by omega), w64 ((i : Int) + 1) (by omega) (by omega)]; rfl) ?_
    exact Ev.congr (fun k => if_pos trivial) (equal_l0 l hl d (i + 1) (by omega))
theorem equal_ev (l : List Int) (hl : l.length ≤ 1000) : Ev (fun k => abugidaref07_Equal.f k l l) true := by
  refine Ev.congr (fun k => ?_) (equal_l0 l hl l.length 0 (by omega))
  rw [abugidaref07_Equal.f, if_pos rfl]
  rfl
end Lvl
open Lvl in
theorem OrderLevels : abugidalaw07_OrderLevels.Pure := by
  intro a0 h0
  refine Ev.rounds ?_
  refine Ev.bind (g := fun k => abugidalaw07_sanity.f k) ev_sane ?_
  obtain ⟨n, hn, hn6, hnl⟩ : ∃ n : Nat, mn (a0.size : Int) 120 = (n : Int) ∧ n ≤ 120 ∧ n ≤ a0.size := by
    unfold mn
    split
    · exact ⟨120, rfl, Nat.le_refl _, by omega⟩
    · exact ⟨a0.size, rfl, by omega, Nat.le_refl _⟩
  have hA : (a0.extract 0 n).size = n := by rw [ByteArray.size_extract]; omega
  refine Ev.congr (fun k => by rw [abugidalaw07_short.f, hn, if_pos (by omega), if_pos (by omega), Int.toNat_natCast, Option.bind_some, if_pos rfl]) ?_
  change Ev (fun k => (order_Right.f (a0.extract 0 n)).bind _) true
  generalize a0.extract 0 n = s at hA ⊢
  have c2 : s.size ≤ 9223372036854775807 := by omega
  have hl := levF_length s
  have hr := runsL_length (levF (bytesOf s) (kindsP s))
  have c3 : (levF (bytesOf s) (kindsP s)).length ≤ 1000000 := by omega
  refine Ev.congr (fun k => by rw [order_Right.f, order_base.f, if_pos c2, Option.bind_some, Option.bind_some]) ?_
  refine Ev.bind (g := fun k => abugidaref07_Right.f k s) (ev_rright s (by omega)) ?_
  refine Ev.congr (fun k => by rw [if_pos (beq_self_eq_true _), order_Levels.f, levels_f s (by omega), Option.bind_some]) ?_
  refine Ev.bind (g := fun k => abugidaref07_Levels.f k s) (ev_rlevels s (by omega)) ?_
  refine Ev.bind (g := fun k => abugidaref07_Equal.f k (levF (bytesOf s) (kindsP s)) (levF (bytesOf s) (kindsP s))) (equal_ev _ (by omega)) ?_
  refine Ev.congr (fun k => by rw [if_pos rfl, order_Runs.f, runsO, levels_f s (by omega), Option.bind_some, if_pos c3, Option.bind_some]) ?_
  refine Ev.bind (g := fun k => abugidaref07_Runs.f k s) (ev_rruns s (by omega)) ?_
  refine Ev.bind (g := fun k => abugidaref07_Same.f k (runsL (levF (bytesOf s) (kindsP s))) (runsL (levF (bytesOf s) (kindsP s)))) (ev_same _ (by omega)) ?_
  exact Ev.now _
end Go.Proofs.Ytacnckneiklgpaa.Pure
