/- What the laws about sets lean on: lists, the program's own functions. -/
import Derived.Test.YtfjiamhgennmbaaQx7
namespace Go.Proofs.Ytfjiamhgennmbaa.Plain
open Go.RowKit Go.Proofs.Ytfjiamhgennmbaa.Q Go.Proofs.YtfjiamhgennmbaaW.PrintWords Go.Proofs.YtfjiamhgennmbaaW.PrintLast Go.Proofs.YtfjiamhgennmbaaW.PrintMore

theorem w64n (n : Nat) (h : n < 1000000) : wrap64 ((n : Int) + 1) = ((n + 1 : Nat) : Int) := by
  unfold wrap64
  omega

/-- A list that the walks take. -/
def Ok (l : List Int) : Prop := l.length ≤ 1000 ∧ ∀ x ∈ l, wrap64 x = x
theorem Ok.okl {l : List Int} (h : Ok l) : okl l = true := by
  simp only [Q.okl, Bool.and_eq_true, List.all_eq_true, decide_eq_true_eq]
  exact ⟨by have := h.1; omega, h.2⟩
theorem wrap_wf {x : Int} (h : (Lit.int .i64 x).wf = true) : wrap64 x = x := by
  have e1 : IntKind.i64.min = -9223372036854775808 := by decide
  have e2 : IntKind.i64.max = 9223372036854775807 := by decide
  simp only [Lit.wf, e1, e2, Bool.and_eq_true, decide_eq_true_eq] at h
  unfold wrap64
  omega

theorem len_hwith (n : Int) : ∀ l : List Int, (hwith l n).length ≤ l.length + 1
  | [] => by simp [hwith]
  | x :: t => by
    have := len_hwith n t
    unfold hwith
    split
    · simp only [List.length_cons]; omega
    · split <;> simp only [List.length_cons] <;> omega
theorem len_hfold : ∀ (l acc : List Int), (l.foldl hwith acc).length ≤ acc.length + l.length
  | [], acc => by simp
  | x :: t, acc => by
    have h1 := len_hfold t (hwith acc x)
    have h2 := len_hwith x acc
    rw [List.foldl_cons, List.length_cons]
    omega
theorem len_hset (l : List Int) : (hset l).length ≤ l.length := by
  have := len_hfold l []
  simpa [hset] using this

theorem ok_hset {l : List Int} (h : Ok l) : Ok (hset l) := ⟨Nat.le_trans (len_hset l) h.1, fun x hx => h.2 x ((mem_hset l x).mp hx)⟩
theorem ok_append {l m : List Int} (h : l.length + m.length ≤ 1000) (h1 : Ok l) (h2 : Ok m) : Ok (l ++ m) := ⟨by rw [List.length_append]; exact h, fun x hx => by
  rcases List.mem_append.mp hx with hx | hx
  · exact h1.2 x hx
  · exact h2.2 x hx⟩
theorem ok_filter {l : List Int} (p : Int → Bool) (h : Ok l) : Ok (l.filter p) := ⟨Nat.le_trans (List.length_filter_le p l) h.1, fun x hx => h.2 x (List.mem_filter.mp hx).1⟩

/-- The first 40 numbers. -/
theorem few_is (l : List Int) : abugidalaw15_few.f l = some (l.take 40) := by
  unfold abugidalaw15_few.f
  simp only [Option.bind_some]
  have h1 : mn (l.length : Int) 40 = ((min l.length 40 : Nat) : Int) := by
    unfold mn
    split <;> omega
  rw [h1, if_pos (by omega), if_pos (by omega), Int.toNat_natCast]
  have h2 : l.take (min l.length 40) = l.take 40 := by
    rw [List.take_eq_take_iff]
    omega
  rw [h2, if_pos (by simp only [List.length_nil, List.length_take]; omega), List.nil_append]
theorem few_ok {l : List Int} (h : ∀ x ∈ l, (Lit.int .i64 x).wf = true) : Ok (l.take 40) ∧ (l.take 40).length ≤ 40 := by
  have h1 : (l.take 40).length ≤ 40 := by rw [List.length_take]; omega
  exact ⟨⟨by omega, fun x hx => wrap_wf (h x (List.mem_of_mem_take hx))⟩, h1⟩

theorem norm_is {l : List Int} (h : Ok l) : sets_Norm.f l = some (hset l) := by
  unfold sets_Norm.f norm_f
  rw [if_pos h.okl]
theorem join_is {l m : List Int} (h : Ok l) (h' : Ok m) : sets_Join.f l m = some (hset (l ++ m)) := by
  unfold sets_Join.f join_f
  rw [if_pos ⟨h.okl, h'.okl⟩]
theorem meet_is {l m : List Int} (h : Ok l) (h' : Ok m) : sets_Meet.f l m = some (hset (l.filter fun x => decide (x ∈ m))) := by
  unfold sets_Meet.f meet_f
  rw [if_pos ⟨h.okl, h'.okl⟩]
theorem less_is {l m : List Int} (h : Ok l) (h' : Ok m) : sets_Less.f l m = some (hset (l.filter fun x => decide (x ∉ m))) := by
  unfold sets_Less.f less_f
  rw [if_pos ⟨h.okl, h'.okl⟩]
theorem overlap_is {l m : List Int} (h : Ok l) (h' : Ok m) : sets_Overlap.f l m = some (decide (((hset (l.filter fun x => decide (x ∈ m))).length : Int) > 0)) := by
  unfold sets_Overlap.f
  rw [meet_is h h', Option.bind_some]

theorem drop_at {L : List Int} {i : Nat} (h : i < L.length) : L.drop i = rd L (i : Int) :: L.drop (i + 1) := by
  rw [rd_get L i h, List.drop_eq_getElem_cons h]

theorem ev_same_l0 (L : List Int) (hL : L.length ≤ 10000) (d : Nat) : ∀ i : Nat, i + d = L.length → Ev (fun k => abugidaref15_Same.l0 k L L i) true := by
  induction d with
  | zero =>
    intro i hi
    refine Ev.step (fun k => by simp only [abugidaref15_Same.l0, if_neg (show ¬ (i : Int) < (L.length : Int) by omega)]; rfl) ?_
    exact Ev.now _
  | succ d ih =>
    intro i hi
    refine Ev.step (fun k => by simp only [abugidaref15_Same.l0, if_pos (show (i : Int) < (L.length : Int) by omega), if_pos (show (0 : Int) ≤ i by omega), if_true, w64n i (by omega)]; rfl) ?_
    exact ih (i + 1) (by omega)
theorem ev_same (L : List Int) (hL : L.length ≤ 10000) : Ev (fun k => abugidaref15_Same.f k L L) true := by
  unfold abugidaref15_Same.f
  simp only [if_true]
  exact ev_same_l0 L hL L.length 0 (Nat.zero_add _)

/-- A list in increasing order is right. -/
theorem ev_right_l0 (L : List Int) (hs : L.Pairwise (· < ·)) (hL : L.length ≤ 10000) (d : Nat) : ∀ i : Nat, 1 ≤ i → L.length ≤ i + d → Ev (fun k => sets_Right.l0 k L i) true := by
  induction d with
  | zero =>
    intro i _ hi
    refine Ev.step (fun k => by simp only [sets_Right.l0, if_neg (show ¬ (i : Int) < (L.length : Int) by omega)]; rfl) ?_
    exact Ev.now _
  | succ d ih =>
    intro i h1 hi
    by_cases hlt : i < L.length
    · have hw : wrap64 ((i : Int) - 1) = ((i - 1 : Nat) : Int) := by unfold wrap64; omega
      have hc : ¬ rd L ((i - 1 : Nat) : Int) ≥ rd L (i : Int) := by
        rw [rd_get L (i - 1) (by omega), rd_get L i hlt]
        have := List.pairwise_iff_getElem.mp hs (i - 1) i (by omega) hlt (by omega)
        omega
      refine Ev.step (fun k => by simp only [sets_Right.l0, if_pos (show (i : Int) < (L.length : Int) by omega), if_pos (show (0 : Int) ≤ i by omega), hw, if_pos (show (0 : Int) ≤ ((i - 1 : Nat) : Int) by omega), if_pos (show ((i - 1 : Nat) : Int) < (L.length : Int) by omega), if_neg hc, w64n i (by omega)]; rfl) ?_
      exact ih (i + 1) (by omega) (by omega)
    · refine Ev.step (fun k => by simp only [sets_Right.l0, if_neg (show ¬ (i : Int) < (L.length : Int) by omega)]; rfl) ?_
      exact Ev.now _
theorem ev_right (L : List Int) (hs : L.Pairwise (· < ·)) (hL : L.length ≤ 10000) : Ev (fun k => sets_Right.f k L) true := ev_right_l0 L hs hL L.length 1 (Nat.le_refl _) (by omega)

theorem ev_index (L : List Int) (n : Int) (hL : L.length ≤ 10000) (d : Nat) : ∀ i : Nat, i + d = L.length → ∃ r, Ev (fun k => slices_Index_int_int.l0 k L n (L.length : Int) i) r ∧ (r ≥ 0 ↔ n ∈ L.drop i) := by
  induction d with
  | zero =>
    intro i hi
    refine ⟨-1, ?_, ?_⟩
    · refine Ev.step (fun k => by simp only [slices_Index_int_int.l0, if_neg (show ¬ (i : Int) < (L.length : Int) by omega)]; rfl) ?_
      exact Ev.now _
    · rw [List.drop_eq_nil_of_le (by omega)]
      simp
  | succ d ih =>
    intro i hi
    have hd := drop_at (show i < L.length by omega)
    by_cases hc : n = rd L (i : Int)
    · refine ⟨(i : Int), ?_, ?_⟩
      · refine Ev.step (fun k => by simp only [slices_Index_int_int.l0, if_pos (show (i : Int) < (L.length : Int) by omega), if_pos (show (0 : Int) ≤ i by omega), if_pos hc]; rfl) ?_
        exact Ev.now _
      · rw [hd, hc]
        simp
    · obtain ⟨r, h1, h2⟩ := ih (i + 1) (by omega)
      refine ⟨r, ?_, ?_⟩
      · refine Ev.step (fun k => by simp only [slices_Index_int_int.l0, if_pos (show (i : Int) < (L.length : Int) by omega), if_pos (show (0 : Int) ≤ i by omega), if_neg hc, w64n i (by omega)]; rfl) ?_
        exact h1
      · rw [h2, hd, List.mem_cons]
        simp [hc]
theorem ev_has (L : List Int) (n : Int) (hL : L.length ≤ 10000) : Ev (fun k => sets_Has.f k L n) (decide (n ∈ L)) := by
  obtain ⟨r, h1, h2⟩ := ev_index L n hL L.length 0 (Nat.zero_add _)
  unfold sets_Has.f slices_Contains_int_int.f slices_Index_int_int.f
  refine Ev.bind (Ev.bind h1 (Ev.now _)) ?_
  rw [List.drop_zero] at h2
  rw [show decide (r ≥ 0) = decide (n ∈ L) from decide_eq_decide.mpr h2]
  exact Ev.now _

theorem sanity_true : abugidalaw15_sanity.f 50 = some true := by decide +kernel
theorem ev_sanity : Ev (fun k => abugidalaw15_sanity.f k) true := Ev.of abugidalaw15_sanity.mono sanity_true

end Go.Proofs.Ytfjiamhgennmbaa.Plain
