/- The reference's sets. -/
import Derived.Test.YtfjiamhgennmbaaOwn
import Derived.Test.YtfjiamhgennmbaaQx8
import Derived.Test.YtfjiamhgennmbaaQx9
namespace Go.Proofs.Ytfjiamhgennmbaa.Plain
open Go.RowKit Go.Proofs.Ytfjiamhgennmbaa.Q Go.Proofs.YtfjiamhgennmbaaW.PrintWords Go.Proofs.YtfjiamhgennmbaaW.PrintLast Go.Proofs.YtfjiamhgennmbaaW.PrintMore

theorem ev_with_l0 (L : List Int) (n : Int) (hL : L.length ≤ 10000) (d : Nat) : ∀ i : Nat, i + d = L.length → Ev (fun k => abugidaref15_With.l0 k L n i) (L.take i ++ hwith (L.drop i) n) := by
  induction d with
  | zero =>
    intro i hi
    have hlt : (L.take i).length ≤ 10000 := by rw [List.length_take]; omega
    have hld : (L.drop i).length ≤ 10000 := by rw [List.length_drop]; omega
    refine Ev.step (fun k => by simp only [abugidaref15_With.l0, if_neg (show ¬ (i : Int) < (L.length : Int) by omega), Option.bind_some, if_pos (show (0 : Int) ≤ i by omega), if_pos (show (i : Int) ≤ (L.length : Int) by omega), Int.toNat_natCast]; rfl) ?_
    rw [if_pos (by simp only [List.length_cons, List.length_nil]; omega), if_pos (by simp only [List.length_nil]; omega), if_pos (by simp only [List.length_append, List.length_cons, List.length_nil]; omega)]
    rw [show ([] ++ L.take i ++ ([n] ++ L.drop i)) = L.take i ++ hwith (L.drop i) n by rw [List.drop_eq_nil_of_le (show L.length ≤ i by omega)]; simp [hwith]]
    exact Ev.now _
  | succ d ih =>
    intro i hi
    have hd := drop_at (show i < L.length by omega)
    have hlt : (L.take i).length ≤ 10000 := by rw [List.length_take]; omega
    have hld : (L.drop i).length ≤ 10000 := by rw [List.length_drop]; omega
    by_cases hc : rd L (i : Int) < n
    · have ht : L.take i ++ hwith (L.drop i) n = L.take (i + 1) ++ hwith (L.drop (i + 1)) n := by
        rw [hd]
        unfold hwith
        rw [if_pos hc]
        conv => rhs; rw [List.take_add_one, List.getElem?_eq_getElem (show i < L.length by omega), Option.toList_some, List.append_assoc, List.singleton_append, ← rd_get L i (by omega)]
        cases L.drop (i + 1) <;> rfl
      rw [ht]
      refine Ev.step (fun k => by simp only [abugidaref15_With.l0, if_pos (show (i : Int) < (L.length : Int) by omega), if_pos (show (0 : Int) ≤ i by omega), if_pos hc, w64n i (by omega)]; rfl) ?_
      exact ih (i + 1) (by omega)
    · by_cases he : rd L (i : Int) = n
      · refine Ev.step (fun k => by simp only [abugidaref15_With.l0, if_pos (show (i : Int) < (L.length : Int) by omega), if_pos (show (0 : Int) ≤ i by omega), if_neg hc, if_pos he]; rfl) ?_
        rw [show L.take i ++ hwith (L.drop i) n = L by rw [hd]; unfold hwith; rw [if_neg hc, if_pos he, ← hd, List.take_append_drop]]
        exact Ev.now _
      · refine Ev.step (fun k => by simp only [abugidaref15_With.l0, if_pos (show (i : Int) < (L.length : Int) by omega), if_pos (show (0 : Int) ≤ i by omega), if_neg hc, if_neg he, Option.bind_some, if_pos (show (i : Int) ≤ (L.length : Int) by omega), Int.toNat_natCast]; rfl) ?_
        rw [if_pos (by simp only [List.length_cons, List.length_nil]; omega), if_pos (by simp only [List.length_nil]; omega), if_pos (by simp only [List.length_append, List.length_cons, List.length_nil]; omega)]
        rw [show ([] ++ L.take i ++ ([n] ++ L.drop i)) = L.take i ++ hwith (L.drop i) n by rw [hd]; unfold hwith; rw [if_neg hc, if_neg he]; simp]
        exact Ev.now _
theorem ev_with (L : List Int) (n : Int) (hL : L.length ≤ 10000) : Ev (fun k => abugidaref15_With.f k L n) (hwith L n) := by
  have := ev_with_l0 L n hL L.length 0 (Nat.zero_add _)
  simp only [List.take_zero, List.drop_zero, List.nil_append] at this
  exact this

theorem ev_rnorm_l0 (L : List Int) (hL : L.length ≤ 1000) (d : Nat) : ∀ (i : Nat) (out : List Int), i + d = L.length → out.length ≤ i → Ev (fun k => abugidaref15_Norm.l0 k L out i) ((L.drop i).foldl hwith out) := by
  induction d with
  | zero =>
    intro i out hi ho
    refine Ev.step (fun k => by simp only [abugidaref15_Norm.l0, if_neg (show ¬ (i : Int) < (L.length : Int) by omega)]; rfl) ?_
    rw [List.drop_eq_nil_of_le (by omega)]
    exact Ev.now _
  | succ d ih =>
    intro i out hi ho
    rw [drop_at (show i < L.length by omega), List.foldl_cons]
    have hh := len_hwith (rd L (i : Int)) out
    refine Ev.step (fun k => by simp only [abugidaref15_Norm.l0, if_pos (show (i : Int) < (L.length : Int) by omega), if_pos (show (0 : Int) ≤ i by omega), w64n i (by omega)]; rfl) ?_
    exact Ev.bind (ev_with out _ (by omega)) (ih (i + 1) _ (by omega) (by omega))
theorem ev_rnorm (L : List Int) (hL : L.length ≤ 1000) : Ev (fun k => abugidaref15_Norm.f k L) (hset L) := ev_rnorm_l0 L hL L.length 0 [] (Nat.zero_add _) (Nat.le_refl _)

theorem ev_rjoin_l0 (L : List Int) (hL : L.length ≤ 1000) (d : Nat) : ∀ (i : Nat) (out : List Int), i + d = L.length → out.length ≤ 1000 + i → Ev (fun k => abugidaref15_Join.l0 k L out i) ((L.drop i).foldl hwith out) := by
  induction d with
  | zero =>
    intro i out hi ho
    refine Ev.step (fun k => by simp only [abugidaref15_Join.l0, if_neg (show ¬ (i : Int) < (L.length : Int) by omega)]; rfl) ?_
    rw [List.drop_eq_nil_of_le (by omega)]
    exact Ev.now _
  | succ d ih =>
    intro i out hi ho
    rw [drop_at (show i < L.length by omega), List.foldl_cons]
    have hh := len_hwith (rd L (i : Int)) out
    refine Ev.step (fun k => by simp only [abugidaref15_Join.l0, if_pos (show (i : Int) < (L.length : Int) by omega), if_pos (show (0 : Int) ≤ i by omega), w64n i (by omega)]; rfl) ?_
    exact Ev.bind (ev_with out _ (by omega)) (ih (i + 1) _ (by omega) (by omega))
theorem ev_rjoin (L M : List Int) (hL : L.length ≤ 1000) (hM : M.length ≤ 1000) : Ev (fun k => abugidaref15_Join.f k L M) (hset (L ++ M)) := by
  unfold abugidaref15_Join.f
  refine Ev.bind (ev_rnorm L hL) ?_
  rw [show hset (L ++ M) = (M.drop 0).foldl hwith (hset L) by simp [hset, List.foldl_append]]
  exact ev_rjoin_l0 M hM M.length 0 _ (Nat.zero_add _) (by have := len_hset L; omega)

theorem ev_rhas_l0 (L : List Int) (n : Int) (hL : L.length ≤ 10000) (d : Nat) : ∀ i : Nat, i + d = L.length → Ev (fun k => abugidaref15_Has.l0 k L n i) (decide (n ∈ L.drop i)) := by
  induction d with
  | zero =>
    intro i hi
    refine Ev.step (fun k => by simp only [abugidaref15_Has.l0, if_neg (show ¬ (i : Int) < (L.length : Int) by omega)]; rfl) ?_
    rw [List.drop_eq_nil_of_le (by omega)]
    exact Ev.now _
  | succ d ih =>
    intro i hi
    rw [drop_at (show i < L.length by omega)]
    by_cases hc : rd L (i : Int) = n
    · refine Ev.step (fun k => by simp only [abugidaref15_Has.l0, if_pos (show (i : Int) < (L.length : Int) by omega), if_pos (show (0 : Int) ≤ i by omega), if_pos hc]; rfl) ?_
      rw [decide_eq_true (show n ∈ rd L (i : Int) :: L.drop (i + 1) by rw [hc]; exact .head _)]
      exact Ev.now _
    · refine Ev.step (fun k => by simp only [abugidaref15_Has.l0, if_pos (show (i : Int) < (L.length : Int) by omega), if_pos (show (0 : Int) ≤ i by omega), if_neg hc, w64n i (by omega)]; rfl) ?_
      rw [show decide (n ∈ rd L (i : Int) :: L.drop (i + 1)) = decide (n ∈ L.drop (i + 1)) from decide_eq_decide.mpr (by rw [List.mem_cons]; simp [Ne.symm hc])]
      exact ih (i + 1) (by omega)
theorem ev_rhas (L : List Int) (n : Int) (hL : L.length ≤ 10000) : Ev (fun k => abugidaref15_Has.f k L n) (decide (n ∈ L)) := by
  have := ev_rhas_l0 L n hL L.length 0 (Nat.zero_add _)
  simp only [List.drop_zero] at this
  exact this

theorem ev_rmeet_l0 (L M : List Int) (hL : L.length ≤ 1000) (hM : M.length ≤ 1000) (d : Nat) : ∀ (i : Nat) (out : List Int), i + d = L.length → out.length ≤ i → Ev (fun k => abugidaref15_Meet.l0 k L M out i) (((L.drop i).filter fun x => decide (x ∈ M)).foldl hwith out) := by
  induction d with
  | zero =>
    intro i out hi ho
    refine Ev.step (fun k => by simp only [abugidaref15_Meet.l0, if_neg (show ¬ (i : Int) < (L.length : Int) by omega)]; rfl) ?_
    rw [List.drop_eq_nil_of_le (by omega)]
    exact Ev.now _
  | succ d ih =>
    intro i out hi ho
    rw [drop_at (show i < L.length by omega), List.filter_cons]
    have hh := len_hwith (rd L (i : Int)) out
    refine Ev.step (fun k => by simp only [abugidaref15_Meet.l0, if_pos (show (i : Int) < (L.length : Int) by omega), if_pos (show (0 : Int) ≤ i by omega), w64n i (by omega)]; rfl) ?_
    refine Ev.bind (ev_rhas M _ (by omega)) ?_
    by_cases hc : rd L (i : Int) ∈ M
    · simp only [decide_eq_true hc, if_true, List.foldl_cons]
      exact Ev.bind (ev_with out _ (by omega)) (ih (i + 1) _ (by omega) (by omega))
    · simp only [decide_eq_false hc, if_false, Bool.false_eq_true]
      exact ih (i + 1) _ (by omega) (by omega)
theorem ev_rmeet (L M : List Int) (hL : L.length ≤ 1000) (hM : M.length ≤ 1000) : Ev (fun k => abugidaref15_Meet.f k L M) (hset (L.filter fun x => decide (x ∈ M))) := ev_rmeet_l0 L M hL hM L.length 0 [] (Nat.zero_add _) (Nat.le_refl _)

theorem ev_rless_l0 (L M : List Int) (hL : L.length ≤ 1000) (hM : M.length ≤ 1000) (d : Nat) : ∀ (i : Nat) (out : List Int), i + d = L.length → out.length ≤ i → Ev (fun k => abugidaref15_Less.l0 k L M out i) (((L.drop i).filter fun x => decide (x ∉ M)).foldl hwith out) := by
  induction d with
  | zero =>
    intro i out hi ho
    refine Ev.step (fun k => by simp only [abugidaref15_Less.l0, if_neg (show ¬ (i : Int) < (L.length : Int) by omega)]; rfl) ?_
    rw [List.drop_eq_nil_of_le (by omega)]
    exact Ev.now _
  | succ d ih =>
    intro i out hi ho
    rw [drop_at (show i < L.length by omega), List.filter_cons]
    have hh := len_hwith (rd L (i : Int)) out
    refine Ev.step (fun k => by simp only [abugidaref15_Less.l0, if_pos (show (i : Int) < (L.length : Int) by omega), if_pos (show (0 : Int) ≤ i by omega), w64n i (by omega)]; rfl) ?_
    refine Ev.bind (ev_rhas M _ (by omega)) ?_
    by_cases hc : rd L (i : Int) ∈ M
    · simp only [decide_eq_true hc, if_true, decide_eq_false (show ¬ rd L (i : Int) ∉ M by simpa using hc), if_false, Bool.false_eq_true]
      exact ih (i + 1) _ (by omega) (by omega)
    · simp only [decide_eq_false hc, if_false, Bool.false_eq_true, decide_eq_true (show rd L (i : Int) ∉ M from hc), if_true, List.foldl_cons]
      exact Ev.bind (ev_with out _ (by omega)) (ih (i + 1) _ (by omega) (by omega))
theorem ev_rless (L M : List Int) (hL : L.length ≤ 1000) (hM : M.length ≤ 1000) : Ev (fun k => abugidaref15_Less.f k L M) (hset (L.filter fun x => decide (x ∉ M))) := ev_rless_l0 L M hL hM L.length 0 [] (Nat.zero_add _) (Nat.le_refl _)

/-- The program's Right and the reference's are one. -/
theorem rright_l0 : ∀ k L i, abugidaref15_Right.l0 k L i = sets_Right.l0 k L i
  | 0, _, _ => rfl
  | k + 1, L, i => by
    unfold abugidaref15_Right.l0 sets_Right.l0
    simp only [rright_l0 k]
theorem ex_right_l0 (L : List Int) (hL : L.length ≤ 10000) (d : Nat) : ∀ i : Nat, 1 ≤ i → L.length ≤ i + d → ∃ b, Ev (fun k => sets_Right.l0 k L i) b := by
  induction d with
  | zero =>
    intro i _ hi
    refine ⟨true, Ev.step (fun k => by simp only [sets_Right.l0, if_neg (show ¬ (i : Int) < (L.length : Int) by omega)]; rfl) ?_⟩
    exact Ev.now _
  | succ d ih =>
    intro i h1 hi
    by_cases hlt : i < L.length
    · have hw : wrap64 ((i : Int) - 1) = ((i - 1 : Nat) : Int) := by unfold wrap64; omega
      by_cases hc : rd L ((i - 1 : Nat) : Int) ≥ rd L (i : Int)
      · refine ⟨false, Ev.step (fun k => by simp only [sets_Right.l0, if_pos (show (i : Int) < (L.length : Int) by omega), if_pos (show (0 : Int) ≤ i by omega), hw, if_pos (show (0 : Int) ≤ ((i - 1 : Nat) : Int) by omega), if_pos (show ((i - 1 : Nat) : Int) < (L.length : Int) by omega), if_pos hc]; rfl) ?_⟩
        exact Ev.now _
      · obtain ⟨b, hb⟩ := ih (i + 1) (by omega) (by omega)
        refine ⟨b, Ev.step (fun k => by simp only [sets_Right.l0, if_pos (show (i : Int) < (L.length : Int) by omega), if_pos (show (0 : Int) ≤ i by omega), hw, if_pos (show (0 : Int) ≤ ((i - 1 : Nat) : Int) by omega), if_pos (show ((i - 1 : Nat) : Int) < (L.length : Int) by omega), if_neg hc, w64n i (by omega)]; rfl) ?_⟩
        exact hb
    · refine ⟨true, Ev.step (fun k => by simp only [sets_Right.l0, if_neg (show ¬ (i : Int) < (L.length : Int) by omega)]; rfl) ?_⟩
      exact Ev.now _
theorem ex_right (L : List Int) (hL : L.length ≤ 10000) : ∃ b, Ev (fun k => sets_Right.f k L) b ∧ Ev (fun k => abugidaref15_Right.f k L) b := by
  obtain ⟨b, hb⟩ := ex_right_l0 L hL L.length 1 (Nat.le_refl _) (by omega)
  refine ⟨b, hb, ?_⟩
  unfold abugidaref15_Right.f
  simp only [rright_l0]
  exact hb

end Go.Proofs.Ytfjiamhgennmbaa.Plain
