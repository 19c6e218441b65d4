/- The clusters, in plain Lean: what the printed functions of the reference answer, and what holds of the places where clusters begin. -/
import Derived.Test.YthllgpjjjegenaaQx2
import Derived.Test.YthllgpjjjegenaaQx3
import Derived.Test.YthllgpjjjegenaaQx7
import Derived.Test.YthllgpjjjegenaaQx8
import Derived.Test.YthllgpjjjegenaaQx9
namespace Go.Proofs.Ythllgpjjjegenaa.Plain
open Go.RowKit Go.Proofs.Ythllgpjjjegenaa.Q Go.Proofs.YthllgpjjjegenaaW.PrintWords Go.Proofs.YthllgpjjjegenaaW.PrintLast

theorem w64 (x : Int) (h0 : -1000000000 ≤ x) (h1 : x ≤ 1000000000) : wrap64 x = x := by unfold wrap64; omega

theorem bt255 (s : ByteArray) (i : Int) : wrap64 (bt s i) = bt s i := by
  have := bt_range s i
  exact w64 _ (by omega) (by omega)

theorem chars_in : (List.range 256).all (fun c => (abugidaref05_Class.f 40 (c : Int) == some (hcls c)) && (abugidaref05_Extends.f 40 (c : Int) == some (hext c))) = true := by decide +kernel

theorem chars_at (s : ByteArray) (i : Int) : abugidaref05_Class.f 40 (bt s i) = some (hcls (bt s i)) ∧ abugidaref05_Extends.f 40 (bt s i) = some (hext (bt s i)) := by
  have hr := bt_range s i
  obtain ⟨c, hc⟩ : ∃ c : Nat, bt s i = (c : Int) := ⟨(bt s i).toNat, by omega⟩
  rw [hc]
  have := List.all_eq_true.mp chars_in c (List.mem_range.mpr (by omega))
  simp only [Bool.and_eq_true, beq_iff_eq] at this
  exact this

theorem ev_class (s : ByteArray) (i : Int) : Ev (fun k => chars_Class.f k (wrap64 (bt s i))) (hcls (bt s i)) := by
  rw [bt255]; exact Ev.of (chars_Class.mono _) (hcls_some _)
theorem ev_ext (s : ByteArray) (i : Int) : Ev (fun k => chars_Extends.f k (wrap64 (bt s i))) (hext (bt s i)) := by
  rw [bt255]; exact Ev.of (chars_Extends.mono _) (hext_some _)
theorem ev_rclass (s : ByteArray) (i : Int) : Ev (fun k => abugidaref05_Class.f k (wrap64 (bt s i))) (hcls (bt s i)) := by
  rw [bt255]; exact Ev.of (abugidaref05_Class.mono _) (chars_at s i).1
theorem ev_rext (s : ByteArray) (i : Int) : Ev (fun k => abugidaref05_Extends.f k (wrap64 (bt s i))) (hext (bt s i)) := by
  rw [bt255]; exact Ev.of (abugidaref05_Extends.mono _) (chars_at s i).2

theorem ev_cls (s : ByteArray) (i : Int) (h0 : 0 ≤ i) (h1 : i < (s.size : Int)) : Ev (fun k => abugidaref06_class.f k s i) (hcls (bt s i)) := by
  unfold abugidaref06_class.f
  simp only [if_pos h0, if_pos h1]
  exact Ev.bind (ev_rclass s i) (Ev.now _)

theorem ev_begins_j0 (s : ByteArray) (i : Nat) (b : Bool) (hi : i < s.size) (hs : s.size ≤ 1000) (h0 : b = false → 0 < i) : Ev (fun k => abugidaref06_begins.j0 k s i b) (b || !(hext (bt s i) || (hcls (bt s i) == 9 && hcls (bt s ((i : Int) - 1)) == 10))) := by
  cases b with
  | true => refine Ev.step (fun k => by simp only [abugidaref06_begins.j0, if_true]; rfl) ?_; exact Ev.now _
  | false =>
    have hp := h0 rfl
    refine Ev.step (fun k => by simp only [abugidaref06_begins.j0, Bool.false_eq_true, if_false, if_pos (show (0 : Int) ≤ i by omega), if_pos (show (i : Int) < (s.size : Int) by omega)]; rfl) ?_
    refine Ev.bind (ev_rext s i) ?_
    cases hext (bt s i) with
    | true => simp only [if_true]; exact Ev.now _
    | false =>
      simp only [Bool.false_eq_true, if_false]
      refine Ev.bind (ev_cls s i (by omega) (by omega)) ?_
      by_cases h9 : hcls (bt s i) = 9
      · simp only [if_pos h9]
        rw [w64 _ (by omega) (by omega)]
        have := Ev.bind (ev_cls s ((i : Int) - 1) (by omega) (by omega)) (f := fun _ t => some (!(t == 10))) (Ev.now _)
        simpa [h9] using this
      · simp only [if_neg h9]
        have e : (hcls (bt s i) == 9) = false := by simpa using h9
        rw [e]
        exact Ev.now _

theorem ev_begins (s : ByteArray) (i frm : Nat) (hi : i < s.size) (hf : frm ≤ i) (hs : s.size ≤ 1000) : Ev (fun k => abugidaref06_begins.f k s i (wrap64 ((i : Int) - frm))) (hbegin s i frm) := by
  unfold abugidaref06_begins.f hbegin
  rw [w64 _ (by omega) (by omega)]
  by_cases h0 : i = 0
  · have := ev_begins_j0 s i true hi hs (by simp)
    simpa [h0] using this
  · have e0 : (i == 0) = false := by simpa using h0
    simp only [if_neg (show ¬ (i : Int) = 0 by omega)]
    by_cases h6 : i = frm + 6
    · have := ev_begins_j0 s i true hi hs (by simp)
      simp only [if_pos (show (i : Int) - frm = 6 by omega)]
      simpa [h6] using this
    · have e6 : (i == frm + 6) = false := by simpa using h6
      simp only [if_neg (show ¬ (i : Int) - frm = 6 by omega)]
      rw [w64 _ (by omega) (by omega), e0, e6, Bool.false_or, Bool.false_or]
      exact Ev.bind (ev_cls s ((i : Int) - 1) (by omega) (by omega)) (ev_begins_j0 s i _ hi hs (fun _ => by omega))

/-- What the reference adds from place i on: a cluster has begun at frm. -/
theorem ev_split_l0 (s : ByteArray) (hs : s.size ≤ 1000) (d : Nat) : ∀ (i frm : Nat) (acc : List S33), i + d = s.size → 0 < i → frm ≤ i → acc.length ≤ i →
    Ev (fun k => abugidaref06_Split.l0 k s acc frm i) (acc ++ hspans s.size (frm :: hstarts s (s.size - i) i frm)) := by
  induction d with
  | zero =>
    intro i frm acc hi h0 hf ha
    have e : s.size - i = 0 := by omega
    refine Ev.step (fun k => by simp only [abugidaref06_Split.l0, if_neg (show ¬ (i : Int) < (s.size : Int) by omega), if_pos (show (s.size : Int) > 0 by omega), if_pos (show acc.length < 8796093022208 by omega)]; rfl) ?_
    rw [e]
    exact Ev.now _
  | succ d ih =>
    intro i frm acc hi h0 hf ha
    refine Ev.step (fun k => by simp only [abugidaref06_Split.l0, if_pos (show (i : Int) < (s.size : Int) by omega)]; rfl) ?_
    refine Ev.bind (ev_begins s i frm (by omega) hf hs) ?_
    rw [hstarts_step s i frm (by omega)]
    have hw : wrap64 ((i : Int) + 1) = ((i + 1 : Nat) : Int) := by rw [w64 _ (by omega) (by omega)]; omega
    simp only [hw]
    cases hb : hbegin s i frm with
    | true =>
      simp only [if_true, if_pos (show (i : Int) > 0 by omega), if_pos (show acc.length < 8796093022208 by omega)]
      have := ih (i + 1) i (acc ++ [⟨frm, i⟩]) (by omega) (by omega) (by omega) (by rw [List.length_append, List.length_singleton]; omega)
      rw [List.append_assoc] at this
      exact this
    | false =>
      simp only [Bool.false_eq_true, if_false]
      exact ih (i + 1) frm acc (by omega) (by omega) (by omega) (by omega)

theorem hbegin_zero (s : ByteArray) (frm : Nat) : hbegin s 0 frm = true := by simp [hbegin]

theorem ev_split (s : ByteArray) (hs : s.size ≤ 1000) : Ev (fun k => abugidaref06_Split.f k s) (hspans s.size (hstarts s s.size 0 0)) := by
  unfold abugidaref06_Split.f
  by_cases h0 : s.size = 0
  · refine Ev.step (fun k => by simp only [abugidaref06_Split.l0, if_neg (show ¬ (0 : Int) < (s.size : Int) by omega)]; rfl) ?_
    rw [h0]
    exact Ev.now _
  · refine Ev.step (fun k => by simp only [abugidaref06_Split.l0, if_pos (show (0 : Int) < (s.size : Int) by omega)]; rfl) ?_
    have hb := ev_begins s 0 0 (by omega) (Nat.le_refl _) hs
    refine Ev.bind hb ?_
    simp only [hbegin_zero, if_true, if_neg (show ¬ ((0 : Int) > 0) by omega)]
    have hw : wrap64 ((0 : Int) + 1) = ((1 : Nat) : Int) := by rw [w64 _ (by omega) (by omega)]; rfl
    simp only [hw]
    have := ev_split_l0 s hs (s.size - 1) 1 0 [] (by omega) (by omega) (by omega) (by simp)
    have e := hstarts_step s 0 0 (by omega)
    rw [hbegin_zero, if_pos rfl, Nat.sub_zero] at e
    rw [e]
    exact this

theorem split_f (s : ByteArray) (hs : s.size ≤ 1000) : cluster_Split.f s = some (hspans s.size (hstarts s s.size 0 0)) := by
  unfold cluster_Split.f
  rw [if_pos (by omega)]

/-- A list of spans held against itself. -/
theorem ev_ints_l0 (L : List Int) (hL : L.length ≤ 1000) (d : Nat) : ∀ i : Nat, i + d = L.length → Ev (fun k => abugidaref02_SameInts.l0 k L L i) true := by
  induction d with
  | zero =>
    intro i hi
    refine Ev.step (fun k => by simp only [abugidaref02_SameInts.l0, if_neg (show ¬ (i : Int) < (L.length : Int) by omega)]; rfl) ?_
    exact Ev.now _
  | succ d ih =>
    intro i hi
    have hw : wrap64 ((i : Int) + 1) = ((i + 1 : Nat) : Int) := by rw [w64 _ (by omega) (by omega)]; omega
    refine Ev.step (fun k => by simp only [abugidaref02_SameInts.l0, if_pos (show (i : Int) < (L.length : Int) by omega), if_pos (show (0 : Int) ≤ i by omega), if_true, hw]; rfl) ?_
    exact ih (i + 1) (by omega)

theorem ev_is (L : List Int) (hL : L.length ≤ 1000) : Ev (fun k => abugidalaw08_is.f k L L) true := by
  unfold abugidalaw08_is.f abugidaref02_SameInts.f
  simp only [if_true]
  exact Ev.bind (ev_ints_l0 L hL L.length 0 (Nat.zero_add _)) (Ev.now _)

end Go.Proofs.Ythllgpjjjegenaa.Plain
