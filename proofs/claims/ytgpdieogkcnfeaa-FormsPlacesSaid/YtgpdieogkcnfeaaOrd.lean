/- What Order and the reference's Order answer, in plain Lean: one list of places. -/
import Derived.Test.YtgpdieogkcnfeaaQx7
import Derived.Test.YtgpdieogkcnfeaaQx14
import Derived.Test.YtgpdieogkcnfeaaMade
namespace Go.Proofs.Ytgpdieogkcnfeaa.Plain
open Go.RowKit Go.Proofs.Ytgpdieogkcnfeaa.Q Go.Proofs.YtgpdieogkcnfeaaW.PrintWords Go.Proofs.YtgpdieogkcnfeaaW.PrintLast

/-- The places from i on, d of them, whose characters have one of some classes, or none of them. -/
def hplaces (s : ByteArray) (has : Bool) (cl : List Int) : Nat → Nat → List Int
  | 0, _ => []
  | d + 1, i => if (cl.any (fun c => hcls (bt s i) == c) == has) = true then (i : Int) :: hplaces s has cl d (i + 1) else hplaces s has cl d (i + 1)

theorem hplaces_length (s : ByteArray) (has : Bool) (cl : List Int) : ∀ d i, (hplaces s has cl d i).length ≤ d
  | 0, _ => Nat.le_refl _
  | d + 1, i => by
    have := hplaces_length s has cl d (i + 1)
    unfold hplaces
    split
    · rw [List.length_cons]; omega
    · omega

theorem ev_places_l1 (s : ByteArray) (has : Bool) (cl : List Int) (hcl : cl.length ≤ 10) (out : List Int) (i : Nat) (hi : i < s.size) (a b : Int) (r : List Int) : ∀ (suf pre : List Int) (fl : Bool), pre ++ suf = cl →
    Ev (fun k => forms_places.l1 k s has cl out i (fl || suf.any (fun c => hcls (bt s i) == c)) cl (cl.length : Int) (cl.length : Int) a b) r →
    Ev (fun k => forms_places.l1 k s has cl out i fl cl (cl.length : Int) (pre.length : Int) a b) r
  | [], pre, fl, h, he => by
    rw [List.append_nil] at h
    subst h
    simpa using he
  | c :: suf, pre, fl, h, he => by
    have hlen : pre.length < cl.length := by rw [← h, List.length_append, List.length_cons]; omega
    have hr : rd cl (pre.length : Int) = c := by
      unfold rd
      rw [← h]
      simp
    have hw : wrap64 ((pre.length : Int) + 1) = (((pre ++ [c]).length : Nat) : Int) := by rw [w64 _ (by omega) (by omega), List.length_append, List.length_singleton]; omega
    have c0 : (pre.length : Int) < (cl.length : Int) := by omega
    have c1 : (0 : Int) ≤ pre.length := by omega
    rw [List.any_cons, ← Bool.or_assoc] at he
    have ih := ev_places_l1 s has cl hcl out i hi a b r suf (pre ++ [c]) (fl || (hcls (bt s i) == c)) (by rw [List.append_assoc]; exact h) he
    cases fl with
    | true =>
      rw [Bool.true_or] at ih
      refine Ev.step (fun k => by simp only [forms_places.l1, if_pos c0, if_pos c1, if_true, hw]; rfl) ?_
      exact ih
    | false =>
      rw [Bool.false_or] at ih
      refine Ev.step (fun k => by simp only [forms_places.l1, if_pos c0, if_pos c1, Bool.false_eq_true, if_false, if_pos (show (0 : Int) ≤ i by omega), if_pos (show (i : Int) < (s.size : Int) by omega), hr, hw]; rfl) ?_
      exact Ev.bind (ev_class s i) ih

theorem ev_places_l0 (s : ByteArray) (hs : s.size ≤ 1000) (has : Bool) (cl : List Int) (hcl : cl.length ≤ 10) (a b : Nat) (hb : b ≤ s.size) : ∀ (d i : Nat) (out : List Int), i + d = b → out.length ≤ i →
    Ev (fun k => forms_places.l0 k s has cl out i a b) (out ++ hplaces s has cl d i)
  | 0, i, out, hi, ho => by
    simp only [hplaces, List.append_nil]
    refine Ev.step (fun k => by simp only [forms_places.l0, if_neg (show ¬ (i : Int) < (b : Int) by omega)]; rfl) ?_
    exact Ev.now _
  | d + 1, i, out, hi, ho => by
    have hw : wrap64 ((i : Int) + 1) = ((i + 1 : Nat) : Int) := by rw [w64 _ (by omega) (by omega)]; omega
    refine Ev.step (fun k => by simp only [forms_places.l0, if_pos (show (i : Int) < (b : Int) by omega)]; rfl) ?_
    refine ev_places_l1 s has cl hcl out i (by omega) a b _ cl [] false rfl ?_
    rw [Bool.false_or]
    unfold hplaces
    cases hc : (cl.any (fun c => hcls (bt s i) == c) == has) with
    | true =>
      have ih := ev_places_l0 s hs has cl hcl a b hb d (i + 1) (out ++ [(i : Int)]) (by omega) (by simp; omega)
      rw [List.append_assoc] at ih
      refine Ev.step (fun k => by simp only [forms_places.l1, if_neg (show ¬ (cl.length : Int) < (cl.length : Int) by omega), hc, if_true, if_pos (show out.length < 17592186044416 by omega), hw]; rfl) ?_
      exact ih
    | false =>
      have ih := ev_places_l0 s hs has cl hcl a b hb d (i + 1) out (by omega) (by omega)
      refine Ev.step (fun k => by simp only [forms_places.l1, if_neg (show ¬ (cl.length : Int) < (cl.length : Int) by omega), hc, Bool.false_eq_true, if_false, hw]; rfl) ?_
      exact ih

/-- The places of a piece's glyphs, in order. -/
def hord (s : ByteArray) (a b : Nat) : List Int := hplaces s true [12] (b - a) a ++ hplaces s false [12, 13, 14] (b - a) a

theorem ev_rorder_l0 (s : ByteArray) (hs : s.size ≤ 1000) (a b : Nat) (hb : b ≤ s.size) : ∀ (d i : Nat) (p q : List Int), i + d = b → p.length ≤ i → q.length ≤ i →
    Ev (fun k => abugidaref17_Order.l0 k s p q i a b) ((p ++ hplaces s true [12] d i) ++ (q ++ hplaces s false [12, 13, 14] d i))
  | 0, i, p, q, hi, hp, hq => by
    simp only [hplaces, List.append_nil]
    refine Ev.step (fun k => by simp only [abugidaref17_Order.l0, if_neg (show ¬ (i : Int) < (b : Int) by omega), if_pos (show p.length + q.length < 17592186044416 by omega)]; rfl) ?_
    exact Ev.now _
  | d + 1, i, p, q, hi, hp, hq => by
    have hw : wrap64 ((i : Int) + 1) = ((i + 1 : Nat) : Int) := by rw [w64 _ (by omega) (by omega)]; omega
    refine Ev.step (fun k => by simp only [abugidaref17_Order.l0, if_pos (show (i : Int) < (b : Int) by omega), if_pos (show (0 : Int) ≤ i by omega), if_pos (show (i : Int) < (s.size : Int) by omega), if_pos (show p.length < 17592186044416 by omega), if_pos (show q.length < 17592186044416 by omega), hw]; rfl) ?_
    refine Ev.bind (ev_rclass s i) ?_
    unfold hplaces
    by_cases h12 : hcls (bt s i) = 12
    · have ih := ev_rorder_l0 s hs a b hb d (i + 1) (p ++ [(i : Int)]) q (by omega) (by simp; omega) (by omega)
      rw [List.append_assoc p] at ih
      simp only [h12, if_true]
      exact ih
    · by_cases h13 : hcls (bt s i) = 13
      · have ih := ev_rorder_l0 s hs a b hb d (i + 1) p q (by omega) (by omega) (by omega)
        simp only [h13]
        exact ih
      · by_cases h14 : hcls (bt s i) = 14
        · have ih := ev_rorder_l0 s hs a b hb d (i + 1) p q (by omega) (by omega) (by omega)
          simp only [h14]
          exact ih
        · have ih := ev_rorder_l0 s hs a b hb d (i + 1) p (q ++ [(i : Int)]) (by omega) (by omega) (by simp; omega)
          rw [List.append_assoc q] at ih
          have e12 : (hcls (bt s i) == 12) = false := beq_eq_false_iff_ne.mpr h12
          have e13 : (hcls (bt s i) == 13) = false := beq_eq_false_iff_ne.mpr h13
          have e14 : (hcls (bt s i) == 14) = false := beq_eq_false_iff_ne.mpr h14
          simp only [if_neg h12, if_neg h13, if_neg h14, List.any_cons, List.any_nil, e12, e13, e14, Bool.or_false]
          exact ih

theorem ev_order_in (s : ByteArray) (hs : s.size ≤ 1000) (a b : Nat) (hab : a < b) (hb : b ≤ s.size) : Ev (fun k => forms_Order.f k s a b) (hord s a b) ∧ Ev (fun k => abugidaref17_Order.f k s a b) (hord s a b) := by
  have l1 := hplaces_length s true [12] (b - a) a
  have l2 := hplaces_length s false [12, 13, 14] (b - a) a
  unfold forms_Order.f abugidaref17_Order.f
  simp only [if_neg (show ¬ (a : Int) < 0 by omega), if_neg (show ¬ (a : Int) ≥ (b : Int) by omega), decide_eq_false (show ¬ (b : Int) > (s.size : Int) by omega)]
  constructor
  · refine Ev.step (fun k => by simp only [forms_Order.j0, Bool.false_eq_true, if_false]; rfl) ?_
    refine Ev.bind (ev_places_l0 s hs true [12] (by decide) a b hb (b - a) a [] (by omega) (by simp)) ?_
    refine Ev.bind (ev_places_l0 s hs false [12, 13, 14] (by decide) a b hb (b - a) a [] (by omega) (by simp)) ?_
    simp only [List.nil_append, if_pos (show (hplaces s true [12] (b - a) a).length + (hplaces s false [12, 13, 14] (b - a) a).length < 17592186044416 by omega)]
    exact Ev.now _
  · refine Ev.step (fun k => by simp only [abugidaref17_Order.j0, Bool.false_eq_true, if_false]; rfl) ?_
    exact ev_rorder_l0 s hs a b hb (b - a) a [] [] (by omega) (by simp) (by simp)

theorem ev_order_out (s : ByteArray) (x y : Int) (h : x < 0 ∨ x ≥ y ∨ y > (s.size : Int)) : Ev (fun k => forms_Order.f k s x y) ([] : List Int) ∧ Ev (fun k => abugidaref17_Order.f k s x y) ([] : List Int) := by
  have e1 : Ev (fun k => forms_Order.j0 k s true x y) ([] : List Int) := by
    refine Ev.step (fun k => by simp only [forms_Order.j0, if_true]; rfl) ?_
    exact Ev.now _
  have e2 : Ev (fun k => abugidaref17_Order.j0 k s true x y) ([] : List Int) := by
    refine Ev.step (fun k => by simp only [abugidaref17_Order.j0, if_true]; rfl) ?_
    exact Ev.now _
  unfold forms_Order.f abugidaref17_Order.f
  by_cases h0 : x < 0
  · simp only [if_pos h0]; exact ⟨e1, e2⟩
  · by_cases h1 : x ≥ y
    · simp only [if_neg h0, if_pos h1]; exact ⟨e1, e2⟩
    · simp only [if_neg h0, if_neg h1, decide_eq_true (show y > (s.size : Int) by omega)]; exact ⟨e1, e2⟩

/-- For any piece both answer alike, and not much. -/
theorem ev_order (s : ByteArray) (hs : s.size ≤ 400) (x y : Int) : ∃ L : List Int, L.length ≤ 1000 ∧ Ev (fun k => forms_Order.f k s x y) L ∧ Ev (fun k => abugidaref17_Order.f k s x y) L := by
  by_cases h : x < 0 ∨ x ≥ y ∨ y > (s.size : Int)
  · exact ⟨[], by simp, ev_order_out s x y h⟩
  · obtain ⟨a, rfl⟩ : ∃ a : Nat, x = (a : Int) := ⟨x.toNat, by omega⟩
    obtain ⟨b, rfl⟩ : ∃ b : Nat, y = (b : Int) := ⟨y.toNat, by omega⟩
    have l1 := hplaces_length s true [12] (b - a) a
    have l2 := hplaces_length s false [12, 13, 14] (b - a) a
    refine ⟨hord s a b, ?_, ev_order_in s (by omega) a b (by omega) (by omega)⟩
    unfold hord
    rw [List.length_append]
    omega

end Go.Proofs.Ytgpdieogkcnfeaa.Plain
