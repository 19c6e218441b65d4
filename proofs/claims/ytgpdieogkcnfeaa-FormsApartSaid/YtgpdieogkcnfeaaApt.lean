/- The forms of two texts with a character between them that neither extends nor joins. -/
import Derived.Test.YtgpdieogkcnfeaaOwn
import Derived.Test.YtgpdieogkcnfeaaTwo
namespace Go.Proofs.Ytgpdieogkcnfeaa.Plain
open Go.RowKit Go.Proofs.Ytgpdieogkcnfeaa.Q Go.Proofs.YtgpdieogkcnfeaaW.PrintWords Go.Proofs.YtgpdieogkcnfeaaW.PrintLast

/-- What the head of a span is depends on the bytes of the span alone. -/
theorem hbase_cong (s t : ByteArray) (n a b : Nat) : ∀ d i : Nat, i + d = b → (∀ j, i ≤ j → j < b → bt t ((n + j : Nat) : Int) = bt s (j : Int)) → hbase t (n + a) d (n + i) = n + hbase s a d i
  | 0, i, _, _ => rfl
  | d + 1, i, h, hj => by
    have h0 := hj i (Nat.le_refl _) (by omega)
    have ih := hbase_cong s t n a b d (i + 1) (by omega) (fun j h1 h2 => hj j (by omega) h2)
    unfold hbase
    rw [h0]
    cases hext (bt s (i : Int)) with
    | true => rw [if_pos rfl, if_pos rfl]; exact ih
    | false => rw [if_neg (by decide), if_neg (by decide)]

theorem hd_cong (s t : ByteArray) (n a b : Nat) (hab : a < b) (hj : ∀ j, a ≤ j → j < b → bt t ((n + j : Nat) : Int) = bt s (j : Int)) (sp sp' : S29) (e : sp = ⟨a, b⟩) (e' : sp' = ⟨((n + a : Nat) : Int), ((n + b : Nat) : Int)⟩) : hd t sp' = hd s sp := by
  subst e e'
  unfold hd
  simp only [Int.toNat_natCast]
  have hb := hbase_in s a b hab (b - a) a (Nat.le_refl _) (by omega)
  rw [show n + b - (n + a) = b - a by omega, hbase_cong s t n a b (b - a) a (by omega) hj, hj _ hb.1 hb.2]

/-- The spans of two lists say the same of the clusters i and i'. -/
structure Same (s t : ByteArray) (l l' : List S29) (i i' : Int) : Prop where
  a : la t l' i' = la s l i
  b : lb t l' i' = lb s l i
  e : la s l i = true → bt t ((rd_T29 l' i').f1 - 1) = bt s ((rd_T29 l i).f1 - 1)

theorem same_none {s t : ByteArray} {l l' : List S29} {i i' : Int} (h : lb s l i = false) (h' : lb t l' i' = false) : Same s t l l' i i' := by
  have ha : ∀ (s : ByteArray) (l : List S29) (i : Int), lb s l i = false → la s l i = false := by
    intro s l i h
    cases g : la s l i with
    | false => rfl
    | true =>
      unfold la at g
      unfold lb at h
      rw [Bool.and_eq_true] at g
      rw [g.1, g.2] at h
      cases h
  exact ⟨by rw [ha _ _ _ h, ha _ _ _ h'], by rw [h, h'], fun g => by rw [ha _ _ _ h] at g; cases g⟩

theorem lb_out {s : ByteArray} {l : List S29} {i : Int} (h : i < 0 ∨ (l.length : Int) ≤ i) : lb s l i = false := by
  unfold lb
  rcases h with h | h
  · rw [decide_eq_false (show ¬ 0 ≤ i by omega)]; rfl
  · rw [decide_eq_false (show ¬ i < (l.length : Int) by omega), Bool.and_false]; rfl

theorem same_at {s t : ByteArray} {l l' : List S29} {n a b : Nat} {i i' : Int} (h0 : 0 ≤ i) (h1 : i < (l.length : Int)) (h0' : 0 ≤ i') (h1' : i' < (l'.length : Int)) (hab : a < b)
    (hj : ∀ j, a ≤ j → j < b → bt t ((n + j : Nat) : Int) = bt s (j : Int)) (e : rd_T29 l i = ⟨a, b⟩) (e' : rd_T29 l' i' = ⟨((n + a : Nat) : Int), ((n + b : Nat) : Int)⟩) : Same s t l l' i i' := by
  have h := hd_cong s t n a b hab hj _ _ e e'
  have k := hj (b - 1) (by omega) (by omega)
  have k1 : ((n + b : Nat) : Int) - 1 = ((n + (b - 1) : Nat) : Int) := by omega
  have k2 : (b : Int) - 1 = ((b - 1 : Nat) : Int) := by omega
  refine ⟨?_, ?_, fun _ => ?_⟩
  · unfold la; rw [h, decide_eq_true h0, decide_eq_true h1, decide_eq_true h0', decide_eq_true h1']
  · unfold lb; rw [h, decide_eq_true h0, decide_eq_true h1, decide_eq_true h0', decide_eq_true h1']
  · rw [e, e']; show bt t (((n + b : Nat) : Int) - 1) = bt s ((b : Int) - 1); rw [k1, k2, k]

theorem hon_same {s t : ByteArray} {l l' : List S29} {i i' : Int} (h : Same s t l l' i i') (h2 : Same s t l l' (i + 1) (i' + 1)) : hon t l' i' = hon s l i := by
  unfold hon
  rw [h.a, h2.b]
  cases g : la s l i with
  | false => rfl
  | true => rw [h.e g]

theorem hform_same {s t : ByteArray} {l l' : List S29} {i i' : Int} (h0 : Same s t l l' (i - 1) (i' - 1)) (h : Same s t l l' i i') (h2 : Same s t l l' (i + 1) (i' + 1)) : hform t l' i' = hform s l i := by
  unfold hform
  rw [h.b, hon_same h h2, hon_same (i := i - 1) (i' := i' - 1) h0 (by rw [Int.sub_add_cancel, Int.sub_add_cancel]; exact h)]

theorem hforms_same {s t : ByteArray} {l l' : List S29} : ∀ (d i i' : Nat), (∀ j : Nat, j < d → hform t l' ((i' + j : Nat) : Int) = hform s l ((i + j : Nat) : Int)) → hforms t l' d i' = hforms s l d i
  | 0, _, _, _ => rfl
  | d + 1, i, i', h => by
    unfold hforms
    have h0 := h 0 (by omega)
    rw [Nat.add_zero, Nat.add_zero] at h0
    rw [h0, hforms_same d (i + 1) (i' + 1) (fun j hj => by
      have := h (j + 1) (by omega)
      rwa [show i' + (j + 1) = i' + 1 + j by omega, show i + (j + 1) = i + 1 + j by omega] at this)]

theorem hforms_add {s : ByteArray} {l : List S29} : ∀ (d e i : Nat), hforms s l (d + e) i = hforms s l d i ++ hforms s l e (i + d)
  | 0, e, i => by rw [Nat.zero_add]; rfl
  | d + 1, e, i => by
    rw [show d + 1 + e = (d + e) + 1 by omega]
    unfold hforms
    rw [hforms_add d e (i + 1), show i + 1 + d = i + (d + 1) by omega]
    cases e <;> rfl

theorem rd_left (A B : List S29) (i : Int) (h0 : 0 ≤ i) (h1 : i < (A.length : Int)) : rd_T29 (A ++ B) i = rd_T29 A i := by
  unfold rd_T29
  rw [List.getD_eq_getElem?_getD, List.getD_eq_getElem?_getD, List.getElem?_append_left (by omega)]
theorem rd_right (A B : List S29) (i : Nat) : rd_T29 (A ++ B) ((A.length + i : Nat) : Int) = rd_T29 B (i : Int) := by
  unfold rd_T29
  rw [List.getD_eq_getElem?_getD, List.getD_eq_getElem?_getD, Int.toNat_natCast, Int.toNat_natCast, List.getElem?_append_right (by omega), Nat.add_sub_cancel_left]
theorem rd_shift (B : List S29) (n : Nat) (i : Nat) (h : i < B.length) : rd_T29 (B.map (shift n)) (i : Int) = shift n (rd_T29 B (i : Int)) := by
  unfold rd_T29
  rw [List.getD_eq_getElem?_getD, List.getD_eq_getElem?_getD, Int.toNat_natCast, List.getElem?_map, List.getElem?_eq_getElem h]
  rfl

theorem spans_one (x : UInt8) : spans ⟨#[x]⟩ = [⟨0, 1⟩] := by
  unfold spans
  show hspans 1 (hstarts _ 1 0 0) = _
  unfold hstarts
  rw [hbegin_zero, if_pos rfl]
  rfl

/-- The forms of a text, a character, and another text. -/
theorem forms_between (s t : ByteArray) (x : UInt8) (hx : hext (x.toNat : Int) = false) (h9 : hcls (x.toNat : Int) ≠ 9) (h10 : hcls (x.toNat : Int) ≠ 10) (h7 : hcls (x.toNat : Int) ≠ 7) (h8 : hcls (x.toNat : Int) ≠ 8)
    (ht : 0 < t.size → hext (bt t 0) = false) : tforms (s ++ ⟨#[x]⟩ ++ t) = tforms s ++ 0 :: tforms t := by
  obtain ⟨c, hc⟩ : ∃ c : ByteArray, c = ⟨#[x]⟩ := ⟨_, rfl⟩
  have hcs : c.size = 1 := by rw [hc]; rfl
  have hcb : bt c 0 = (x.toNat : Int) := by rw [hc]; rfl
  have hsc : spans c = [⟨0, 1⟩] := by rw [hc]; exact spans_one x
  rw [← hc]
  clear hc
  have hu : spans (s ++ c ++ t) = (spans s ++ [⟨(s.size : Int), ((s.size + 1 : Nat) : Int)⟩]) ++ (spans t).map (shift (s.size + 1)) := by
    have e1 : spans (s ++ c) = spans s ++ [⟨(s.size : Int), ((s.size + 1 : Nat) : Int)⟩] := by
      rw [spans_append s c (fun a _ => ?_), hsc]
      · show _ ++ [shift s.size ⟨0, 1⟩] = _
        unfold shift
        rw [show (⟨0, 1⟩ : S29).f0 + (s.size : Int) = (s.size : Int) from Int.zero_add _, show (⟨0, 1⟩ : S29).f1 + (s.size : Int) = ((s.size + 1 : Nat) : Int) by show (1 : Int) + (s.size : Int) = _; omega]
      · have e0 : bt (s ++ c) (s.size : Int) = bt c 0 := bt_right s c 0 (by omega)
        have e9 : (hcls (x.toNat : Int) == 9) = false := beq_eq_false_iff_ne.mpr h9
        unfold hbegin
        rw [e0, hcb, hx, e9]
        simp
    have e2 := spans_append (s ++ c) t (fun a h => by
      have e0 : bt (s ++ c ++ t) ((s ++ c).size : Int) = bt t 0 := bt_right (s ++ c) t 0 h
      have e3 : bt (s ++ c ++ t) (((s ++ c).size : Int) - 1) = (x.toNat : Int) := by
        rw [bt_left (s ++ c) t _ (by rw [ByteArray.size_append]; omega) (by rw [ByteArray.size_append]; omega), ← hcb]
        have h0 := bt_right s c 0 (by omega)
        rw [show ((s.size + 0 : Nat) : Int) = ((s ++ c).size : Int) - 1 by rw [ByteArray.size_append, hcs]; omega] at h0
        exact h0
      have e9 : (hcls (x.toNat : Int) == 10) = false := beq_eq_false_iff_ne.mpr h10
      unfold hbegin
      rw [e0, e3, ht h, e9]
      simp)
    rw [e2, e1, ByteArray.size_append, hcs]
  obtain ⟨u, hu'⟩ : ∃ u, u = s ++ c ++ t := ⟨_, rfl⟩
  have us : u.size = s.size + 1 + t.size := by rw [hu', ByteArray.size_append, ByteArray.size_append, hcs]
  have bl : ∀ j : Nat, j < s.size → bt u ((0 + j : Nat) : Int) = bt s (j : Int) := by
    intro j hj
    rw [Nat.zero_add, hu', bt_left (s ++ c) t _ (by omega) (by rw [ByteArray.size_append]; omega), bt_left s c _ (by omega) (by omega)]
  have bm : bt u (s.size : Int) = (x.toNat : Int) := by
    rw [hu', bt_left (s ++ c) t _ (by omega) (by rw [ByteArray.size_append]; omega), ← hcb]
    exact bt_right s c 0 (by omega)
  have br : ∀ j : Nat, j < t.size → bt u ((s.size + 1 + j : Nat) : Int) = bt t (j : Int) := by
    intro j hj
    rw [hu', ← bt_right (s ++ c) t j hj, ByteArray.size_append, hcs]
  rw [← hu'] at hu ⊢
  clear hu'
  have hvs := cov_val s _ 0 (cov_spans s)
  have hvt := cov_val t _ 0 (cov_spans t)
  obtain ⟨n, hn⟩ : ∃ n, n = (spans s).length := ⟨_, rfl⟩
  obtain ⟨m, hm⟩ : ∃ m, m = (spans t).length := ⟨_, rfl⟩
  have hul : (spans u).length = n + 1 + m := by rw [hu, List.length_append, List.length_append, List.length_map, List.length_singleton, hn, hm]
  have rm : rd_T29 (spans u) (n : Int) = ⟨(s.size : Int), ((s.size + 1 : Nat) : Int)⟩ := by
    rw [hu, rd_left _ _ _ (by omega) (by rw [List.length_append, List.length_singleton]; omega)]
    have := rd_right (spans s) [⟨(s.size : Int), ((s.size + 1 : Nat) : Int)⟩] 0
    rw [Nat.add_zero, ← hn] at this
    exact this
  have lm : lb u (spans u) (n : Int) = false := by
    unfold lb hd
    rw [rm]
    have hh : hbase u s.size (s.size + 1 - s.size) s.size = s.size := by
      rw [Nat.add_sub_cancel_left]
      unfold hbase
      rw [bm, hx, if_neg (by decide)]
    simp only [Int.toNat_natCast]
    rw [hh, bm, beq_eq_false_iff_ne.mpr h7, beq_eq_false_iff_ne.mpr h8, Bool.or_false, Bool.and_false]
  have L : ∀ i : Int, i ≤ n → Same s u (spans s) (spans u) i i := by
    intro i hi
    by_cases h0 : i < 0
    · exact same_none (lb_out (.inl h0)) (lb_out (.inl h0))
    · by_cases h1 : i = n
      · subst h1; exact same_none (lb_out (.inr (by omega))) lm
      · obtain ⟨j, rfl⟩ : ∃ j : Nat, i = (j : Int) := ⟨i.toNat, by omega⟩
        obtain ⟨a, b, e, h2, h3⟩ := hvs j (by omega)
        refine same_at (n := 0) (a := a) (b := b) (by omega) (by omega) (by omega) (by omega) h2 (fun k g1 g2 => bl k (by omega)) e ?_
        rw [hu, List.append_assoc, rd_left _ _ _ (by omega) (by omega), e, Nat.zero_add, Nat.zero_add]
  have R : ∀ j : Int, -1 ≤ j → Same t u (spans t) (spans u) j ((n : Int) + 1 + j) := by
    intro i hi
    by_cases h0 : i = -1
    · subst h0
      refine same_none (lb_out (.inl (by omega))) ?_
      rw [show (n : Int) + 1 + -1 = n by omega]
      exact lm
    · by_cases h1 : (m : Int) ≤ i
      · exact same_none (lb_out (.inr (by omega))) (lb_out (.inr (by omega)))
      · obtain ⟨j, rfl⟩ : ∃ j : Nat, i = (j : Int) := ⟨i.toNat, by omega⟩
        obtain ⟨a, b, e, h2, h3⟩ := hvt j (by omega)
        refine same_at (n := s.size + 1) (a := a) (b := b) (by omega) (by omega) (by omega) (by omega) h2 (fun k g1 g2 => br k (by omega)) e ?_
        have := rd_right (spans s ++ [⟨(s.size : Int), ((s.size + 1 : Nat) : Int)⟩]) ((spans t).map (shift (s.size + 1))) j
        rw [List.length_append, List.length_singleton, ← hn, ← hu, rd_shift _ _ _ (by omega), e] at this
        rw [show (n : Int) + 1 + (j : Int) = ((n + 1 + j : Nat) : Int) by omega, this]
        unfold shift
        show (⟨(a : Int) + ((s.size + 1 : Nat) : Int), (b : Int) + ((s.size + 1 : Nat) : Int)⟩ : S29) = _
        congr 1 <;> omega
  have Fm : hform u (spans u) (n : Int) = 0 := by
    unfold hform
    rw [lm, if_neg (by decide)]
  unfold tforms
  rw [hul, hforms_add, hforms_add, ← hn, ← hm, List.append_assoc]
  simp only [Nat.zero_add]
  congr 1
  · refine hforms_same n 0 0 (fun j hj => ?_)
    rw [Nat.zero_add]
    exact hform_same (L _ (by omega)) (L _ (by omega)) (L _ (by omega))
  · have e1 : hforms u (spans u) 1 n = [0] := by
      unfold hforms
      rw [Fm]
      rfl
    rw [e1, List.singleton_append]
    congr 1
    refine hforms_same m 0 (n + 1) (fun j hj => ?_)
    rw [Nat.zero_add]
    have r0 := R ((j : Int) - 1) (by omega)
    have r1 := R (j : Int) (by omega)
    have r2 := R ((j : Int) + 1) (by omega)
    have e0 : ((n + 1 + j : Nat) : Int) = (n : Int) + 1 + j := by omega
    rw [e0]
    exact hform_same (by rw [show (n : Int) + 1 + (j : Int) - 1 = (n : Int) + 1 + ((j : Int) - 1) by omega]; exact r0) r1 (by rw [show (n : Int) + 1 + (j : Int) + 1 = (n : Int) + 1 + ((j : Int) + 1) by omega]; exact r2)

end Go.Proofs.Ytgpdieogkcnfeaa.Plain
