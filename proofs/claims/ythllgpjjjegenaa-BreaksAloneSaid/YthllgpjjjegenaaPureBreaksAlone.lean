/- BreaksAlone: text that stands before the end of a line, and text after it, may be broken as if each stood alone. For all numbers. -/
import Derived.Test.YthllgpjjjegenaaQx19
import Derived.Test.YthllgpjjjegenaaMays
import Derived.Test.YthllgpjjjegenaaTwo
namespace Go.Proofs.Ythllgpjjjegenaa.Pure
open Go.RowKit Go.Proofs.Ythllgpjjjegenaa.Q Go.Proofs.Ythllgpjjjegenaa.Plain Go.Proofs.YthllgpjjjegenaaW.PrintWords Go.Proofs.YthllgpjjjegenaaW.PrintLast

/-- What the head of a span is depends on the bytes of the span alone. -/
theorem hbase_cong (s t : ByteArray) (n a b : Nat) : ∀ d i : Nat, i + d = b → (∀ j, i ≤ j → j < b → bt t ((n + j : Nat) : Int) = bt s (j : Int)) → hbase t (n + a) d (n + i) = n + hbase s a d i
  | 0, i, _, _ => rfl
  | d + 1, i, h, hj => by
    have h0 := hj i (Nat.le_refl _) (by omega)
    have ih := hbase_cong s t n a b d (i + 1) (by omega) (fun j h1 h2 => hj j (by omega) h2)
    unfold hbase
    rw [h0]
    cases hext (bt s (i : Int)) with
    | true => rw [if_pos rfl, if_pos rfl]; exact ih
    | false => rw [if_neg (by decide), if_neg (by decide)]

/-- The spans of two lists say the same of the clusters i and i'. -/
def Same (s t : ByteArray) (l l' : List S33) (i i' : Int) : Prop := hch t l' i' = hch s l i ∧ hend t l' i' = hend s l i

theorem same_at {s t : ByteArray} {l l' : List S33} {n a b : Nat} {i i' : Int} (hab : a < b) (hj : ∀ j, a ≤ j → j < b → bt t ((n + j : Nat) : Int) = bt s (j : Int)) (e : rd_T33 l i = ⟨a, b⟩) (e' : rd_T33 l' i' = ⟨((n + a : Nat) : Int), ((n + b : Nat) : Int)⟩) : Same s t l l' i i' := by
  have hb := hbase_in s a b hab (b - a) a (Nat.le_refl _) (by omega)
  have k := hj (b - 1) (by omega) (by omega)
  have k1 : ((n + b : Nat) : Int) - 1 = ((n + (b - 1) : Nat) : Int) := by omega
  have k2 : (b : Int) - 1 = ((b - 1 : Nat) : Int) := by omega
  constructor
  · unfold hch hat
    rw [e, e']
    simp only [Int.toNat_natCast]
    rw [show n + b - (n + a) = b - a by omega, hbase_cong s t n a b (b - a) a (by omega) hj, hj _ hb.1 hb.2]
  · unfold hend
    rw [e, e']
    show bt t (((n + b : Nat) : Int) - 1) = bt s ((b : Int) - 1)
    rw [k1, k2, k]

theorem hmays_same {s t : ByteArray} {l l' : List S33} : ∀ (d i i' : Nat), (∀ j : Nat, j < d → hmay t l' ((i' + j : Nat) : Int) = hmay s l ((i + j : Nat) : Int)) → hmays t l' d i' = hmays s l d i
  | 0, _, _, _ => rfl
  | d + 1, i, i', h => by
    unfold hmays
    have h0 := h 0 (by omega)
    rw [Nat.add_zero, Nat.add_zero] at h0
    rw [h0, hmays_same d (i + 1) (i' + 1) (fun j hj => by
      have := h (j + 1) (by omega)
      rwa [show i' + (j + 1) = i' + 1 + j by omega, show i + (j + 1) = i + 1 + j by omega] at this)]

theorem hmays_add {s : ByteArray} {l : List S33} : ∀ (d e i : Nat), hmays s l (d + e) i = hmays s l d i ++ hmays s l e (i + d)
  | 0, e, i => by rw [Nat.zero_add]; rfl
  | d + 1, e, i => by
    rw [show d + 1 + e = (d + e) + 1 by omega]
    unfold hmays
    rw [hmays_add d e (i + 1), show i + 1 + d = i + (d + 1) by omega]
    cases e <;> rfl

theorem rd_left (A B : List S33) (i : Int) (h0 : 0 ≤ i) (h1 : i < (A.length : Int)) : rd_T33 (A ++ B) i = rd_T33 A i := by
  unfold rd_T33
  rw [List.getD_eq_getElem?_getD, List.getD_eq_getElem?_getD, List.getElem?_append_left (by omega)]
theorem rd_right (A B : List S33) (i : Nat) : rd_T33 (A ++ B) ((A.length + i : Nat) : Int) = rd_T33 B (i : Int) := by
  unfold rd_T33
  rw [List.getD_eq_getElem?_getD, List.getD_eq_getElem?_getD, Int.toNat_natCast, Int.toNat_natCast, List.getElem?_append_right (by omega), Nat.add_sub_cancel_left]
theorem rd_shift (B : List S33) (n : Nat) (i : Nat) (h : i < B.length) : rd_T33 (B.map (shift n)) (i : Int) = shift n (rd_T33 B (i : Int)) := by
  unfold rd_T33
  rw [List.getD_eq_getElem?_getD, List.getD_eq_getElem?_getD, Int.toNat_natCast, List.getElem?_map, List.getElem?_eq_getElem h]
  rfl

theorem spans_one (x : UInt8) : spans ⟨#[x]⟩ = [⟨0, 1⟩] := by
  unfold spans
  show hspans 1 (hstarts _ 1 0 0) = _
  unfold hstarts
  rw [hbegin_zero, if_pos rfl]
  rfl

theorem c10 : hext 10 = false ∧ hcls 10 = 1 := by decide +kernel

/-- What May says of a text, the end of a line, and another text. -/
theorem may_between (s t : ByteArray) : tmay (s ++ ⟨#[10]⟩ ++ t) = tmay s ++ 2 :: tmay t := by
  obtain ⟨c, hc⟩ : ∃ c : ByteArray, c = ⟨#[10]⟩ := ⟨_, rfl⟩
  have hcs : c.size = 1 := by rw [hc]; rfl
  have hcb : bt c 0 = 10 := by rw [hc]; rfl
  have hsc : spans c = [⟨0, 1⟩] := by rw [hc]; exact spans_one 10
  obtain ⟨x0, x1⟩ := c10
  rw [← hc]
  clear hc
  have hu : spans (s ++ c ++ t) = (spans s ++ [⟨(s.size : Int), ((s.size + 1 : Nat) : Int)⟩]) ++ (spans t).map (shift (s.size + 1)) := by
    have e1 : spans (s ++ c) = spans s ++ [⟨(s.size : Int), ((s.size + 1 : Nat) : Int)⟩] := by
      rw [spans_append s c (fun a _ => ?_), hsc]
      · show _ ++ [shift s.size ⟨0, 1⟩] = _
        unfold shift
        rw [show (⟨0, 1⟩ : S33).f0 + (s.size : Int) = (s.size : Int) from Int.zero_add _, show (⟨0, 1⟩ : S33).f1 + (s.size : Int) = ((s.size + 1 : Nat) : Int) by show (1 : Int) + (s.size : Int) = _; omega]
      · have e0 : bt (s ++ c) (s.size : Int) = bt c 0 := bt_right s c 0 (by omega)
        unfold hbegin
        rw [e0, hcb, x0, x1]
        simp
    have e2 := spans_append (s ++ c) t (fun a h => by
      have e3 : bt (s ++ c ++ t) (((s ++ c).size : Int) - 1) = 10 := by
        rw [bt_left (s ++ c) t _ (by rw [ByteArray.size_append]; omega) (by rw [ByteArray.size_append]; omega), ← hcb]
        have h0 := bt_right s c 0 (by omega)
        rw [show ((s.size + 0 : Nat) : Int) = ((s ++ c).size : Int) - 1 by rw [ByteArray.size_append, hcs]; omega] at h0
        exact h0
      unfold hbegin
      rw [e3, x1]
      simp)
    rw [e2, e1, ByteArray.size_append, hcs]
  obtain ⟨u, hu'⟩ : ∃ u, u = s ++ c ++ t := ⟨_, rfl⟩
  have us : u.size = s.size + 1 + t.size := by rw [hu', ByteArray.size_append, ByteArray.size_append, hcs]
  have bl : ∀ j : Nat, j < s.size → bt u ((0 + j : Nat) : Int) = bt s (j : Int) := by
    intro j hj
    rw [Nat.zero_add, hu', bt_left (s ++ c) t _ (by omega) (by rw [ByteArray.size_append]; omega), bt_left s c _ (by omega) (by omega)]
  have bm : bt u (s.size : Int) = 10 := by
    rw [hu', bt_left (s ++ c) t _ (by omega) (by rw [ByteArray.size_append]; omega), ← hcb]
    exact bt_right s c 0 (by omega)
  have br : ∀ j : Nat, j < t.size → bt u ((s.size + 1 + j : Nat) : Int) = bt t (j : Int) := by
    intro j hj
    rw [hu', ← bt_right (s ++ c) t j hj, ByteArray.size_append, hcs]
  rw [← hu'] at hu ⊢
  clear hu'
  have hvs := cov_val s _ 0 (cov_spans s)
  have hvt := cov_val t _ 0 (cov_spans t)
  obtain ⟨n, hn⟩ : ∃ n, n = (spans s).length := ⟨_, rfl⟩
  obtain ⟨m, hm⟩ : ∃ m, m = (spans t).length := ⟨_, rfl⟩
  have hul : (spans u).length = n + 1 + m := by rw [hu, List.length_append, List.length_append, List.length_map, List.length_singleton, hn, hm]
  have rm : rd_T33 (spans u) (n : Int) = ⟨(s.size : Int), ((s.size + 1 : Nat) : Int)⟩ := by
    rw [hu, rd_left _ _ _ (by omega) (by rw [List.length_append, List.length_singleton]; omega)]
    have := rd_right (spans s) [⟨(s.size : Int), ((s.size + 1 : Nat) : Int)⟩] 0
    rw [Nat.add_zero, ← hn] at this
    exact this
  have cm : hch u (spans u) (n : Int) = 10 := by
    unfold hch hat
    rw [rm]
    have hh : hbase u s.size (s.size + 1 - s.size) s.size = s.size := by
      rw [Nat.add_sub_cancel_left]
      unfold hbase
      rw [bm, x0, if_neg (by decide)]
    simp only [Int.toNat_natCast]
    rw [hh, bm]
  have L : ∀ j : Nat, j < n → Same s u (spans s) (spans u) j j := by
    intro j h1
    obtain ⟨a, b, e, h2, h3⟩ := hvs j (by omega)
    refine same_at (n := 0) (a := a) (b := b) h2 (fun k g1 g2 => bl k (by omega)) e ?_
    rw [hu, List.append_assoc, rd_left _ _ _ (by omega) (by omega), e, Nat.zero_add, Nat.zero_add]
  have R : ∀ j : Nat, j < m → Same t u (spans t) (spans u) j ((n + 1 + j : Nat) : Int) := by
    intro j h1
    obtain ⟨a, b, e, h2, h3⟩ := hvt j (by omega)
    refine same_at (n := s.size + 1) (a := a) (b := b) h2 (fun k g1 g2 => br k (by omega)) e ?_
    have := rd_right (spans s ++ [⟨(s.size : Int), ((s.size + 1 : Nat) : Int)⟩]) ((spans t).map (shift (s.size + 1))) j
    rw [List.length_append, List.length_singleton, ← hn, ← hu, rd_shift _ _ _ (by omega), e] at this
    rw [this]
    unfold shift
    show (⟨(a : Int) + ((s.size + 1 : Nat) : Int), (b : Int) + ((s.size + 1 : Nat) : Int)⟩ : S33) = _
    congr 1 <;> omega
  have Fm : hmay u (spans u) (n : Int) = 2 := by
    unfold hmay
    rw [cm, if_pos x1]
  unfold tmay
  rw [hul, hmays_add, hmays_add, ← hn, ← hm, List.append_assoc]
  simp only [Nat.zero_add]
  congr 1
  · refine hmays_same n 0 0 (fun j hj => ?_)
    rw [Nat.zero_add]
    obtain ⟨l0, l1⟩ := L j hj
    unfold hmay
    rw [l0, l1, hul, ← hn]
    by_cases h1 : hcls (hch s (spans s) (j : Int)) = 1
    · rw [if_pos h1, if_pos h1]
    rw [if_neg h1, if_neg h1, if_neg (show ¬ (j : Int) = ((n + 1 + m : Nat) : Int) - 1 by omega)]
    by_cases g : (j : Int) = (n : Int) - 1
    · have x3 : hcls (hch u (spans u) ((j : Int) + 1)) = 1 := by rw [show (j : Int) + 1 = (n : Int) by omega, cm]; exact x1
      rw [if_pos g, if_pos (Or.inl x3)]
    · rw [if_neg g, show (j : Int) + 1 = ((j + 1 : Nat) : Int) by omega, (L (j + 1) (by omega)).1]
  · have e1 : hmays u (spans u) 1 n = [2] := by
      unfold hmays
      rw [Fm]
      rfl
    rw [e1, List.singleton_append]
    congr 1
    refine hmays_same m 0 (n + 1) (fun j hj => ?_)
    rw [Nat.zero_add]
    obtain ⟨l0, l1⟩ := R j hj
    unfold hmay
    rw [l0, l1, hul, ← hm]
    by_cases h1 : hcls (hch t (spans t) (j : Int)) = 1
    · rw [if_pos h1, if_pos h1]
    rw [if_neg h1, if_neg h1]
    by_cases g : (j : Int) = (m : Int) - 1
    · rw [if_pos g, if_pos (show ((n + 1 + j : Nat) : Int) = ((n + 1 + m : Nat) : Int) - 1 by omega)]
    · rw [if_neg g, if_neg (show ¬ ((n + 1 + j : Nat) : Int) = ((n + 1 + m : Nat) : Int) - 1 by omega), show ((n + 1 + j : Nat) : Int) + 1 = ((n + 1 + (j + 1) : Nat) : Int) by omega, show (j : Int) + 1 = ((j + 1 : Nat) : Int) by omega, (R (j + 1) (by omega)).1]

theorem w_facts (n m : Nat) (hn : n ≤ 30) (hm : m ≤ 31) : wrap64 ((n : Int) + 1) = (n : Int) + 1 ∧ wrap64 ((n : Int) + 1 + (m : Int)) = (n : Int) + 1 + (m : Int) ∧ (0 : Int) ≤ (n : Int) ∧ (n : Int) ≤ (n : Int) + 1 + (m : Int) ∧ (n : Int) < (n : Int) + 1 + (m : Int) ∧ (0 : Int) ≤ (n : Int) + 1 ∧ (n : Int) + 1 ≤ (n : Int) + 1 + (m : Int) ∧ ((n : Int) + 1).toNat = n + 1 :=
  ⟨w64 _ (by omega) (by omega), w64 _ (by omega) (by omega), by omega, by omega, by omega, by omega, by omega, by omega⟩

theorem len_mid (A B : List Int) : ((A ++ 2 :: B).length : Int) = (A.length : Int) + 1 + (B.length : Int) := by rw [List.length_append, List.length_cons]; omega

theorem alone_lists (A B : List Int) (hAl : A.length ≤ 30) (hBl : B.length ≤ 31) : Ev (fun k => if ((A ++ 2 :: B).length : Int) = wrap64 (wrap64 ((A.length : Int) + 1) + (B.length : Int)) then (if 0 ≤ (A.length : Int) then (if (A.length : Int) < ((A ++ 2 :: B).length : Int) then (abugidalaw08_BreaksAlone.j0 k true A B (A ++ 2 :: B) ((rd (A ++ 2 :: B) (A.length : Int)) != 2)) else none) else none) else (abugidalaw08_BreaksAlone.j0 k true A B (A ++ 2 :: B) true)) true := by
  have hl := len_mid A B
  obtain ⟨e1, e2, q1, q2, q3, q4, q5, q6⟩ := w_facts A.length B.length hAl hBl
  have e3 : (A ++ 2 :: B).take A.length = A := by simp
  have e4 : (A ++ 2 :: B).drop (((A.length : Int) + 1).toNat) = B := by
    rw [q6]
    simp
  have e5 : ((rd (A ++ 2 :: B) (A.length : Int)) != 2) = false := by
    unfold rd
    simp
  simp only [hl, e1, e2, if_true, if_pos q1, if_pos q3, e5]
  refine Ev.step (fun k => by simp only [abugidalaw08_BreaksAlone.j0, Bool.false_eq_true, if_false, if_true, hl, Int.toNat_natCast, e1, e3, e4, if_pos q1, if_pos q2, if_pos q4, if_pos q5]; rfl) ?_
  refine Ev.bind (ev_is A (Nat.le_trans hAl (by decide))) ?_
  simp only [if_true]
  exact Ev.bind (ev_is B (Nat.le_trans hBl (by decide))) (Ev.now _)

theorem BreaksAlone : abugidalaw08_BreaksAlone.Pure := by
  intro l m _ _ hwl _ _ hwm
  obtain ⟨s, hs, h30⟩ := ev_text l hwl 30 (by omega)
  obtain ⟨t, ht, h30'⟩ := ev_text m hwm 30 (by omega)
  have hfs := spans_length s
  have hft := spans_length t
  have z1 : s.size + 1 ≤ 9223372036854775807 := by omega
  have z3 : (s ++ (⟨#[10]⟩ : ByteArray)).size = s.size + 1 := by rw [ByteArray.size_append]; rfl
  have z2 : (s ++ (⟨#[10]⟩ : ByteArray)).size + t.size ≤ 9223372036854775807 := by omega
  have evu := ev_may (s ++ ⟨#[10]⟩ ++ t) (by rw [ByteArray.size_append, z3]; omega)
  rw [may_between] at evu
  refine Ev.rounds ?_
  unfold abugidalaw08_BreaksAlone.f
  refine Ev.bind ev_sanity ?_
  refine Ev.bind hs ?_
  refine Ev.bind ht ?_
  refine Ev.bind (ev_may s (by omega)) ?_
  refine Ev.bind (ev_may t (by omega)) ?_
  simp only [if_pos z1, if_pos z2]
  refine Ev.bind evu ?_
  exact alone_lists (tmay s) (tmay t) (by rw [tmay_length]; omega) (by rw [tmay_length]; omega)

end Go.Proofs.Ythllgpjjjegenaa.Pure
