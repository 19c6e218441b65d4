/- The clusters and the forms of a text, in plain Lean, without the reference. -/
import Derived.Test.YtgpdieogkcnfeaaQx3
import Derived.Test.YtgpdieogkcnfeaaQx4
import Derived.Test.YtgpdieogkcnfeaaQx5
import Derived.Test.YtgpdieogkcnfeaaQx6
import Derived.Test.YtgpdieogkcnfeaaQx9
namespace Go.Proofs.Ytgpdieogkcnfeaa.Plain
open Go.RowKit Go.Proofs.Ytgpdieogkcnfeaa.Q Go.Proofs.YtgpdieogkcnfeaaW.PrintWords Go.Proofs.YtgpdieogkcnfeaaW.PrintLast

theorem w64 (x : Int) (h0 : -1000000000 ≤ x) (h1 : x ≤ 1000000000) : wrap64 x = x := by unfold wrap64; omega

theorem bt255 (s : ByteArray) (i : Int) : wrap64 (bt s i) = bt s i := by
  have := bt_range s i
  exact w64 _ (by omega) (by omega)

theorem ev_class (s : ByteArray) (i : Int) : Ev (fun k => chars_Class.f k (wrap64 (bt s i))) (hcls (bt s i)) := by
  rw [bt255]; exact Ev.of (chars_Class.mono _) (hcls_some _)
theorem ev_ext (s : ByteArray) (i : Int) : Ev (fun k => chars_Extends.f k (wrap64 (bt s i))) (hext (bt s i)) := by
  rw [bt255]; exact Ev.of (chars_Extends.mono _) (hext_some _)
theorem hbegin_zero (s : ByteArray) (frm : Nat) : hbegin s 0 frm = true := by simp [hbegin]

theorem split_f (s : ByteArray) (hs : s.size ≤ 1000) : cluster_Split.f s = some (hspans s.size (hstarts s s.size 0 0)) := by
  unfold cluster_Split.f
  rw [if_pos (by omega)]

theorem ev_ints_l0 (L : List Int) (hL : L.length ≤ 1000) (d : Nat) : ∀ i : Nat, i + d = L.length → Ev (fun k => abugidaref02_SameInts.l0 k L L i) true := by
  induction d with
  | zero =>
    intro i hi
    refine Ev.step (fun k => by simp only [abugidaref02_SameInts.l0, if_neg (show ¬ (i : Int) < (L.length : Int) by omega)]; rfl) ?_
    exact Ev.now _
  | succ d ih =>
    intro i hi
    have hw : wrap64 ((i : Int) + 1) = ((i + 1 : Nat) : Int) := by rw [w64 _ (by omega) (by omega)]; omega
    refine Ev.step (fun k => by simp only [abugidaref02_SameInts.l0, if_pos (show (i : Int) < (L.length : Int) by omega), if_pos (show (0 : Int) ≤ i by omega), if_true, hw]; rfl) ?_
    exact ih (i + 1) (by omega)

theorem ev_is (L : List Int) (hL : L.length ≤ 1000) : Ev (fun k => abugidalaw17_is.f k L L) true := by
  unfold abugidalaw17_is.f abugidaref02_SameInts.f
  simp only [if_true]
  exact Ev.bind (ev_ints_l0 L hL L.length 0 (Nat.zero_add _)) (Ev.now _)


/-- Spans that cover the places from a on, before N, as the rules say. -/
def Cov (s : ByteArray) (N : Nat) : Nat → List S29 → Prop
  | a, [] => a = N
  | a, sp :: t => ∃ b : Nat, sp = ⟨a, b⟩ ∧ a < b ∧ b ≤ N ∧ b ≤ a + 6 ∧ (∀ i, a < i → i < b → hbegin s i a = false) ∧ (b < N → hbegin s b a = true) ∧ Cov s N b t

theorem cov_from (s : ByteArray) (N : Nat) (d : Nat) : ∀ (i frm : Nat), i + d = N → frm < i → i ≤ frm + 6 → (∀ j, frm < j → j < i → hbegin s j frm = false) → Cov s N frm (hspans N (frm :: hstarts s (N - i) i frm)) := by
  induction d with
  | zero =>
    intro i frm hi hf h6 hj
    rw [show N - i = 0 by omega]
    exact ⟨N, rfl, by omega, Nat.le_refl _, by omega, fun j h1 h2 => hj j h1 (by omega), fun h => absurd h (Nat.lt_irrefl _), rfl⟩
  | succ d ih =>
    intro i frm hi hf h6 hj
    obtain ⟨e, he⟩ : ∃ e, N - i = e + 1 := ⟨d, by omega⟩
    have he2 : N - (i + 1) = e := by omega
    rw [he]
    unfold hstarts
    cases hb : hbegin s i frm with
    | true =>
      rw [if_pos rfl]
      unfold hspans
      refine ⟨i, rfl, hf, by omega, h6, hj, fun _ => hb, ?_⟩
      rw [← he2]
      exact ih (i + 1) i (by omega) (by omega) (by omega) (fun j h1 h2 => by omega)
    | false =>
      rw [if_neg (by decide), ← he2]
      refine ih (i + 1) frm (by omega) (by omega) ?_ (fun j h1 h2 => ?_)
      · rcases Nat.lt_or_ge i (frm + 6) with h | h
        · omega
        · have e6 : i = frm + 6 := by omega
          rw [e6] at hb
          simp [hbegin] at hb
      · rcases Nat.lt_or_ge j i with h | h
        · exact hj j h1 h
        · obtain rfl : j = i := by omega
          exact hb

/-- The spans that Split returns. -/
def spans (s : ByteArray) : List S29 := hspans s.size (hstarts s s.size 0 0)

theorem cov_spans (s : ByteArray) : Cov s s.size 0 (spans s) := by
  unfold spans
  by_cases h0 : s.size = 0
  · rw [h0]; exact rfl
  · obtain ⟨e, he⟩ : ∃ e, s.size = e + 1 := ⟨s.size - 1, by omega⟩
    have e1 : hstarts s s.size 0 0 = 0 :: hstarts s (s.size - 1) 1 0 := by
      rw [he]
      show (if hbegin s 0 0 = true then 0 :: hstarts s e 1 0 else hstarts s e 1 0) = _
      rw [hbegin_zero, if_pos rfl]
      rfl
    rw [e1]
    exact cov_from s s.size (s.size - 1) 1 0 (by omega) (by omega) (by omega) (fun j h1 h2 => by omega)

/-- The rules leave no choice. -/
theorem cov_unique (s : ByteArray) (N : Nat) : ∀ (l l' : List S29) (a : Nat), Cov s N a l → Cov s N a l' → l = l'
  | [], [], _, _, _ => rfl
  | [], sp :: t, a, h, ⟨b, _, h1, h2, _⟩ => by have h : a = N := h; omega
  | sp :: t, [], a, ⟨b, _, h1, h2, _⟩, h => by have h : a = N := h; omega
  | sp :: t, sp' :: t', a, ⟨b, e, h1, h2, h3, h4, h5, h6⟩, ⟨b', e', h1', h2', h3', h4', h5', h6'⟩ => by
    have hb : b = b' := by
      rcases Nat.lt_trichotomy b b' with h | h | h
      · have := h4' b h1 h; rw [h5 (by omega)] at this; cases this
      · exact h
      · have := h4 b' h1' h; rw [h5' (by omega)] at this; cases this
    subst hb
    rw [e, e', cov_unique s N t t' b h6 h6']

theorem cov_le (s : ByteArray) (N : Nat) : ∀ (l : List S29) (a : Nat), Cov s N a l → a ≤ N
  | [], a, h => Nat.le_of_eq h
  | _ :: _, a, ⟨b, _, h1, h2, _⟩ => by omega

theorem cov_length (s : ByteArray) (N : Nat) : ∀ (l : List S29) (a : Nat), Cov s N a l → l.length ≤ N - a
  | [], _, _ => Nat.zero_le _
  | sp :: t, a, ⟨b, _, h1, h2, _, _, _, h6⟩ => by
    have := cov_length s N t b h6
    rw [List.length_cons]; omega

theorem spans_length (s : ByteArray) : (spans s).length ≤ s.size := cov_length s s.size _ 0 (cov_spans s)

theorem split_spans (s : ByteArray) (hs : s.size ≤ 1000) : cluster_Split.f s = some (spans s) := split_f s hs


theorem sanity_true : abugidalaw17_sanity.f 100 = some true := by decide +kernel
theorem ev_sanity : Ev (fun k => abugidalaw17_sanity.f k) true := Ev.of abugidalaw17_sanity.mono sanity_true

theorem pools_of (q : Nat) (hq : q < 8) : ∃ p : ByteArray, abugidaref05_pools.f (q : Int) = some p ∧ 0 < p.size ∧ p.size ≤ 7 := by
  match q, hq with
  | 0, _ => exact ⟨_, rfl, by decide, by decide⟩
  | 1, _ => exact ⟨_, rfl, by decide, by decide⟩
  | 2, _ => exact ⟨_, rfl, by decide, by decide⟩
  | 3, _ => exact ⟨_, rfl, by decide, by decide⟩
  | 4, _ => exact ⟨_, rfl, by decide, by decide⟩
  | 5, _ => exact ⟨_, rfl, by decide, by decide⟩
  | 6, _ => exact ⟨_, rfl, by decide, by decide⟩
  | 7, _ => exact ⟨_, rfl, by decide, by decide⟩

/-- One number's character: the pool by the rest, the place in it by the quotient. -/
theorem pool_at (n : Int) (h0 : 0 ≤ n) (h1 : n < 9223372036854775808) : ∃ p : ByteArray, abugidaref05_pools.f (Int.tmod n 8) = some p ∧ ¬ ((p.size : Int) = 0) ∧
    0 ≤ Int.tmod (wrap64 (Int.tdiv n 8)) (p.size : Int) ∧ Int.tmod (wrap64 (Int.tdiv n 8)) (p.size : Int) < (p.size : Int) := by
  obtain ⟨q, hq⟩ : ∃ q : Nat, Int.tmod n 8 = (q : Int) := ⟨(n % 8).toNat, by rw [Int.tmod_eq_emod_of_nonneg h0]; omega⟩
  have hq8 : q < 8 := by rw [Int.tmod_eq_emod_of_nonneg h0] at hq; omega
  obtain ⟨p, h2, h3, _⟩ := pools_of q hq8
  refine ⟨p, by rw [hq]; exact h2, by omega, ?_⟩
  have hd : Int.tdiv n 8 = n / 8 := Int.tdiv_eq_ediv_of_nonneg h0
  have hw : wrap64 (n / 8) = n / 8 := by unfold wrap64; omega
  rw [hd, hw]
  have h4 : 0 ≤ n / 8 := by omega
  rw [Int.tmod_eq_emod_of_nonneg h4]
  exact ⟨Int.emod_nonneg _ (by omega), Int.emod_lt_of_pos _ (by omega)⟩

theorem strOfNums_size (xs : List Int) : (strOfNums xs).size = xs.length := by
  show (xs.map fun n => UInt8.ofNat n.toNat).toArray.size = xs.length
  simp

theorem wf_bounds (x : Int) (h : (Lit.int .i64 x).wf = true) : -9223372036854775808 ≤ x ∧ x < 9223372036854775808 := by
  have h : (decide (IntKind.i64.min ≤ x) && decide (x ≤ IntKind.i64.max)) = true := h
  rw [Bool.and_eq_true, decide_eq_true_eq, decide_eq_true_eq] at h
  have h1 : IntKind.i64.min = -9223372036854775808 := by decide
  have h2 : IntKind.i64.max = 9223372036854775807 := by decide
  omega

theorem rd_mem (l : List Int) (i : Nat) (h : i < l.length) : rd l (i : Int) ∈ l := by
  unfold rd
  rw [Int.toNat_natCast, List.getD_eq_getElem?_getD, List.getElem?_eq_getElem h]
  exact List.getElem_mem h

theorem ev_text_l0 (l : List Int) (hwf : ∀ x ∈ l, (Lit.int .i64 x).wf = true) (m : Nat) (hm : m ≤ 100) (d : Nat) : ∀ (i : Nat) (acc : List Int), i + d = min l.length m → acc.length ≤ i → ∃ t : ByteArray, Ev (fun k => abugidaref05_Text.l0 k l m acc i) t ∧ t.size ≤ m := by
  induction d with
  | zero =>
    intro i acc hi ha
    refine ⟨strOfNums acc, ?_, by rw [strOfNums_size]; omega⟩
    by_cases h : (i : Int) < (l.length : Int)
    · refine Ev.step (fun k => by simp only [abugidaref05_Text.l0, if_pos h]; rfl) ?_
      refine Ev.step (fun k => by simp only [abugidaref05_Text.j1, decide_eq_false (show ¬ (i : Int) < (m : Int) by omega), Bool.false_eq_true, if_false]; rfl) ?_
      exact Ev.now _
    · refine Ev.step (fun k => by simp only [abugidaref05_Text.l0, if_neg h]; rfl) ?_
      refine Ev.step (fun k => by simp only [abugidaref05_Text.j1, Bool.false_eq_true, if_false]; rfl) ?_
      exact Ev.now _
  | succ d ih =>
    intro i acc hi ha
    have hl : (i : Int) < (l.length : Int) := by omega
    have hw : wrap64 ((i : Int) + 1) = ((i + 1 : Nat) : Int) := by rw [w64 _ (by omega) (by omega)]; omega
    have hb := wf_bounds _ (hwf _ (rd_mem l i (by omega)))
    have h0i : (0 : Int) ≤ i := by omega
    have hal : acc.length < 140737488355328 := by omega
    by_cases hneg : rd l i < 0
    · have hn : wrap64 (-(wrap64 (rd l i + 1))) = -(rd l i + 1) := by
        have h1 : wrap64 (rd l i + 1) = rd l i + 1 := by unfold wrap64; omega
        rw [h1]
        unfold wrap64; omega
      obtain ⟨p, h1, h2, h3, h4⟩ := pool_at (-(rd l i + 1)) (by omega) (by omega)
      obtain ⟨t, g1, g2⟩ := ih (i + 1) (acc ++ [bt p (Int.tmod (wrap64 (Int.tdiv (-(rd l i + 1)) 8)) (p.size : Int))]) (by omega) (by rw [List.length_append, List.length_singleton]; omega)
      refine ⟨t, ?_, g2⟩
      refine Ev.step (fun k => by simp only [abugidaref05_Text.l0, if_pos hl]; rfl) ?_
      refine Ev.step (fun k => by simp only [abugidaref05_Text.j1, decide_eq_true (show (i : Int) < (m : Int) by omega), if_true, if_pos h0i, if_pos hl, if_pos hneg, hn, h1, Option.bind_some, if_neg h2, if_pos h3, if_pos h4, if_pos hal, hw]; rfl) ?_
      exact g1
    · obtain ⟨p, h1, h2, h3, h4⟩ := pool_at (rd l i) (by omega) (by omega)
      obtain ⟨t, g1, g2⟩ := ih (i + 1) (acc ++ [bt p (Int.tmod (wrap64 (Int.tdiv (rd l i) 8)) (p.size : Int))]) (by omega) (by rw [List.length_append, List.length_singleton]; omega)
      refine ⟨t, ?_, g2⟩
      refine Ev.step (fun k => by simp only [abugidaref05_Text.l0, if_pos hl]; rfl) ?_
      refine Ev.step (fun k => by simp only [abugidaref05_Text.j1, decide_eq_true (show (i : Int) < (m : Int) by omega), if_true, if_pos h0i, if_pos hl, if_neg hneg, h1, Option.bind_some, if_neg h2, if_pos h3, if_pos h4, if_pos hal, hw]; rfl) ?_
      exact g1

theorem ev_text (l : List Int) (hwf : ∀ x ∈ l, (Lit.int .i64 x).wf = true) (m : Nat) (hm : m ≤ 100) : ∃ t : ByteArray, Ev (fun k => abugidaref05_Text.f k l m) t ∧ t.size ≤ m :=
  ev_text_l0 l hwf m hm (min l.length m) 0 [] (Nat.zero_add _) (Nat.le_refl _)


theorem joins_in : (List.range 256).all (fun c => chars_Joins.f 40 (c : Int) == some ((hcls c == 7 || hcls c == 8), (hcls c == 7))) = true := by decide +kernel

theorem ev_joins (s : ByteArray) (i : Int) : Ev (fun k => chars_Joins.f k (wrap64 (bt s i))) ((hcls (bt s i) == 7 || hcls (bt s i) == 8), (hcls (bt s i) == 7)) := by
  rw [bt255]
  refine Ev.of (chars_Joins.mono _) (k := 40) ?_
  have hr := bt_range s i
  obtain ⟨c, hc⟩ : ∃ c : Nat, bt s i = (c : Int) := ⟨(bt s i).toNat, by omega⟩
  rw [hc]
  have := List.all_eq_true.mp joins_in c (List.mem_range.mpr (by omega))
  rwa [beq_iff_eq] at this

/-- The place of a cluster's base: the first from i on that does not extend; a, if all do. -/
def hbase (s : ByteArray) (a : Nat) : Nat → Nat → Nat
  | 0, _ => a
  | d + 1, i => if hext (bt s i) = true then hbase s a d (i + 1) else i

theorem hbase_in (s : ByteArray) (a b : Nat) (hab : a < b) : ∀ d i, a ≤ i → i + d = b → a ≤ hbase s a d i ∧ hbase s a d i < b
  | 0, i, _, _ => ⟨Nat.le_refl _, hab⟩
  | d + 1, i, h0, h1 => by
    unfold hbase
    split
    · exact hbase_in s a b hab d (i + 1) (by omega) (by omega)
    · exact ⟨h0, by omega⟩

theorem ev_base_l0 (s : ByteArray) (a b : Nat) (hb : b ≤ s.size) (hs : s.size ≤ 1000) : ∀ d i : Nat, i + d = b → Ev (fun k => cluster_Base.l0 k s i a b) (hbase s a d i : Int)
  | 0, i, hi => by
    refine Ev.step (fun k => by simp only [cluster_Base.l0, if_neg (show ¬ (i : Int) < (b : Int) by omega)]; rfl) ?_
    exact Ev.now _
  | d + 1, i, hi => by
    have hw : wrap64 ((i : Int) + 1) = ((i + 1 : Nat) : Int) := by rw [w64 _ (by omega) (by omega)]; omega
    have i1 := ev_base_l0 s a b hb hs d (i + 1) (by omega)
    unfold hbase
    refine Ev.step (fun k => by simp only [cluster_Base.l0, if_pos (show (i : Int) < (b : Int) by omega), if_pos (show (0 : Int) ≤ i by omega), if_pos (show (i : Int) < (s.size : Int) by omega), hw]; rfl) ?_
    refine Ev.bind (ev_ext s i) ?_
    cases hext (bt s i) with
    | true => simp only [if_true]; exact i1
    | false => simp only [Bool.false_eq_true, if_false]; exact Ev.now _

theorem ev_base (s : ByteArray) (a b : Nat) (hab : a < b) (hb : b ≤ s.size) (hs : s.size ≤ 1000) : Ev (fun k => cluster_Base.f k s a b) (hbase s a (b - a) a : Int) := by
  have i1 := ev_base_l0 s a b hb hs (b - a) a (by omega)
  unfold cluster_Base.f
  simp only [if_neg (show ¬ (a : Int) < 0 by omega), if_neg (show ¬ (a : Int) ≥ (b : Int) by omega), decide_eq_false (show ¬ (b : Int) > (s.size : Int) by omega)]
  refine Ev.step (fun k => by simp only [cluster_Base.j0, Bool.false_eq_true, if_false]; rfl) ?_
  exact i1

/-- The class of a span's head. -/
def hd (s : ByteArray) (sp : S29) : Int := hcls (bt s (hbase s sp.f0.toNat (sp.f1.toNat - sp.f0.toNat) sp.f0.toNat : Int))

/-- Spans that are pieces of a text. -/
def Val (s : ByteArray) (l : List S29) : Prop := ∀ i : Nat, i < l.length → ∃ a b : Nat, rd_T29 l (i : Int) = ⟨a, b⟩ ∧ a < b ∧ b ≤ s.size

theorem cov_val (s : ByteArray) : ∀ (l : List S29) (a : Nat), Cov s s.size a l → Val s l
  | [], _, _ => fun i hi => absurd hi (by simp)
  | sp :: t, a, ⟨b, e, h1, h2, _, _, _, h6⟩ => by
    intro i hi
    cases i with
    | zero => exact ⟨a, b, by rw [e]; rfl, h1, h2⟩
    | succ i =>
      obtain ⟨a', b', g1, g2, g3⟩ := cov_val s t b h6 i (by simpa using hi)
      refine ⟨a', b', ?_, g2, g3⟩
      rw [← g1]
      unfold rd_T29
      simp

def lb (s : ByteArray) (l : List S29) (i : Int) : Bool := decide (0 ≤ i) && decide (i < (l.length : Int)) && (hd s (rd_T29 l i) == 7 || hd s (rd_T29 l i) == 8)
def la (s : ByteArray) (l : List S29) (i : Int) : Bool := decide (0 ≤ i) && decide (i < (l.length : Int)) && (hd s (rd_T29 l i) == 7)

theorem ev_letter (s : ByteArray) (hs : s.size ≤ 1000) (l : List S29) (hv : Val s l) (i : Int) : Ev (fun k => forms_reader_letter.f k s l i) (lb s l i, la s l i) := by
  unfold forms_reader_letter.f lb la
  by_cases h0 : i < 0
  · simp only [if_pos h0, decide_eq_false (show ¬ 0 ≤ i by omega), Bool.false_and]
    refine Ev.step (fun k => by simp only [forms_reader_letter.j0, if_true]; rfl) ?_
    exact Ev.now _
  · simp only [if_neg h0, decide_eq_true (show 0 ≤ i by omega), Bool.true_and]
    by_cases h1 : i < (l.length : Int)
    · simp only [decide_eq_true h1, decide_eq_false (show ¬ i ≥ (l.length : Int) by omega), Bool.true_and]
      obtain ⟨j, rfl⟩ : ∃ j : Nat, i = (j : Int) := ⟨i.toNat, by omega⟩
      obtain ⟨a, b, e, h2, h3⟩ := hv j (by omega)
      have hin := hbase_in s a b h2 (b - a) a (Nat.le_refl _) (by omega)
      refine Ev.step (fun k => by simp only [forms_reader_letter.j0, Bool.false_eq_true, if_false, if_pos (show (0 : Int) ≤ j by omega), if_pos h1, e]; rfl) ?_
      refine Ev.bind (ev_base s a b h2 h3 hs) ?_
      simp only [if_pos (show (0 : Int) ≤ (hbase s a (b - a) a : Int) by omega), if_pos (show (hbase s a (b - a) a : Int) < (s.size : Int) by omega)]
      refine Ev.bind (ev_joins s _) ?_
      simp only [e, hd, Int.toNat_natCast]
      exact Ev.now _
    · simp only [decide_eq_false h1, decide_eq_true (show i ≥ (l.length : Int) by omega), Bool.false_and]
      refine Ev.step (fun k => by simp only [forms_reader_letter.j0, if_true]; rfl) ?_
      exact Ev.now _

/-- Does cluster i join on? -/
def hon (s : ByteArray) (l : List S29) (i : Int) : Bool := la s l i && (if hcls (bt s ((rd_T29 l i).f1 - 1)) = 14 then false else if hcls (bt s ((rd_T29 l i).f1 - 1)) = 13 then true else lb s l (i + 1))

theorem ev_on (s : ByteArray) (hs : s.size ≤ 1000) (l : List S29) (hl : l.length ≤ 1000) (hv : Val s l) (i : Int) : Ev (fun k => forms_reader_on.f k s l i) (hon s l i) := by
  unfold forms_reader_on.f hon
  refine Ev.bind (ev_letter s hs l hv i) ?_
  cases hla : la s l i with
  | false => simp only [Bool.false_eq_true, if_false, Bool.false_and]; exact Ev.now _
  | true =>
    simp only [if_true, Bool.true_and]
    have hin : 0 ≤ i ∧ i < (l.length : Int) := by
      unfold la at hla
      simp only [Bool.and_eq_true, decide_eq_true_eq] at hla
      exact hla.1
    have hw : wrap64 (i + 1) = i + 1 := w64 _ (by omega) (by omega)
    obtain ⟨j, rfl⟩ : ∃ j : Nat, i = (j : Int) := ⟨i.toNat, by omega⟩
    obtain ⟨a, b, e, h2, h3⟩ := hv j (by omega)
    have hwb : wrap64 ((b : Int) - 1) = (b : Int) - 1 := w64 _ (by omega) (by omega)
    simp only [hw, e, hwb]
    refine Ev.bind (ev_letter s hs l hv _) ?_
    simp only [if_pos hin.1, if_pos hin.2, if_pos (show (0 : Int) ≤ (b : Int) - 1 by omega), if_pos (show (b : Int) - 1 < (s.size : Int) by omega)]
    refine Ev.bind (ev_class s _) ?_
    by_cases c1 : hcls (bt s ((b : Int) - 1)) = 14
    · simp only [if_pos c1]; exact Ev.now _
    · by_cases c2 : hcls (bt s ((b : Int) - 1)) = 13
      · simp only [if_neg c1, if_pos c2]; exact Ev.now _
      · simp only [if_neg c1, if_neg c2]; exact Ev.now _

/-- The form of cluster i, and of all from i on. -/
def hform (s : ByteArray) (l : List S29) (i : Int) : Int := if lb s l i = true then hname (hon s l (i - 1)) (hon s l i) else 0
def hforms (s : ByteArray) (l : List S29) : Nat → Nat → List Int
  | 0, _ => []
  | d + 1, i => hform s l i :: hforms s l d (i + 1)
theorem hforms_length (s : ByteArray) (l : List S29) : ∀ d i, (hforms s l d i).length = d
  | 0, _ => rfl
  | d + 1, i => by simp [hforms, hforms_length s l d (i + 1)]

theorem ev_forms_l0 (s : ByteArray) (hs : s.size ≤ 1000) (l : List S29) (hl : l.length ≤ 1000) (hv : Val s l) : ∀ (d i : Nat) (out : List Int), i + d = l.length → out.length = i →
    Ev (fun k => forms_Forms.l0 k s l out i) (out ++ hforms s l d i)
  | 0, i, out, hi, ho => by
    simp only [hforms, List.append_nil]
    refine Ev.step (fun k => by simp only [forms_Forms.l0, if_neg (show ¬ (i : Int) < (l.length : Int) by omega)]; rfl) ?_
    exact Ev.now _
  | d + 1, i, out, hi, ho => by
    have hw : wrap64 ((i : Int) + 1) = ((i + 1 : Nat) : Int) := by rw [w64 _ (by omega) (by omega)]; omega
    have hw1 : wrap64 ((i : Int) - 1) = (i : Int) - 1 := w64 _ (by omega) (by omega)
    have i1 := ev_forms_l0 s hs l hl hv d (i + 1) (out ++ [hform s l i]) (by omega) (by simp [ho])
    rw [List.append_assoc] at i1
    have c0 : (i : Int) < (l.length : Int) := by omega
    have c2 : out.length < 17592186044416 := by omega
    refine Ev.step (fun k => by simp only [forms_Forms.l0, if_pos c0, if_pos c2, hw, hw1]; rfl) ?_
    refine Ev.bind (ev_letter s hs l hv i) ?_
    cases hb : lb s l i with
    | true =>
      simp only [if_true]
      refine Ev.bind (ev_on s hs l hl hv _) ?_
      refine Ev.bind (ev_on s hs l hl hv _) ?_
      have e : hform s l i = hname (hon s l (i - 1)) (hon s l i) := by unfold hform; rw [if_pos hb]
      rw [e] at i1
      simp only [hforms, e]
      exact i1
    | false =>
      simp only [Bool.false_eq_true, if_false]
      have e : hform s l i = 0 := by unfold hform; rw [if_neg (by rw [hb]; decide)]
      rw [e] at i1
      simp only [hforms, e]
      exact i1

/-- The forms of a text. -/
def tforms (s : ByteArray) : List Int := hforms s (spans s) (spans s).length 0
theorem tforms_length (s : ByteArray) : (tforms s).length = (spans s).length := hforms_length _ _ _ _

theorem ev_forms (s : ByteArray) (hs : s.size ≤ 1000) : Ev (fun k => forms_Forms.f k s) (tforms s) := by
  have hsl := spans_length s
  have i1 := ev_forms_l0 s hs (spans s) (by omega) (cov_val s _ 0 (cov_spans s)) (spans s).length 0 [] (Nat.zero_add _) rfl
  unfold forms_Forms.f
  simp only [split_spans s hs, Option.bind_some]
  exact i1

end Go.Proofs.Ytgpdieogkcnfeaa.Plain
