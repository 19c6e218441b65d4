/- What Forms and the reference's Forms answer, in plain Lean: one list, out of the spans of a text. -/
import Derived.Test.YtgpdieogkcnfeaaQx12
import Derived.Test.YtgpdieogkcnfeaaMade
namespace Go.Proofs.Ytgpdieogkcnfeaa.Plain
open Go.RowKit Go.Proofs.Ytgpdieogkcnfeaa.Q Go.Proofs.YtgpdieogkcnfeaaW.PrintWords Go.Proofs.YtgpdieogkcnfeaaW.PrintLast

theorem joins_in : (List.range 256).all (fun c => chars_Joins.f 40 (c : Int) == some ((hcls c == 7 || hcls c == 8), (hcls c == 7))) = true := by decide +kernel

theorem ev_joins (s : ByteArray) (i : Int) : Ev (fun k => chars_Joins.f k (wrap64 (bt s i))) ((hcls (bt s i) == 7 || hcls (bt s i) == 8), (hcls (bt s i) == 7)) := by
  rw [bt255]
  refine Ev.of (chars_Joins.mono _) (k := 40) ?_
  have hr := bt_range s i
  obtain ⟨c, hc⟩ : ∃ c : Nat, bt s i = (c : Int) := ⟨(bt s i).toNat, by omega⟩
  rw [hc]
  have := List.all_eq_true.mp joins_in c (List.mem_range.mpr (by omega))
  rwa [beq_iff_eq] at this

/-- The place of a cluster's base: the first from i on that does not extend; a, if all do. -/
def hbase (s : ByteArray) (a : Nat) : Nat → Nat → Nat
  | 0, _ => a
  | d + 1, i => if hext (bt s i) = true then hbase s a d (i + 1) else i

theorem hbase_in (s : ByteArray) (a b : Nat) (hab : a < b) : ∀ d i, a ≤ i → i + d = b → a ≤ hbase s a d i ∧ hbase s a d i < b
  | 0, i, _, _ => ⟨Nat.le_refl _, hab⟩
  | d + 1, i, h0, h1 => by
    unfold hbase
    split
    · exact hbase_in s a b hab d (i + 1) (by omega) (by omega)
    · exact ⟨h0, by omega⟩

theorem ev_base_l0 (s : ByteArray) (a b : Nat) (hb : b ≤ s.size) (hs : s.size ≤ 1000) : ∀ d i : Nat, i + d = b →
    Ev (fun k => cluster_Base.l0 k s i a b) (hbase s a d i : Int) ∧ Ev (fun k => abugidaref06_Base.l0 k s i a b) (hbase s a d i : Int)
  | 0, i, hi => by
    constructor
    · refine Ev.step (fun k => by simp only [cluster_Base.l0, if_neg (show ¬ (i : Int) < (b : Int) by omega)]; rfl) ?_
      exact Ev.now _
    · refine Ev.step (fun k => by simp only [abugidaref06_Base.l0, if_neg (show ¬ (i : Int) < (b : Int) by omega)]; rfl) ?_
      exact Ev.now _
  | d + 1, i, hi => by
    have hw : wrap64 ((i : Int) + 1) = ((i + 1 : Nat) : Int) := by rw [w64 _ (by omega) (by omega)]; omega
    obtain ⟨i1, i2⟩ := ev_base_l0 s a b hb hs d (i + 1) (by omega)
    unfold hbase
    constructor
    · refine Ev.step (fun k => by simp only [cluster_Base.l0, if_pos (show (i : Int) < (b : Int) by omega), if_pos (show (0 : Int) ≤ i by omega), if_pos (show (i : Int) < (s.size : Int) by omega), hw]; rfl) ?_
      refine Ev.bind (ev_ext s i) ?_
      cases hext (bt s i) with
      | true => simp only [if_true]; exact i1
      | false => simp only [Bool.false_eq_true, if_false]; exact Ev.now _
    · refine Ev.step (fun k => by simp only [abugidaref06_Base.l0, if_pos (show (i : Int) < (b : Int) by omega), if_pos (show (0 : Int) ≤ i by omega), if_pos (show (i : Int) < (s.size : Int) by omega), hw]; rfl) ?_
      refine Ev.bind (ev_rext s i) ?_
      cases hext (bt s i) with
      | true => simp only [if_true]; exact i2
      | false => simp only [Bool.false_eq_true, if_false]; exact Ev.now _

theorem ev_base (s : ByteArray) (a b : Nat) (hab : a < b) (hb : b ≤ s.size) (hs : s.size ≤ 1000) : Ev (fun k => cluster_Base.f k s a b) (hbase s a (b - a) a : Int) ∧ Ev (fun k => abugidaref06_Base.f k s a b) (hbase s a (b - a) a : Int) := by
  obtain ⟨i1, i2⟩ := ev_base_l0 s a b hb hs (b - a) a (by omega)
  unfold cluster_Base.f abugidaref06_Base.f
  simp only [if_neg (show ¬ (a : Int) < 0 by omega), if_neg (show ¬ (a : Int) ≥ (b : Int) by omega), decide_eq_false (show ¬ (b : Int) > (s.size : Int) by omega)]
  constructor
  · refine Ev.step (fun k => by simp only [cluster_Base.j0, Bool.false_eq_true, if_false]; rfl) ?_
    exact i1
  · refine Ev.step (fun k => by simp only [abugidaref06_Base.j0, Bool.false_eq_true, if_false]; rfl) ?_
    exact i2

/-- The class of a span's head. -/
def hd (s : ByteArray) (sp : S29) : Int := hcls (bt s (hbase s sp.f0.toNat (sp.f1.toNat - sp.f0.toNat) sp.f0.toNat : Int))

/-- Spans that are pieces of a text. -/
def Val (s : ByteArray) (l : List S29) : Prop := ∀ i : Nat, i < l.length → ∃ a b : Nat, rd_T29 l (i : Int) = ⟨a, b⟩ ∧ a < b ∧ b ≤ s.size

theorem cov_val (s : ByteArray) : ∀ (l : List S29) (a : Nat), Cov s s.size a l → Val s l
  | [], _, _ => fun i hi => absurd hi (by simp)
  | sp :: t, a, ⟨b, e, h1, h2, _, _, _, h6⟩ => by
    intro i hi
    cases i with
    | zero => exact ⟨a, b, by rw [e]; rfl, h1, h2⟩
    | succ i =>
      obtain ⟨a', b', g1, g2, g3⟩ := cov_val s t b h6 i (by simpa using hi)
      refine ⟨a', b', ?_, g2, g3⟩
      rw [← g1]
      unfold rd_T29
      simp

def lb (s : ByteArray) (l : List S29) (i : Int) : Bool := decide (0 ≤ i) && decide (i < (l.length : Int)) && (hd s (rd_T29 l i) == 7 || hd s (rd_T29 l i) == 8)
def la (s : ByteArray) (l : List S29) (i : Int) : Bool := decide (0 ≤ i) && decide (i < (l.length : Int)) && (hd s (rd_T29 l i) == 7)

theorem ev_letter (s : ByteArray) (hs : s.size ≤ 1000) (l : List S29) (hv : Val s l) (i : Int) : Ev (fun k => forms_reader_letter.f k s l i) (lb s l i, la s l i) := by
  unfold forms_reader_letter.f lb la
  by_cases h0 : i < 0
  · simp only [if_pos h0, decide_eq_false (show ¬ 0 ≤ i by omega), Bool.false_and]
    refine Ev.step (fun k => by simp only [forms_reader_letter.j0, if_true]; rfl) ?_
    exact Ev.now _
  · simp only [if_neg h0, decide_eq_true (show 0 ≤ i by omega), Bool.true_and]
    by_cases h1 : i < (l.length : Int)
    · simp only [decide_eq_true h1, decide_eq_false (show ¬ i ≥ (l.length : Int) by omega), Bool.true_and]
      obtain ⟨j, rfl⟩ : ∃ j : Nat, i = (j : Int) := ⟨i.toNat, by omega⟩
      obtain ⟨a, b, e, h2, h3⟩ := hv j (by omega)
      have hin := hbase_in s a b h2 (b - a) a (Nat.le_refl _) (by omega)
      refine Ev.step (fun k => by simp only [forms_reader_letter.j0, Bool.false_eq_true, if_false, if_pos (show (0 : Int) ≤ j by omega), if_pos h1, e]; rfl) ?_
      refine Ev.bind (ev_base s a b h2 h3 hs).1 ?_
      simp only [if_pos (show (0 : Int) ≤ (hbase s a (b - a) a : Int) by omega), if_pos (show (hbase s a (b - a) a : Int) < (s.size : Int) by omega)]
      refine Ev.bind (ev_joins s _) ?_
      simp only [e, hd, Int.toNat_natCast]
      exact Ev.now _
    · simp only [decide_eq_false h1, decide_eq_true (show i ≥ (l.length : Int) by omega), Bool.false_and]
      refine Ev.step (fun k => by simp only [forms_reader_letter.j0, if_true]; rfl) ?_
      exact Ev.now _

/-- Does cluster i join on? -/
def hon (s : ByteArray) (l : List S29) (i : Int) : Bool := la s l i && (if hcls (bt s ((rd_T29 l i).f1 - 1)) = 14 then false else if hcls (bt s ((rd_T29 l i).f1 - 1)) = 13 then true else lb s l (i + 1))

theorem ev_on (s : ByteArray) (hs : s.size ≤ 1000) (l : List S29) (hl : l.length ≤ 1000) (hv : Val s l) (i : Int) : Ev (fun k => forms_reader_on.f k s l i) (hon s l i) := by
  unfold forms_reader_on.f hon
  refine Ev.bind (ev_letter s hs l hv i) ?_
  cases hla : la s l i with
  | false => simp only [Bool.false_eq_true, if_false, Bool.false_and]; exact Ev.now _
  | true =>
    simp only [if_true, Bool.true_and]
    have hin : 0 ≤ i ∧ i < (l.length : Int) := by
      unfold la at hla
      simp only [Bool.and_eq_true, decide_eq_true_eq] at hla
      exact hla.1
    have hw : wrap64 (i + 1) = i + 1 := w64 _ (by omega) (by omega)
    obtain ⟨j, rfl⟩ : ∃ j : Nat, i = (j : Int) := ⟨i.toNat, by omega⟩
    obtain ⟨a, b, e, h2, h3⟩ := hv j (by omega)
    have hwb : wrap64 ((b : Int) - 1) = (b : Int) - 1 := w64 _ (by omega) (by omega)
    simp only [hw, e, hwb]
    refine Ev.bind (ev_letter s hs l hv _) ?_
    simp only [if_pos hin.1, if_pos hin.2, if_pos (show (0 : Int) ≤ (b : Int) - 1 by omega), if_pos (show (b : Int) - 1 < (s.size : Int) by omega)]
    refine Ev.bind (ev_class s _) ?_
    by_cases c1 : hcls (bt s ((b : Int) - 1)) = 14
    · simp only [if_pos c1]; exact Ev.now _
    · by_cases c2 : hcls (bt s ((b : Int) - 1)) = 13
      · simp only [if_neg c1, if_pos c2]; exact Ev.now _
      · simp only [if_neg c1, if_neg c2]; exact Ev.now _

theorem ev_head (s : ByteArray) (hs : s.size ≤ 1000) (l : List S29) (hv : Val s l) (i : Nat) (hi : i < l.length) : Ev (fun k => abugidaref17_head.f k s ((rd_T29 l i).f0) ((rd_T29 l i).f1)) (hd s (rd_T29 l i)) := by
  obtain ⟨a, b, e, h2, h3⟩ := hv i hi
  have hin := hbase_in s a b h2 (b - a) a (Nat.le_refl _) (by omega)
  unfold abugidaref17_head.f
  simp only [e, hd, Int.toNat_natCast]
  refine Ev.bind (ev_base s a b h2 h3 hs).2 ?_
  simp only [if_pos (show (0 : Int) ≤ (hbase s a (b - a) a : Int) by omega), if_pos (show (hbase s a (b - a) a : Int) < (s.size : Int) by omega)]
  exact Ev.bind (ev_rclass s _) (Ev.now _)

theorem letter_f (c : Int) : abugidaref17_letter.f c = some (c == 7 || c == 8) := by
  unfold abugidaref17_letter.f
  by_cases h : c = 7
  · rw [if_pos h, h]; rfl
  · rw [if_neg h, beq_eq_false_iff_ne.mpr h, Bool.false_or]

theorem ev_ron (s : ByteArray) (hs : s.size ≤ 1000) (l : List S29) (hl : l.length ≤ 1000) (hv : Val s l) (i : Int) (hi : i < (l.length : Int)) : Ev (fun k => abugidaref17_on.f k s l i) (hon s l i) := by
  unfold abugidaref17_on.f hon la
  by_cases h0 : i < 0
  · simp only [if_pos h0, decide_eq_false (show ¬ 0 ≤ i by omega), Bool.false_and]
    refine Ev.step (fun k => by simp only [abugidaref17_on.j0, if_true]; rfl) ?_
    exact Ev.now _
  · obtain ⟨j, rfl⟩ : ∃ j : Nat, i = (j : Int) := ⟨i.toNat, by omega⟩
    obtain ⟨a, b, e, h2, h3⟩ := hv j (by omega)
    simp only [if_neg h0, if_pos (show (0 : Int) ≤ j by omega), if_pos hi, decide_eq_true (show (0 : Int) ≤ j by omega), decide_eq_true hi, Bool.true_and]
    refine Ev.bind (ev_head s hs l hv j (by omega)) ?_
    by_cases c7 : hd s (rd_T29 l (j : Int)) = 7
    · have e7 : (hd s (rd_T29 l (j : Int)) != 7) = false := by rw [c7]; rfl
      have e7' : (hd s (rd_T29 l (j : Int)) == 7) = true := by rw [c7]; rfl
      have hw : wrap64 ((j : Int) + 1) = ((j + 1 : Nat) : Int) := by rw [w64 _ (by omega) (by omega)]; omega
      have hwb : wrap64 ((b : Int) - 1) = (b : Int) - 1 := w64 _ (by omega) (by omega)
      simp only [e7, e7', Bool.true_and]
      refine Ev.step (fun k => by simp only [abugidaref17_on.j0, Bool.false_eq_true, if_false, if_pos (show (0 : Int) ≤ j by omega), if_pos hi, e, hwb, if_pos (show (0 : Int) ≤ (b : Int) - 1 by omega), if_pos (show (b : Int) - 1 < (s.size : Int) by omega), hw]; rfl) ?_
      refine Ev.bind (ev_rclass s _) ?_
      simp only [e]
      by_cases c1 : hcls (bt s ((b : Int) - 1)) = 14
      · simp only [if_pos c1]; exact Ev.now _
      · by_cases c2 : hcls (bt s ((b : Int) - 1)) = 13
        · simp only [if_neg c1, if_pos c2]; exact Ev.now _
        · simp only [if_neg c1, if_neg c2]
          have ej : (j : Int) + 1 = ((j + 1 : Nat) : Int) := by omega
          rw [ej]
          unfold lb
          by_cases c3 : ((j + 1 : Nat) : Int) < (l.length : Int)
          · simp only [if_pos c3, if_pos (show (0 : Int) ≤ ((j + 1 : Nat) : Int) by omega), decide_eq_true c3, decide_eq_true (show (0 : Int) ≤ ((j + 1 : Nat) : Int) by omega), Bool.true_and]
            refine Ev.bind (ev_head s hs l hv (j + 1) (by omega)) ?_
            simp only [letter_f, Option.bind_some]
            exact Ev.now _
          · simp only [if_neg c3, decide_eq_false c3, Bool.and_false, Bool.false_and]
            exact Ev.now _
    · have e7 : (hd s (rd_T29 l (j : Int)) != 7) = true := bne_iff_ne.mpr c7
      have e7' : (hd s (rd_T29 l (j : Int)) == 7) = false := beq_eq_false_iff_ne.mpr c7
      simp only [e7, e7', Bool.false_and]
      refine Ev.step (fun k => by simp only [abugidaref17_on.j0, if_true]; rfl) ?_
      exact Ev.now _

/-- The form of cluster i, and of all from i on. -/
def hform (s : ByteArray) (l : List S29) (i : Int) : Int := if lb s l i = true then hname (hon s l (i - 1)) (hon s l i) else 0
def hforms (s : ByteArray) (l : List S29) : Nat → Nat → List Int
  | 0, _ => []
  | d + 1, i => hform s l i :: hforms s l d (i + 1)
theorem hforms_length (s : ByteArray) (l : List S29) : ∀ d i, (hforms s l d i).length = d
  | 0, _ => rfl
  | d + 1, i => by simp [hforms, hforms_length s l d (i + 1)]

theorem ev_forms_l0 (s : ByteArray) (hs : s.size ≤ 1000) (l : List S29) (hl : l.length ≤ 1000) (hv : Val s l) : ∀ (d i : Nat) (out : List Int), i + d = l.length → out.length = i →
    Ev (fun k => forms_Forms.l0 k s l out i) (out ++ hforms s l d i) ∧ Ev (fun k => abugidaref17_Forms.l0 k s l out i) (out ++ hforms s l d i)
  | 0, i, out, hi, ho => by
    simp only [hforms, List.append_nil]
    constructor
    · refine Ev.step (fun k => by simp only [forms_Forms.l0, if_neg (show ¬ (i : Int) < (l.length : Int) by omega)]; rfl) ?_
      exact Ev.now _
    · refine Ev.step (fun k => by simp only [abugidaref17_Forms.l0, if_neg (show ¬ (i : Int) < (l.length : Int) by omega)]; rfl) ?_
      exact Ev.now _
  | d + 1, i, out, hi, ho => by
    have hw : wrap64 ((i : Int) + 1) = ((i + 1 : Nat) : Int) := by rw [w64 _ (by omega) (by omega)]; omega
    have hw1 : wrap64 ((i : Int) - 1) = (i : Int) - 1 := w64 _ (by omega) (by omega)
    obtain ⟨i1, i2⟩ := ev_forms_l0 s hs l hl hv d (i + 1) (out ++ [hform s l i]) (by omega) (by simp [ho])
    rw [List.append_assoc] at i1 i2
    have c0 : (i : Int) < (l.length : Int) := by omega
    have c1 : (0 : Int) ≤ i := by omega
    have c2 : out.length < 17592186044416 := by omega
    have hlbi : lb s l i = (hd s (rd_T29 l i) == 7 || hd s (rd_T29 l i) == 8) := by
      unfold lb
      rw [decide_eq_true c0, decide_eq_true c1]
      rfl
    constructor
    · refine Ev.step (fun k => by simp only [forms_Forms.l0, if_pos c0, if_pos c2, hw, hw1]; rfl) ?_
      refine Ev.bind (ev_letter s hs l hv i) ?_
      cases hb : lb s l i with
      | true =>
        simp only [if_true]
        refine Ev.bind (ev_on s hs l hl hv _) ?_
        refine Ev.bind (ev_on s hs l hl hv _) ?_
        have e : hform s l i = hname (hon s l (i - 1)) (hon s l i) := by unfold hform; rw [if_pos hb]
        rw [e] at i1
        simp only [hforms, e]
        exact i1
      | false =>
        simp only [Bool.false_eq_true, if_false]
        have e : hform s l i = 0 := by unfold hform; rw [if_neg (by rw [hb]; decide)]
        rw [e] at i1
        simp only [hforms, e]
        exact i1
    · refine Ev.step (fun k => by simp only [abugidaref17_Forms.l0, if_pos c0, if_pos c1, hw1]; rfl) ?_
      refine Ev.bind (ev_head s hs l hv i (by omega)) ?_
      refine Ev.bind (ev_ron s hs l hl hv _ (by omega)) ?_
      refine Ev.bind (ev_ron s hs l hl hv _ c0) ?_
      simp only [letter_f, Option.bind_some, ← hlbi]
      simp only [hforms]
      cases hb : lb s l i with
      | false =>
        have e : hform s l i = 0 := by unfold hform; rw [if_neg (by rw [hb]; decide)]
        rw [e] at i2 ⊢
        simp only [Bool.false_eq_true, if_false, if_pos c2, hw]
        exact i2
      | true =>
        have e : hform s l i = hname (hon s l (i - 1)) (hon s l i) := by unfold hform; rw [if_pos hb]
        rw [e] at i2 ⊢
        simp only [if_true]
        cases p : hon s l ((i : Int) - 1) <;> cases q : hon s l i <;> rw [p, q] at i2 <;> simp only [Bool.false_eq_true, if_false, if_true] <;>
          refine Ev.step (fun k => by simp only [abugidaref17_Forms.j1, Bool.false_eq_true, if_false, if_true, if_pos c2, hw]; rfl) ?_ <;> exact i2

/-- The forms of a text. -/
def tforms (s : ByteArray) : List Int := hforms s (spans s) (spans s).length 0
theorem tforms_length (s : ByteArray) : (tforms s).length = (spans s).length := hforms_length _ _ _ _

theorem ev_forms (s : ByteArray) (hs : s.size ≤ 1000) : Ev (fun k => forms_Forms.f k s) (tforms s) ∧ Ev (fun k => abugidaref17_Forms.f k s) (tforms s) := by
  have hsl := spans_length s
  obtain ⟨i1, i2⟩ := ev_forms_l0 s hs (spans s) (by omega) (cov_val s _ 0 (cov_spans s)) (spans s).length 0 [] (Nat.zero_add _) rfl
  unfold forms_Forms.f abugidaref17_Forms.f
  constructor
  · simp only [split_spans s hs, Option.bind_some]
    exact i1
  · exact Ev.bind (ev_split s hs) i2

end Go.Proofs.Ytgpdieogkcnfeaa.Plain
