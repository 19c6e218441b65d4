/- Where a line may end, in plain Lean: what May and the reference's May answer, out of the spans of a text. -/
import Derived.Test.YthllgpjjjegenaaQx4
import Derived.Test.YthllgpjjjegenaaMade
namespace Go.Proofs.Ythllgpjjjegenaa.Plain
open Go.RowKit Go.Proofs.Ythllgpjjjegenaa.Q Go.Proofs.YthllgpjjjegenaaW.PrintWords Go.Proofs.YthllgpjjjegenaaW.PrintLast

def hscript (c : Int) : Int := (chars_Script.f 40 c).getD 0
theorem scripts_in : (List.range 256).all (fun c => (chars_Script.f 40 (c : Int) == some (hscript c)) && (abugidaref05_Script.f (c : Int) == some (hscript c))) = true := by decide +kernel
theorem script_at (s : ByteArray) (i : Int) : chars_Script.f 40 (bt s i) = some (hscript (bt s i)) ∧ abugidaref05_Script.f (bt s i) = some (hscript (bt s i)) := by
  have hr := bt_range s i
  obtain ⟨c, hc⟩ : ∃ c : Nat, bt s i = (c : Int) := ⟨(bt s i).toNat, by omega⟩
  rw [hc]
  have := List.all_eq_true.mp scripts_in c (List.mem_range.mpr (by omega))
  simp only [Bool.and_eq_true, beq_iff_eq] at this
  exact this
theorem ev_script (s : ByteArray) (i : Int) : Ev (fun k => chars_Script.f k (bt s i)) (hscript (bt s i)) := Ev.of (chars_Script.mono _) (script_at s i).1
theorem ev_class0 (s : ByteArray) (i : Int) : Ev (fun k => chars_Class.f k (bt s i)) (hcls (bt s i)) := by
  have := ev_class s i
  rwa [bt255] at this
theorem ev_rclass0 (s : ByteArray) (i : Int) : Ev (fun k => abugidaref05_Class.f k (bt s i)) (hcls (bt s i)) := by
  have := ev_rclass s i
  rwa [bt255] at this

/-- The place of a cluster's base: the first from i on that does not extend; a, if all do. -/
def hbase (s : ByteArray) (a : Nat) : Nat → Nat → Nat
  | 0, _ => a
  | d + 1, i => if hext (bt s i) = true then hbase s a d (i + 1) else i

theorem hbase_in (s : ByteArray) (a b : Nat) (hab : a < b) : ∀ d i, a ≤ i → i + d = b → a ≤ hbase s a d i ∧ hbase s a d i < b
  | 0, i, _, _ => ⟨Nat.le_refl _, hab⟩
  | d + 1, i, h0, h1 => by
    unfold hbase
    split
    · exact hbase_in s a b hab d (i + 1) (by omega) (by omega)
    · exact ⟨h0, by omega⟩

theorem ev_base_l0 (s : ByteArray) (a b : Nat) (hb : b ≤ s.size) (hs : s.size ≤ 1000) : ∀ d i : Nat, i + d = b →
    Ev (fun k => cluster_Base.l0 k s i a b) (hbase s a d i : Int) ∧ Ev (fun k => abugidaref06_Base.l0 k s i a b) (hbase s a d i : Int)
  | 0, i, hi => by
    constructor
    · refine Ev.step (fun k => by simp only [cluster_Base.l0, if_neg (show ¬ (i : Int) < (b : Int) by omega)]; rfl) ?_
      exact Ev.now _
    · refine Ev.step (fun k => by simp only [abugidaref06_Base.l0, if_neg (show ¬ (i : Int) < (b : Int) by omega)]; rfl) ?_
      exact Ev.now _
  | d + 1, i, hi => by
    have hw : wrap64 ((i : Int) + 1) = ((i + 1 : Nat) : Int) := by rw [w64 _ (by omega) (by omega)]; omega
    obtain ⟨i1, i2⟩ := ev_base_l0 s a b hb hs d (i + 1) (by omega)
    unfold hbase
    constructor
    · refine Ev.step (fun k => by simp only [cluster_Base.l0, if_pos (show (i : Int) < (b : Int) by omega), if_pos (show (0 : Int) ≤ i by omega), if_pos (show (i : Int) < (s.size : Int) by omega), hw]; rfl) ?_
      refine Ev.bind (ev_ext s i) ?_
      cases hext (bt s i) with
      | true => simp only [if_true]; exact i1
      | false => simp only [Bool.false_eq_true, if_false]; exact Ev.now _
    · refine Ev.step (fun k => by simp only [abugidaref06_Base.l0, if_pos (show (i : Int) < (b : Int) by omega), if_pos (show (0 : Int) ≤ i by omega), if_pos (show (i : Int) < (s.size : Int) by omega), hw]; rfl) ?_
      refine Ev.bind (ev_rext s i) ?_
      cases hext (bt s i) with
      | true => simp only [if_true]; exact i2
      | false => simp only [Bool.false_eq_true, if_false]; exact Ev.now _

theorem ev_base (s : ByteArray) (a b : Nat) (hab : a < b) (hb : b ≤ s.size) (hs : s.size ≤ 1000) : Ev (fun k => cluster_Base.f k s a b) (hbase s a (b - a) a : Int) ∧ Ev (fun k => abugidaref06_Base.f k s a b) (hbase s a (b - a) a : Int) := by
  obtain ⟨i1, i2⟩ := ev_base_l0 s a b hb hs (b - a) a (by omega)
  unfold cluster_Base.f abugidaref06_Base.f
  simp only [if_neg (show ¬ (a : Int) < 0 by omega), if_neg (show ¬ (a : Int) ≥ (b : Int) by omega), decide_eq_false (show ¬ (b : Int) > (s.size : Int) by omega)]
  constructor
  · refine Ev.step (fun k => by simp only [cluster_Base.j0, Bool.false_eq_true, if_false]; rfl) ?_
    exact i1
  · refine Ev.step (fun k => by simp only [abugidaref06_Base.j0, Bool.false_eq_true, if_false]; rfl) ?_
    exact i2

/-- The class of a span's head. -/
def hd (s : ByteArray) (sp : S33) : Int := hcls (bt s (hbase s sp.f0.toNat (sp.f1.toNat - sp.f0.toNat) sp.f0.toNat : Int))

/-- Spans that are pieces of a text. -/
def Val (s : ByteArray) (l : List S33) : Prop := ∀ i : Nat, i < l.length → ∃ a b : Nat, rd_T33 l (i : Int) = ⟨a, b⟩ ∧ a < b ∧ b ≤ s.size

theorem cov_val (s : ByteArray) : ∀ (l : List S33) (a : Nat), Cov s s.size a l → Val s l
  | [], _, _ => fun i hi => absurd hi (by simp)
  | sp :: t, a, ⟨b, e, h1, h2, _, _, _, h6⟩ => by
    intro i hi
    cases i with
    | zero => exact ⟨a, b, by rw [e]; rfl, h1, h2⟩
    | succ i =>
      obtain ⟨a', b', g1, g2, g3⟩ := cov_val s t b h6 i (by simpa using hi)
      refine ⟨a', b', ?_, g2, g3⟩
      rw [← g1]
      unfold rd_T33
      simp


/-- The place of the head of cluster i, and its character. -/
def hat (s : ByteArray) (l : List S33) (i : Int) : Int := (hbase s (rd_T33 l i).f0.toNat ((rd_T33 l i).f1.toNat - (rd_T33 l i).f0.toNat) (rd_T33 l i).f0.toNat : Int)
def hch (s : ByteArray) (l : List S33) (i : Int) : Int := bt s (hat s l i)
def hend (s : ByteArray) (l : List S33) (i : Int) : Int := bt s ((rd_T33 l i).f1 - 1)

theorem hat_facts (s : ByteArray) (hs : s.size ≤ 1000) (l : List S33) (hv : Val s l) (i : Nat) (hi : i < l.length) :
    Ev (fun k => cluster_Base.f k s (rd_T33 l (i : Int)).f0 (rd_T33 l (i : Int)).f1) (hat s l i) ∧ Ev (fun k => abugidaref06_Base.f k s (rd_T33 l (i : Int)).f0 (rd_T33 l (i : Int)).f1) (hat s l i) ∧
    0 ≤ hat s l i ∧ hat s l i < (s.size : Int) ∧ wrap64 ((rd_T33 l (i : Int)).f1 - 1) = (rd_T33 l (i : Int)).f1 - 1 ∧ 0 ≤ (rd_T33 l (i : Int)).f1 - 1 ∧ (rd_T33 l (i : Int)).f1 - 1 < (s.size : Int) := by
  obtain ⟨a, b, e, h2, h3⟩ := hv i hi
  have hin := hbase_in s a b h2 (b - a) a (Nat.le_refl _) (by omega)
  have hb := ev_base s a b h2 h3 hs
  unfold hat
  rw [e]
  simp only [Int.toNat_natCast]
  exact ⟨hb.1, hb.2, by omega, by omega, w64 _ (by omega) (by omega), by omega, by omega⟩

/-- What P8.1 says of cluster i. -/
def hmay (s : ByteArray) (l : List S33) (i : Int) : Int :=
  if hcls (hch s l i) = 1 then 2 else if i = (l.length : Int) - 1 then 0
  else if hcls (hch s l (i + 1)) = 1 ∨ hcls (hch s l (i + 1)) = 2 ∨ hcls (hch s l (i + 1)) = 4 then 0
  else if hcls (hch s l i) = 2 ∨ hcls (hend s l i) = 14 then 1 else if hcls (hend s l i) = 13 then 0
  else if hch s l i = 45 then 1 else if hscript (hch s l i) = 3 ∧ hscript (hch s l (i + 1)) = 3 then 1 else 0

def hmays (s : ByteArray) (l : List S33) : Nat → Nat → List Int
  | 0, _ => []
  | d + 1, i => hmay s l i :: hmays s l d (i + 1)
theorem hmays_length (s : ByteArray) (l : List S33) : ∀ d i, (hmays s l d i).length = d
  | 0, _ => rfl
  | d + 1, i => by simp [hmays, hmays_length s l d (i + 1)]

theorem ev_head1 (s : ByteArray) (hs : s.size ≤ 1000) (l : List S33) (hv : Val s l) (i : Nat) (hi : i < l.length) : Ev (fun k => breaks_May_1.f k i s l) (hch s l i) := by
  obtain ⟨h1, h2, h3, h4, _⟩ := hat_facts s hs l hv i hi
  unfold breaks_May_1.f
  simp only [if_pos (show (0 : Int) ≤ i by omega), if_pos (show (i : Int) < (l.length : Int) by omega)]
  refine Ev.bind h1 ?_
  simp only [if_pos h3, if_pos h4]
  rw [bt255]
  exact Ev.now _

theorem stuck_f (c : Int) : breaks_stuck.f c = some (decide (c = 1 ∨ c = 2 ∨ c = 4)) := by
  unfold breaks_stuck.f
  by_cases h1 : c = 1
  · rw [if_pos h1, decide_eq_true (.inl h1)]
  · rw [if_neg h1]
    by_cases h2 : c = 2
    · rw [if_pos h2, decide_eq_true (.inr (.inl h2))]
    · rw [if_neg h2]
      by_cases h4 : c = 4
      · rw [decide_eq_true (.inr (.inr h4)), h4]; rfl
      · rw [decide_eq_false (by omega), beq_eq_false_iff_ne.mpr h4]

theorem ev_may_l0 (s : ByteArray) (hs : s.size ≤ 1000) (l : List S33) (hl : l.length ≤ 1000) (hv : Val s l) : ∀ (d i : Nat) (out : List Int), i + d = l.length → out.length = i →
    Ev (fun k => breaks_May.l0 k out l (l.length : Int) i s l) (out ++ hmays s l d i)
  | 0, i, out, hi, ho => by
    simp only [hmays, List.append_nil]
    refine Ev.step (fun k => by simp only [breaks_May.l0, if_neg (show ¬ (i : Int) < (l.length : Int) by omega)]; rfl) ?_
    exact Ev.now _
  | d + 1, i, out, hi, ho => by
    have hw : wrap64 ((i : Int) + 1) = ((i + 1 : Nat) : Int) := by rw [w64 _ (by omega) (by omega)]; omega
    have hw1 : wrap64 ((l.length : Int) - 1) = (l.length : Int) - 1 := w64 _ (by omega) (by omega)
    have ih := ev_may_l0 s hs l hl hv d (i + 1) (out ++ [hmay s l i]) (by omega) (by simp [ho])
    rw [List.append_assoc] at ih
    have c0 : (i : Int) < (l.length : Int) := by omega
    have c1 : (0 : Int) ≤ i := by omega
    have c2 : out.length < 17592186044416 := by omega
    obtain ⟨_, _, h3, h4, h5, h6, h7⟩ := hat_facts s hs l hv i (by omega)
    have hm : hmay s l i = _ := rfl
    simp only [hmays]
    obtain ⟨m, hmm⟩ : ∃ m, m = hmay s l i := ⟨_, rfl⟩
    rw [← hmm] at ih ⊢
    have fin : ∀ v : Int, m = v → Ev (fun k => if out.length < 17592186044416 then breaks_May.l0 k (out ++ [v]) l (l.length : Int) (wrap64 ((i : Int) + 1)) s l else none) (out ++ (m :: hmays s l d (i + 1))) := by
      intro v hv'
      subst hv'
      simp only [if_pos c2, hw]
      exact ih
    have hcs : ∀ c : Int, hcls c = 1 ∨ ¬ hcls c = 1 := fun c => Classical.em _
    refine Ev.step (fun k => by simp only [breaks_May.l0, if_pos c0, if_pos c1]; rfl) ?_
    refine Ev.bind (ev_head1 s hs l hv i (by omega)) ?_
    refine Ev.bind (ev_class0 s _) ?_
    simp only [h5, if_pos h6, if_pos h7]
    refine Ev.bind (ev_class s _) ?_
    show Ev (fun k => if hcls (hch s l i) = 1 then _ else _) _
    unfold hmay at hmm
    by_cases a1 : hcls (hch s l i) = 1
    · simp only [if_pos a1] at hmm ⊢
      exact fin 2 hmm
    · simp only [if_neg a1, hw1] at hmm ⊢
      have j2 : ∀ b : Bool, b = decide (hcls (hch s l i) = 2 ∨ hcls (hend s l i) = 14) → ¬ (i : Int) = (l.length : Int) - 1 → ¬ (hcls (hch s l (i + 1)) = 1 ∨ hcls (hch s l (i + 1)) = 2 ∨ hcls (hch s l (i + 1)) = 4) →
          Ev (fun k => breaks_May.j2 k out i (hcls (hend s l i)) l (l.length : Int) i b s l) (out ++ (m :: hmays s l d (i + 1))) := by
        intro b hb a2 a3
        simp only [if_neg a2, if_neg a3] at hmm
        by_cases a4 : hcls (hch s l i) = 2 ∨ hcls (hend s l i) = 14
        · rw [decide_eq_true a4] at hb
          subst hb
          rw [if_pos a4] at hmm
          refine Ev.step (fun k => by simp only [breaks_May.j2, if_true]; rfl) ?_
          exact fin 1 hmm
        · rw [decide_eq_false a4] at hb
          subst hb
          rw [if_neg a4] at hmm
          by_cases a5 : hcls (hend s l i) = 13
          · rw [if_pos a5] at hmm
            refine Ev.step (fun k => by simp only [breaks_May.j2, Bool.false_eq_true, if_false, if_pos a5]; rfl) ?_
            exact fin 0 hmm
          · rw [if_neg a5] at hmm
            refine Ev.step (fun k => by simp only [breaks_May.j2, Bool.false_eq_true, if_false, if_neg a5]; rfl) ?_
            refine Ev.bind (ev_head1 s hs l hv i (by omega)) ?_
            by_cases a6 : hch s l i = 45
            · simp only [if_pos a6] at hmm ⊢
              exact fin 1 hmm
            · simp only [if_neg a6] at hmm ⊢
              refine Ev.bind (ev_head1 s hs l hv i (by omega)) ?_
              refine Ev.bind (ev_script s _) ?_
              show Ev (fun k => if hscript (hch s l i) = 3 then _ else _) _
              by_cases a7 : hscript (hch s l i) = 3
              · simp only [a7, true_and, if_true, hw] at hmm ⊢
                refine Ev.bind (ev_head1 s hs l hv (i + 1) (by omega)) ?_
                refine Ev.bind (ev_script s _) ?_
                show Ev (fun k => if hscript (hch s l ((i + 1 : Nat) : Int)) = 3 then _ else _) _
                rw [show ((i : Int) + 1) = ((i + 1 : Nat) : Int) by omega] at hmm
                simp only [hw] at fin
                by_cases a8 : hscript (hch s l ((i + 1 : Nat) : Int)) = 3
                · rw [if_pos a8] at hmm
                  simp only [if_pos a8]
                  exact fin 1 hmm
                · rw [if_neg a8] at hmm
                  simp only [if_neg a8]
                  exact fin 0 hmm
              · simp only [a7, false_and, if_false] at hmm ⊢
                exact fin 0 hmm
      have j1 : ∀ b : Bool, b = (decide ((i : Int) = (l.length : Int) - 1) || decide (hcls (hch s l (i + 1)) = 1 ∨ hcls (hch s l (i + 1)) = 2 ∨ hcls (hch s l (i + 1)) = 4)) →
          Ev (fun k => breaks_May.j1 k out i (hcls (hch s l i)) (hcls (hend s l i)) l (l.length : Int) i b s l) (out ++ (m :: hmays s l d (i + 1))) := by
        intro b hb
        cases b with
        | true =>
          have h0 : m = 0 := by
            by_cases a2 : (i : Int) = (l.length : Int) - 1
            · rw [if_pos a2] at hmm; exact hmm
            · rw [if_neg a2] at hmm
              rw [decide_eq_false a2, Bool.false_or] at hb
              rw [if_pos (of_decide_eq_true hb.symm)] at hmm
              exact hmm
          refine Ev.step (fun k => by simp only [breaks_May.j1, if_true]; rfl) ?_
          exact fin 0 h0
        | false =>
          have hb' := hb.symm
          rw [Bool.or_eq_false_iff, decide_eq_false_iff_not, decide_eq_false_iff_not] at hb'
          refine Ev.step (fun k => by simp only [breaks_May.j1, Bool.false_eq_true, if_false]; rfl) ?_
          by_cases a4 : hcls (hch s l i) = 2
          · simp only [if_pos a4]
            exact j2 true (by rw [decide_eq_true (.inl a4)]) hb'.1 hb'.2
          · simp only [if_neg a4]
            refine j2 _ ?_ hb'.1 hb'.2
            rw [Bool.eq_iff_iff, beq_iff_eq, decide_eq_true_eq]
            exact ⟨fun h => .inr h, fun h => h.resolve_left a4⟩
      by_cases a2 : (i : Int) = (l.length : Int) - 1
      · simp only [if_pos a2]
        exact j1 true (by rw [decide_eq_true a2]; rfl)
      · simp only [if_neg a2, hw]
        refine Ev.bind (ev_head1 s hs l hv (i + 1) (by omega)) ?_
        refine Ev.bind (ev_class0 s _) ?_
        simp only [stuck_f, Option.bind_some]
        refine j1 _ ?_
        rw [decide_eq_false a2, Bool.false_or, show ((i : Int) + 1) = ((i + 1 : Nat) : Int) by omega]
        rfl

/-- What May says of a text. -/
def tmay (s : ByteArray) : List Int := hmays s (spans s) (spans s).length 0
theorem tmay_length (s : ByteArray) : (tmay s).length = (spans s).length := hmays_length _ _ _ _

theorem ev_may (s : ByteArray) (hs : s.size ≤ 1000) : Ev (fun k => breaks_May.f k s) (tmay s) := by
  have hsl := spans_length s
  unfold breaks_May.f
  simp only [split_spans s hs, Option.bind_some]
  exact ev_may_l0 s hs (spans s) (by omega) (cov_val s _ 0 (cov_spans s)) (spans s).length 0 [] (Nat.zero_add _) rfl

end Go.Proofs.Ythllgpjjjegenaa.Plain
