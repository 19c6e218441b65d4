/- BreaksMay: where a line may end is what the reference says. For all numbers and every string. -/
import Derived.Test.YthllgpjjjegenaaQx11
import Derived.Test.YthllgpjjjegenaaMays
namespace Go.Proofs.Ythllgpjjjegenaa.Pure
open Go.RowKit Go.Proofs.Ythllgpjjjegenaa.Q Go.Proofs.Ythllgpjjjegenaa.Plain Go.Proofs.YthllgpjjjegenaaW.PrintWords Go.Proofs.YthllgpjjjegenaaW.PrintLast

def hl (f : Int → Int) : Nat → Nat → List Int
  | 0, _ => []
  | d + 1, i => f i :: hl f d (i + 1)
theorem hl_length (f : Int → Int) : ∀ d i, (hl f d i).length = d
  | 0, _ => rfl
  | d + 1, i => by simp [hl, hl_length f d (i + 1)]
theorem hl_snoc (f : Int → Int) : ∀ d i, hl f (d + 1) i = hl f d i ++ [f ((i + d : Nat) : Int)]
  | 0, i => rfl
  | d + 1, i => by
    have := hl_snoc f d (i + 1)
    show f i :: hl f (d + 1) (i + 1) = f i :: hl f d (i + 1) ++ _
    rw [this, show i + 1 + d = i + (d + 1) by omega]
    rfl
theorem rd_hl (f : Int → Int) : ∀ (d i j : Nat), j < d → rd (hl f d i) (j : Int) = f ((i + j : Nat) : Int)
  | 0, _, _, h => absurd h (by omega)
  | d + 1, i, 0, _ => rfl
  | d + 1, i, j + 1, h => by
    have ih := rd_hl f d (i + 1) j (by omega)
    unfold rd at ih ⊢
    rw [Int.toNat_natCast] at ih ⊢
    unfold hl
    rw [List.getD_cons_succ, ih, show i + 1 + j = i + (j + 1) by omega]

theorem ev_rmay1 (s : ByteArray) (_hs : s.size ≤ 1000) (l : List S33) (hl1 : l.length ≤ 1000) (i : Nat) (hi : i < l.length) :
    Ev (fun k => abugidaref08_may.f k (hl (hch s l) l.length 0) (hl (hend s l) l.length 0) i) (hmay s l i) := by
  have c0 : (i : Int) < ((hl (hch s l) l.length 0).length : Int) := by rw [hl_length]; omega
  have c0' : (i : Int) < ((hl (hend s l) l.length 0).length : Int) := by rw [hl_length]; omega
  have c1 : (0 : Int) ≤ i := by omega
  have r0 := rd_hl (hch s l) l.length 0 i hi
  have r1 := rd_hl (hend s l) l.length 0 i hi
  rw [Nat.zero_add] at r0 r1
  have hw : wrap64 ((i : Int) + 1) = ((i + 1 : Nat) : Int) := by rw [w64 _ (by omega) (by omega)]; omega
  have hw1 : wrap64 (((hl (hch s l) l.length 0).length : Int) - 1) = (l.length : Int) - 1 := by rw [hl_length]; exact w64 _ (by omega) (by omega)
  unfold abugidaref08_may.f
  simp only [if_pos c1, if_pos c0, if_pos c0', r0, r1, hw, hw1]
  have f0 : bt s (hat s l i) = hch s l i := rfl
  have f1 : bt s ((rd_T33 l (i : Int)).f1 - 1) = hend s l i := rfl
  have f2 : bt s (hat s l ((i + 1 : Nat) : Int)) = hch s l ((i + 1 : Nat) : Int) := rfl
  refine Ev.bind (ev_rclass0 s _) ?_
  refine Ev.bind (ev_rclass0 s _) ?_
  simp only [f0, f1]
  unfold hmay
  by_cases a1 : hcls (hch s l i) = 1
  · simp only [if_pos a1]; exact Ev.now _
  · simp only [if_neg a1]
    by_cases a2 : (i : Int) = (l.length : Int) - 1
    · simp only [if_pos a2]; exact Ev.now _
    · simp only [if_neg a2]
      have r2 := rd_hl (hch s l) l.length 0 (i + 1) (by omega)
      rw [Nat.zero_add] at r2
      have c2 : ((i + 1 : Nat) : Int) < ((hl (hch s l) l.length 0).length : Int) := by rw [hl_length]; omega
      simp only [if_pos (show (0 : Int) ≤ ((i + 1 : Nat) : Int) by omega), if_pos c2, r2]
      refine Ev.bind (ev_rclass0 s _) ?_
      simp only [f2]
      rw [show ((i : Int) + 1) = ((i + 1 : Nat) : Int) by omega]
      have j1 : ∀ b : Bool, b = decide (hcls (hch s l i) = 2 ∨ hcls (hend s l i) = 14) →
          Ev (fun k => abugidaref08_may.j1 k (hl (hch s l) l.length 0) i (hcls (hend s l i)) b) (if hcls (hch s l i) = 2 ∨ hcls (hend s l i) = 14 then 1 else if hcls (hend s l i) = 13 then 0 else if hch s l i = 45 then 1 else if hscript (hch s l i) = 3 ∧ hscript (hch s l ((i + 1 : Nat) : Int)) = 3 then 1 else 0) := by
        intro b hb
        by_cases a4 : hcls (hch s l i) = 2 ∨ hcls (hend s l i) = 14
        · rw [decide_eq_true a4] at hb
          subst hb
          rw [if_pos a4]
          refine Ev.step (fun k => by simp only [abugidaref08_may.j1, if_true]; rfl) ?_
          exact Ev.now _
        · rw [decide_eq_false a4] at hb
          subst hb
          rw [if_neg a4]
          by_cases a5 : hcls (hend s l i) = 13
          · rw [if_pos a5]
            refine Ev.step (fun k => by simp only [abugidaref08_may.j1, Bool.false_eq_true, if_false, if_pos a5]; rfl) ?_
            exact Ev.now _
          · rw [if_neg a5]
            refine Ev.step (fun k => by simp only [abugidaref08_may.j1, Bool.false_eq_true, if_false, if_neg a5, if_pos c1, if_pos c0, r0, hw, if_pos (show (0 : Int) ≤ ((i + 1 : Nat) : Int) by omega), if_pos c2, r2]; rfl) ?_
            by_cases a6 : hch s l i = 45
            · simp only [if_pos a6]; exact Ev.now _
            · simp only [if_neg a6]
              have e1 : abugidaref05_Script.f (hch s l i) = some (hscript (hch s l i)) := (script_at s _).2
              have e2 : abugidaref05_Script.f (hch s l ((i + 1 : Nat) : Int)) = some (hscript (hch s l ((i + 1 : Nat) : Int))) := (script_at s _).2
              simp only [e1, e2, Option.bind_some]
              by_cases a7 : hscript (hch s l i) = 3
              · by_cases a8 : hscript (hch s l ((i + 1 : Nat) : Int)) = 3
                · simp only [a7, a8, and_self, if_true]; exact Ev.now _
                · simp only [a7, a8, and_false, if_true, if_false]; exact Ev.now _
              · simp only [a7, false_and, if_false]; exact Ev.now _
      have j0 : ∀ b : Bool, b = decide (hcls (hch s l ((i + 1 : Nat) : Int)) = 1 ∨ hcls (hch s l ((i + 1 : Nat) : Int)) = 2 ∨ hcls (hch s l ((i + 1 : Nat) : Int)) = 4) →
          Ev (fun k => abugidaref08_may.j0 k (hl (hch s l) l.length 0) i (hcls (hch s l i)) (hcls (hend s l i)) b) (if hcls (hch s l ((i + 1 : Nat) : Int)) = 1 ∨ hcls (hch s l ((i + 1 : Nat) : Int)) = 2 ∨ hcls (hch s l ((i + 1 : Nat) : Int)) = 4 then 0 else if hcls (hch s l i) = 2 ∨ hcls (hend s l i) = 14 then 1 else if hcls (hend s l i) = 13 then 0 else if hch s l i = 45 then 1 else if hscript (hch s l i) = 3 ∧ hscript (hch s l ((i + 1 : Nat) : Int)) = 3 then 1 else 0) := by
        intro b hb
        by_cases a3 : hcls (hch s l ((i + 1 : Nat) : Int)) = 1 ∨ hcls (hch s l ((i + 1 : Nat) : Int)) = 2 ∨ hcls (hch s l ((i + 1 : Nat) : Int)) = 4
        · rw [decide_eq_true a3] at hb
          subst hb
          rw [if_pos a3]
          refine Ev.step (fun k => by simp only [abugidaref08_may.j0, if_true]; rfl) ?_
          exact Ev.now _
        · rw [decide_eq_false a3] at hb
          subst hb
          rw [if_neg a3]
          refine Ev.step (fun k => by simp only [abugidaref08_may.j0, Bool.false_eq_true, if_false]; rfl) ?_
          by_cases a4 : hcls (hch s l i) = 2
          · simp only [if_pos a4]
            have := j1 true (by rw [decide_eq_true (.inl a4)])
            simpa only [a4, true_or, if_true] using this
          · simp only [if_neg a4]
            refine j1 _ ?_
            rw [Bool.eq_iff_iff, beq_iff_eq, decide_eq_true_eq]
            exact ⟨fun h => .inr h, fun h => h.resolve_left a4⟩
      by_cases b1 : hcls (hch s l ((i + 1 : Nat) : Int)) = 1
      · simp only [if_pos b1]
        exact j0 true (by rw [decide_eq_true (.inl b1)])
      · by_cases b2 : hcls (hch s l ((i + 1 : Nat) : Int)) = 2
        · simp only [if_neg b1, if_pos b2]
          exact j0 true (by rw [decide_eq_true (.inr (.inl b2))])
        · simp only [if_neg b1, if_neg b2]
          refine j0 _ ?_
          rw [Bool.eq_iff_iff, beq_iff_eq, decide_eq_true_eq]
          exact ⟨fun h => .inr (.inr h), fun h => (h.resolve_left b1).resolve_left b2⟩

theorem ev_rmay_l1 (s : ByteArray) (hs : s.size ≤ 1000) (l : List S33) (hl1 : l.length ≤ 1000) : ∀ (d i : Nat) (out : List Int), i + d = l.length → out.length = i →
    Ev (fun k => abugidaref08_May.l1 k l (hl (hch s l) l.length 0) (hl (hend s l) l.length 0) out i) (out ++ hmays s l d i)
  | 0, i, out, hi, ho => by
    simp only [hmays, List.append_nil]
    refine Ev.step (fun k => by simp only [abugidaref08_May.l1, if_neg (show ¬ (i : Int) < (l.length : Int) by omega)]; rfl) ?_
    exact Ev.now _
  | d + 1, i, out, hi, ho => by
    have hw : wrap64 ((i : Int) + 1) = ((i + 1 : Nat) : Int) := by rw [w64 _ (by omega) (by omega)]; omega
    have ih := ev_rmay_l1 s hs l hl1 d (i + 1) (out ++ [hmay s l i]) (by omega) (by simp [ho])
    rw [List.append_assoc] at ih
    refine Ev.step (fun k => by simp only [abugidaref08_May.l1, if_pos (show (i : Int) < (l.length : Int) by omega)]; rfl) ?_
    refine Ev.bind (ev_rmay1 s hs l hl1 i (by omega)) ?_
    simp only [if_pos (show out.length < 17592186044416 by omega), hw]
    exact ih

theorem ev_rmay_l0 (s : ByteArray) (hs : s.size ≤ 1000) (l : List S33) (hl1 : l.length ≤ 1000) (hv : Val s l) : ∀ (d i : Nat), i + d = l.length →
    Ev (fun k => abugidaref08_May.l0 k s l (hl (hch s l) i 0) (hl (hend s l) i 0) i) (hmays s l l.length 0)
  | 0, i, hi => by
    refine Ev.step (fun k => by simp only [abugidaref08_May.l0, if_neg (show ¬ (i : Int) < (l.length : Int) by omega)]; rfl) ?_
    rw [show i = l.length by omega]
    exact ev_rmay_l1 s hs l hl1 l.length 0 [] (Nat.zero_add _) rfl
  | d + 1, i, hi => by
    have hw : wrap64 ((i : Int) + 1) = ((i + 1 : Nat) : Int) := by rw [w64 _ (by omega) (by omega)]; omega
    have ih := ev_rmay_l0 s hs l hl1 hv d (i + 1) (by omega)
    rw [hl_snoc, hl_snoc, Nat.zero_add] at ih
    obtain ⟨_, h2, h3, h4, h5, h6, h7⟩ := hat_facts s hs l hv i (by omega)
    have l1 : (hl (hch s l) i 0).length < 17592186044416 := by rw [hl_length]; omega
    have l2 : (hl (hend s l) i 0).length < 17592186044416 := by rw [hl_length]; omega
    refine Ev.step (fun k => by simp only [abugidaref08_May.l0, if_pos (show (i : Int) < (l.length : Int) by omega), if_pos (show (0 : Int) ≤ i by omega)]; rfl) ?_
    refine Ev.bind h2 ?_
    simp only [if_pos h3, if_pos h4, h5, if_pos h6, if_pos h7, if_pos l1, if_pos l2, hw, bt255]
    exact ih

theorem ev_rmay (s : ByteArray) (hs : s.size ≤ 1000) : Ev (fun k => abugidaref08_May.f k s) (tmay s) := by
  have hsl := spans_length s
  unfold abugidaref08_May.f
  exact Ev.bind (ev_split s hs) (ev_rmay_l0 s hs (spans s) (by omega) (cov_val s _ 0 (cov_spans s)) (spans s).length 0 (Nat.zero_add _))

theorem ev_tell (s : ByteArray) (hs : s.size ≤ 1000) {β : Type} (g : Nat → Bool → Option β) (r : β) (h : Ev (fun k => g k true) r) :
    Ev (fun k => (breaks_May.f k s).bind fun a => (abugidaref08_May.f k s).bind fun b => (abugidalaw08_is.f k a b).bind fun t => g k t) r := by
  refine Ev.bind (ev_may s hs) ?_
  refine Ev.bind (ev_rmay s hs) ?_
  refine Ev.bind (ev_is (tmay s) (by rw [tmay_length]; have := spans_length s; omega)) h

theorem BreaksMay : abugidalaw08_BreaksMay.Pure := by
  intro l s _ _ hwf _
  obtain ⟨t, ht, h60⟩ := ev_text l hwf 60 (by omega)
  refine Ev.rounds ?_
  unfold abugidalaw08_BreaksMay.f
  have hmn : mn (s.size : Int) 100 = min (s.size : Int) 100 := by unfold mn; omega
  obtain ⟨u, hu⟩ : ∃ u, u = s.extract 0 ((mn (s.size : Int) 100 : Int).toNat) := ⟨_, rfl⟩
  have hus : u.size ≤ 100 := by rw [hu, ByteArray.size_extract, hmn]; omega
  refine Ev.bind ev_sanity ?_
  simp only [← hu]
  simp only [if_pos (show 0 ≤ mn (s.size : Int) 100 by omega), if_pos (show mn (s.size : Int) 100 ≤ (s.size : Int) by omega)]
  refine Ev.bind ht ?_
  simp only [if_true]
  refine ev_tell t (by omega) _ _ ?_
  simp only [if_true]
  exact ev_tell u (by omega) _ _ (Ev.now _)

end Go.Proofs.Ythllgpjjjegenaa.Pure
