/- How lines are filled, in plain Lean: what Fill answers, and the elements. -/
import Derived.Test.YthllgpjjjegenaaQx7
import Derived.Test.YthllgpjjjegenaaQx13
import Derived.Test.YthllgpjjjegenaaOwn
namespace Go.Proofs.Ythllgpjjjegenaa.Plain
open Go.RowKit Go.Proofs.Ythllgpjjjegenaa.Q Go.Proofs.YthllgpjjjegenaaW.PrintWords Go.Proofs.YthllgpjjjegenaaW.PrintLast

def clamp (x : Int) : Int := mx 0 (mn x 10000)
theorem clamp_in (x : Int) : 0 ≤ clamp x ∧ clamp x ≤ 10000 := by
  unfold clamp mx mn
  constructor <;> (repeat' split) <;> omega

/-- Lines to fill: how many elements, how wide each is, where a line may end, what is a space, how wide a line is. -/
structure Job where
  n : Nat
  cw : Nat → Int
  m : Nat → Int
  sp : Nat → Bool
  wd : Int

def hres (J : Job) (last : Nat) (chance : Int) : Int := if (last : Int) < (J.n : Int) - 1 ∧ 0 ≤ chance then chance else last
def hgo (J : Job) : Nat → Nat → Nat → Int → Int → Int → Int
  | 0, _, last, chance, _, _ => hres J last chance
  | d + 1, i, last, chance, seen, spare =>
    if (if J.sp i = true then seen else seen + (spare + J.cw i)) > J.wd then hres J last chance
    else if J.m i = 2 then i
    else hgo J d (i + 1) i (if J.m i = 1 then i else chance) (if J.sp i = true then seen else seen + (spare + J.cw i)) (if J.sp i = true then spare + J.cw i else 0)
/-- The last element of the line that begins with an element. -/
def hend' (J : Job) (first : Nat) : Int := hgo J (J.n - first) first first (-1) 0 0

def job (W M : List Int) (S : List Bool) (width : Int) : Job := { n := min (min W.length M.length) S.length, cw := fun i => clamp (rd W (i : Int)), m := fun i => rd M (i : Int), sp := fun i => rdOf false S (i : Int), wd := clamp width }

theorem fill1_f (x : Int) : breaks_Fill_1.f x = some (clamp x) := rfl

theorem res_code (J : Job) (hn : J.n ≤ 1000) (last : Nat) (chance : Int) : (if (last : Int) < wrap64 ((J.n : Int) - 1) then (if chance ≥ 0 then some chance else some (last : Int)) else some (last : Int)) = some (hres J last chance) := by
  rw [w64 _ (by omega) (by omega)]
  unfold hres
  by_cases c : (last : Int) < (J.n : Int) - 1
  · by_cases c2 : 0 ≤ chance
    · rw [if_pos c, if_pos (show chance ≥ 0 from c2), if_pos ⟨c, c2⟩]
    · rw [if_pos c, if_neg (show ¬ chance ≥ 0 from c2), if_neg (fun h => c2 h.2)]
  · rw [if_neg c, if_neg (fun h => c h.1)]

theorem ev_end2 (W M : List Int) (S : List Bool) (width : Int) (J : Job) (hJ : J = job W M S width) (hn : J.n ≤ 1000) (first : Nat) : ∀ (d i last : Nat) (chance seen spare : Int), i + d = J.n → first ≤ i → (i = first → last = first) → last ≤ i → 0 ≤ seen → 0 ≤ spare → seen + spare ≤ 10000 * i →
    Ev (fun k => breaks_Fill_2.l0 k first last chance seen i spare J.n W S width M) (hgo J d i last chance seen spare)
  | 0, i, last, chance, seen, spare, hi, hf, hl, hli, h0, h1, h2 => by
    refine Ev.step (fun k => by simp only [breaks_Fill_2.l0, if_neg (show ¬ (i : Int) < (J.n : Int) by omega), res_code J hn]; rfl) ?_
    exact Ev.now _
  | d + 1, i, last, chance, seen, spare, hi, hf, hl, hli, h0, h1, h2 => by
    have hw : wrap64 ((i : Int) + 1) = ((i + 1 : Nat) : Int) := by rw [w64 _ (by omega) (by omega)]; omega
    have hnj : J.n = min (min W.length M.length) S.length := by rw [hJ]; rfl
    have hcw : J.cw i = clamp (rd W (i : Int)) := by rw [hJ]; rfl
    have hm : J.m i = rd M (i : Int) := by rw [hJ]; rfl
    have hsp : J.sp i = rdOf false S (i : Int) := by rw [hJ]; rfl
    have hwd : J.wd = clamp width := by rw [hJ]; rfl
    have hci := clamp_in (rd W (i : Int))
    have c0 : (i : Int) < (J.n : Int) := by omega
    have c1 : (0 : Int) ≤ i := by omega
    have c2 : (i : Int) < (W.length : Int) := by omega
    have c3 : (i : Int) < (S.length : Int) := by omega
    have c4 : (i : Int) < (M.length : Int) := by omega
    have w1 : wrap64 (spare + clamp (rd W (i : Int))) = spare + clamp (rd W (i : Int)) := w64 _ (by omega) (by omega)
    have w2 : wrap64 (seen + (spare + clamp (rd W (i : Int)))) = seen + (spare + clamp (rd W (i : Int))) := w64 _ (by omega) (by omega)
    have j1 : ∀ seen' spare' : Int, seen' = (if J.sp i = true then seen else seen + (spare + J.cw i)) → spare' = (if J.sp i = true then spare + J.cw i else 0) → 0 ≤ seen' → 0 ≤ spare' → seen' + spare' ≤ 10000 * ((i + 1 : Nat) : Int) →
        Ev (fun k => breaks_Fill_2.j1 k first last chance seen' i spare' J.n W S width M) (hgo J (d + 1) i last chance seen spare) := by
      intro seen' spare' e1 e2 g0 g1 g2
      unfold hgo
      rw [← e1, ← e2, hwd, hm]
      by_cases a1 : seen' > clamp width
      · rw [if_pos a1]
        refine Ev.step (fun k => by simp only [breaks_Fill_2.j1, fill1_f, Option.bind_some, if_pos a1]; rfl) ?_
        by_cases a2 : (i : Int) > (first : Int)
        · refine Ev.step (fun k => by simp only [breaks_Fill_2.j2, decide_eq_true a2, if_true, res_code J hn]; rfl) ?_
          exact Ev.now _
        · have e : last = i := by have := hl (by omega); omega
          subst e
          refine Ev.step (fun k => by simp only [breaks_Fill_2.j2, decide_eq_false a2, Bool.false_eq_true, if_false, fill1_f, Option.bind_some, if_pos a1, res_code J hn]; rfl) ?_
          exact Ev.now _
      · rw [if_neg a1]
        refine Ev.step (fun k => by simp only [breaks_Fill_2.j1, fill1_f, Option.bind_some, if_neg a1]; rfl) ?_
        by_cases a3 : rd M (i : Int) = 2
        · rw [if_pos a3]
          refine Ev.step (fun k => by simp only [breaks_Fill_2.j2, Bool.false_eq_true, if_false, fill1_f, Option.bind_some, if_neg a1, if_pos c1, if_pos c4, if_pos a3]; rfl) ?_
          exact Ev.now _
        · rw [if_neg a3]
          have ih := fun ch => ev_end2 W M S width J hJ hn first d (i + 1) i ch seen' spare' (by omega) (by omega) (fun h => by omega) (by omega) g0 g1 g2
          by_cases a4 : rd M (i : Int) = 1
          · rw [if_pos a4]
            refine Ev.step (fun k => by simp only [breaks_Fill_2.j2, Bool.false_eq_true, if_false, fill1_f, Option.bind_some, if_neg a1, if_pos c1, if_pos c4, if_neg a3, if_pos a4, hw]; rfl) ?_
            exact ih i
          · rw [if_neg a4]
            refine Ev.step (fun k => by simp only [breaks_Fill_2.j2, Bool.false_eq_true, if_false, fill1_f, Option.bind_some, if_neg a1, if_pos c1, if_pos c4, if_neg a3, if_neg a4, hw]; rfl) ?_
            exact ih chance
    refine Ev.step (fun k => by simp only [breaks_Fill_2.l0, if_pos c0, if_pos c1, if_pos c2, fill1_f, Option.bind_some, if_pos c3, w1, w2]; rfl) ?_
    cases hs : rdOf false S (i : Int) with
    | true =>
      simp only [if_true]
      exact j1 _ _ (by rw [hsp, hs, if_pos rfl]) (by rw [hsp, hs, if_pos rfl, hcw]) h0 (by omega) (by omega)
    | false =>
      simp only [Bool.false_eq_true, if_false]
      exact j1 _ _ (by rw [hsp, hs, if_neg (by decide), hcw]) (by rw [hsp, hs, if_neg (by decide)]) (by omega) (by omega) (by omega)

/-- Where the line that begins with an element ends: not before it, and before the end. -/
theorem hgo_in (J : Job) (first : Nat) : ∀ (d i last : Nat) (chance seen spare : Int), i + d = J.n → first ≤ last → last ≤ i → last < J.n → (0 ≤ chance → (first : Int) ≤ chance) → chance ≤ last → (first : Int) ≤ hgo J d i last chance seen spare ∧ hgo J d i last chance seen spare < J.n
  | 0, i, last, chance, seen, spare, hi, h1, h2, h3, h4, h5 => by
    unfold hgo hres
    split
    · rename_i h; have := h4 h.2; omega
    · omega
  | d + 1, i, last, chance, seen, spare, hi, h1, h2, h3, h4, h5 => by
    unfold hgo
    generalize (if J.sp i = true then seen else seen + (spare + J.cw i)) = X
    generalize (if J.sp i = true then spare + J.cw i else 0) = Y
    by_cases a1 : X > J.wd
    · rw [if_pos a1]
      unfold hres
      split
      · rename_i h; have := h4 h.2; omega
      · omega
    · rw [if_neg a1]
      by_cases a2 : J.m i = 2
      · rw [if_pos a2]; omega
      · rw [if_neg a2]
        refine hgo_in J first d (i + 1) i _ _ _ (by omega) (by omega) (by omega) (by omega) ?_ ?_
        · split
          · intro _; omega
          · exact h4
        · split <;> omega

theorem hend_in (J : Job) (first : Nat) (h : first < J.n) : ∃ e : Nat, hend' J first = (e : Int) ∧ first ≤ e ∧ e < J.n := by
  have := hgo_in J first (J.n - first) first first (-1) 0 0 (by omega) (Nat.le_refl _) (Nat.le_refl _) h (fun h => absurd h (by decide)) (by omega)
  exact ⟨(hend' J first).toNat, by unfold hend' at *; omega, by unfold hend' at *; omega, by unfold hend' at *; omega⟩

/-- The lines of the elements from one on, which begins line number 'line'. -/
def hfill (J : Job) : Nat → Nat → Int → List Int
  | 0, _, _ => []
  | f + 1, first, line => if first < J.n then List.replicate ((hend' J first).toNat + 1 - first) line ++ hfill J f ((hend' J first).toNat + 1) (line + 1) else []

theorem hfill_length (J : Job) : ∀ (f first : Nat) (line : Int), J.n ≤ f + first → first ≤ J.n → (hfill J f first line).length = J.n - first
  | 0, first, line, h1, h2 => by show 0 = _; omega
  | f + 1, first, line, h1, h2 => by
    unfold hfill
    by_cases h : first < J.n
    · obtain ⟨e, he, g1, g2⟩ := hend_in J first h
      have ih := hfill_length J f (e + 1) (line + 1) (by omega) (by omega)
      rw [if_pos h, he, Int.toNat_natCast, List.length_append, List.length_replicate, ih]
      omega
    · rw [if_neg h]; show 0 = _; omega

theorem snoc_replicate (out : List Int) (line : Int) (d : Nat) : out ++ [line] ++ List.replicate d line = out ++ List.replicate (d + 1) line := by
  rw [List.append_assoc]; rfl

theorem ev_fill_l1 (W M : List Int) (S : List Bool) (width : Int) (n : Nat) (hn : n ≤ 1000) (line : Int) (t : Nat) (ht : t < n) (r : List Int) : ∀ (d : Nat) (out : List Int), out.length + d = t + 1 →
    Ev (fun k => breaks_Fill.l0 k (out ++ List.replicate d line) (wrap64 (line + 1)) W M S width n) r → Ev (fun k => breaks_Fill.l1 k out line t W M S width n) r
  | 0, out, hd, h => by
    refine Ev.step (fun k => by simp only [breaks_Fill.l1, if_neg (show ¬ (out.length : Int) ≤ (t : Int) by omega)]; rfl) ?_
    rw [List.replicate_zero, List.append_nil] at h
    exact h
  | d + 1, out, hd, h => by
    have ih := ev_fill_l1 W M S width n hn line t ht r d (out ++ [line]) (by rw [List.length_append, List.length_singleton]; omega) (by rw [snoc_replicate]; exact h)
    refine Ev.step (fun k => by simp only [breaks_Fill.l1, if_pos (show (out.length : Int) ≤ (t : Int) by omega), if_pos (show out.length < 17592186044416 by omega)]; rfl) ?_
    exact ih

theorem ev_fill_l0 (W M : List Int) (S : List Bool) (width : Int) (J : Job) (hJ : J = job W M S width) (hn : J.n ≤ 1000) : ∀ (f : Nat) (out : List Int) (line : Int), J.n ≤ f + out.length → out.length ≤ J.n → 0 ≤ line → line ≤ (out.length : Int) →
    Ev (fun k => breaks_Fill.l0 k out line W M S width J.n) (out ++ hfill J f out.length line)
  | 0, out, line, h1, h2, h3, h4 => by
    refine Ev.step (fun k => by simp only [breaks_Fill.l0, if_neg (show ¬ (out.length : Int) < (J.n : Int) by omega)]; rfl) ?_
    show Ev _ (out ++ [])
    rw [List.append_nil]
    exact Ev.now _
  | f + 1, out, line, h1, h2, h3, h4 => by
    unfold hfill
    by_cases h : out.length < J.n
    · obtain ⟨e, he, g1, g2⟩ := hend_in J out.length h
      rw [if_pos h, he, Int.toNat_natCast]
      have hl : (out ++ List.replicate (e + 1 - out.length) line).length = e + 1 := by rw [List.length_append, List.length_replicate]; omega
      have hw : wrap64 (line + 1) = line + 1 := w64 _ (by omega) (by omega)
      have ih := ev_fill_l0 W M S width J hJ hn f (out ++ List.replicate (e + 1 - out.length) line) (line + 1) (by omega) (by omega) (by omega) (by rw [hl]; omega)
      rw [hl, List.append_assoc] at ih
      have ev := ev_end2 W M S width J hJ hn out.length (J.n - out.length) out.length out.length (-1) 0 0 (by omega) (Nat.le_refl _) (fun _ => rfl) (Nat.le_refl _) (by omega) (by omega) (by omega)
      have hev : Ev (fun k => breaks_Fill_2.f k (out.length : Int) (J.n : Int) W S width M) (e : Int) := by rw [← he]; exact ev
      refine Ev.step (fun k => by simp only [breaks_Fill.l0, if_pos (show (out.length : Int) < (J.n : Int) by omega)]; rfl) ?_
      refine Ev.bind hev ?_
      exact ev_fill_l1 W M S width J.n hn line e g2 _ (e + 1 - out.length) out (by omega) (by rw [hw]; exact ih)
    · rw [if_neg h, List.append_nil]
      refine Ev.step (fun k => by simp only [breaks_Fill.l0, if_neg (show ¬ (out.length : Int) < (J.n : Int) by omega)]; rfl) ?_
      exact Ev.now _

/-- The lines of all elements. -/
def tfill (J : Job) : List Int := hfill J J.n 0 0
theorem tfill_length (J : Job) : (tfill J).length = J.n := hfill_length J J.n 0 0 (by omega) (by omega)

theorem mn_len (a b c : Nat) : mn (mn (a : Int) (b : Int)) (c : Int) = ((min (min a b) c : Nat) : Int) := by
  unfold mn
  (repeat' split) <;> omega

theorem ev_fill (W M : List Int) (S : List Bool) (width : Int) (hn : W.length ≤ 1000) : Ev (fun k => breaks_Fill.f k W M S width) (tfill (job W M S width)) := by
  unfold breaks_Fill.f
  rw [mn_len]
  exact ev_fill_l0 W M S width (job W M S width) rfl (by show min (min W.length M.length) S.length ≤ 1000; omega) _ [] 0 (by show _ ≤ _ + 0; omega) (Nat.zero_le _) (by omega) (by omega)

/-! ### the elements -/

def hel (J : Job) (i : Nat) : S44 := ⟨J.cw i, J.m i, J.sp i⟩
def hels (J : Job) : Nat → Nat → List S44
  | 0, _ => []
  | d + 1, i => hel J i :: hels J d (i + 1)
theorem hels_length (J : Job) : ∀ d i, (hels J d i).length = d
  | 0, _ => rfl
  | d + 1, i => by simp [hels, hels_length J d (i + 1)]
theorem rd_hels (J : Job) : ∀ (d i j : Nat), j < d → rd_T44 (hels J d i) (j : Int) = hel J (i + j)
  | 0, _, _, h => absurd h (by omega)
  | d + 1, i, 0, _ => rfl
  | d + 1, i, j + 1, h => by
    have ih := rd_hels J d (i + 1) j (by omega)
    unfold rd_T44 at ih ⊢
    rw [Int.toNat_natCast] at ih ⊢
    unfold hels
    rw [List.getD_cons_succ, ih, show i + 1 + j = i + (j + 1) by omega]
theorem hels_snoc (J : Job) : ∀ d i, hels J (d + 1) i = hels J d i ++ [hel J (i + d)]
  | 0, i => rfl
  | d + 1, i => by
    have := hels_snoc J d (i + 1)
    show hel J i :: hels J (d + 1) (i + 1) = hel J i :: hels J d (i + 1) ++ _
    rw [this, show i + 1 + d = i + (d + 1) by omega]
    rfl

theorem wide_f (x : Int) : abugidaref08_wide.f x = some (clamp x) := rfl

theorem ev_elements_l0 (W M : List Int) (S : List Bool) (width : Int) (J : Job) (hJ : J = job W M S width) (hn : J.n ≤ 1000) : ∀ (d i : Nat), i + d = J.n → Ev (fun k => abugidaref08_Elements.l0 k W M S (hels J i 0) i) (hels J J.n 0)
  | 0, i, hi => by
    have hnj : J.n = min (min W.length M.length) S.length := by rw [hJ]; rfl
    rw [show i = J.n by omega]
    by_cases a1 : (J.n : Int) < (W.length : Int)
    · by_cases a2 : (J.n : Int) < (M.length : Int)
      · refine Ev.step (fun k => by simp only [abugidaref08_Elements.l0, if_pos a1, if_pos a2, if_neg (show ¬ (J.n : Int) < (S.length : Int) by omega)]; rfl) ?_
        exact Ev.now _
      · refine Ev.step (fun k => by simp only [abugidaref08_Elements.l0, if_pos a1, if_neg a2]; rfl) ?_
        exact Ev.now _
    · refine Ev.step (fun k => by simp only [abugidaref08_Elements.l0, if_neg a1]; rfl) ?_
      exact Ev.now _
  | d + 1, i, hi => by
    have hnj : J.n = min (min W.length M.length) S.length := by rw [hJ]; rfl
    have hw : wrap64 ((i : Int) + 1) = ((i + 1 : Nat) : Int) := by rw [w64 _ (by omega) (by omega)]; omega
    have ih := ev_elements_l0 W M S width J hJ hn d (i + 1) (by omega)
    rw [hels_snoc, Nat.zero_add] at ih
    have hh : hel J i = ⟨clamp (rd W (i : Int)), rd M (i : Int), rdOf false S (i : Int)⟩ := by rw [hJ]; rfl
    rw [hh] at ih
    have l1 : (hels J i 0).length < 5864062014805 := by rw [hels_length]; omega
    refine Ev.step (fun k => by simp only [abugidaref08_Elements.l0, if_pos (show (i : Int) < (W.length : Int) by omega), if_pos (show (i : Int) < (M.length : Int) by omega), if_pos (show (i : Int) < (S.length : Int) by omega), if_pos (show (0 : Int) ≤ i by omega), wide_f, Option.bind_some, if_pos l1, hw]; rfl) ?_
    exact ih

theorem ev_elements (W M : List Int) (S : List Bool) (width : Int) (hn : W.length ≤ 1000) : Ev (fun k => abugidaref08_Elements.f k W M S) (hels (job W M S width) (job W M S width).n 0) := by
  unfold abugidaref08_Elements.f
  exact ev_elements_l0 W M S width (job W M S width) rfl (by show min (min W.length M.length) S.length ≤ 1000; omega) _ 0 (Nat.zero_add _)

theorem job_cw (W M : List Int) (S : List Bool) (width : Int) (i : Nat) : 0 ≤ (job W M S width).cw i ∧ (job W M S width).cw i ≤ 10000 := clamp_in _

/-- Lists that are cut to 40. -/
theorem cut_f (W M : List Int) (S : List Bool) (width : Int) : abugidalaw08_Line_cut.f W M S width = some (W.take 40, M.take 40, S.take 40, width) := by
  have h : ∀ n : Nat, 0 ≤ mn (n : Int) 40 ∧ mn (n : Int) 40 ≤ (n : Int) ∧ (mn (n : Int) 40).toNat = min n 40 := by
    intro n
    unfold mn
    split <;> omega
  have t1 : ∀ {α : Type} (l : List α), l.take (min l.length 40) = l.take 40 := by
    intro α l
    rw [Nat.min_comm, ← List.take_take, List.take_length]
  unfold abugidalaw08_Line_cut.f
  rw [if_pos (h _).1, if_pos (h _).2.1, if_pos (h _).1, if_pos (h _).2.1, if_pos (h _).1, if_pos (h _).2.1, (h _).2.2, (h _).2.2, (h _).2.2, t1, t1, t1]

end Go.Proofs.Ythllgpjjjegenaa.Plain
