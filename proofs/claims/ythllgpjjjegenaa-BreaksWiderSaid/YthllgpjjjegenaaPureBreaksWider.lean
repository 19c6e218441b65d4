/- BreaksWider: on wider lines no element has a greater number. For all elements and widths. -/
import Derived.Test.YthllgpjjjegenaaQx18
import Derived.Test.YthllgpjjjegenaaFil
namespace Go.Proofs.Ythllgpjjjegenaa.Pure
open Go.RowKit Go.Proofs.Ythllgpjjjegenaa.Q Go.Proofs.Ythllgpjjjegenaa.Plain Go.Proofs.YthllgpjjjegenaaW.PrintWords Go.Proofs.YthllgpjjjegenaaW.PrintLast

theorem hres_ge (J : Job) (last : Nat) (ch : Int) (h : ch ≤ last) : (if 0 ≤ ch then ch else (last : Int)) ≤ hres J last ch ∧ hres J last ch ≤ last := by
  unfold hres
  by_cases a : 0 ≤ ch
  · rw [if_pos a]
    by_cases b : (last : Int) < (J.n : Int) - 1
    · rw [if_pos ⟨b, a⟩]; omega
    · rw [if_neg (fun h => b h.1)]; omega
  · rw [if_neg a, if_neg (fun h => a h.2)]; omega

/-- A line goes as far as it could go already. -/
theorem hgo_ge (J : Job) : ∀ (d i last : Nat) (ch seen spare : Int), last ≤ i → ch ≤ last → (if 0 ≤ ch then ch else (last : Int)) ≤ hgo J d i last ch seen spare
  | 0, i, last, ch, seen, spare, h1, h2 => (hres_ge J last ch h2).1
  | d + 1, i, last, ch, seen, spare, h1, h2 => by
    have h3 : (if 0 ≤ ch then ch else (last : Int)) ≤ last := by split <;> omega
    unfold hgo
    generalize (if J.sp i = true then seen else seen + (spare + J.cw i)) = X
    generalize (if J.sp i = true then spare + J.cw i else 0) = Y
    by_cases a1 : X > J.wd
    · rw [if_pos a1]; exact (hres_ge J last ch h2).1
    · rw [if_neg a1]
      by_cases a2 : J.m i = 2
      · rw [if_pos a2]; omega
      · rw [if_neg a2]
        by_cases a3 : J.m i = 1
        · rw [if_pos a3]
          have ih := hgo_ge J d (i + 1) i i X Y (by omega) (by omega)
          rw [if_pos (show (0 : Int) ≤ (i : Int) by omega)] at ih
          omega
        · rw [if_neg a3]
          have ih := hgo_ge J d (i + 1) i ch X Y (by omega) (by omega)
          refine Int.le_trans ?_ ih
          split <;> omega

/-- Both lines, from an element on that is in both. -/
theorem hgo_sim (J J' : Job) (hn : J'.n = J.n) (hc : J'.cw = J.cw) (hm : J'.m = J.m) (hs : J'.sp = J.sp) (hw : J.wd ≤ J'.wd) (first' : Nat) : ∀ (d i last last' : Nat) (ch ch' seen seen' spare spare' : Int), i + d = J.n → first' ≤ i → (i = last ∨ i = last + 1) → last ≤ last' → last' ≤ i → last' < J.n → first' ≤ last' → ch ≤ last → ch' ≤ last' → (0 ≤ ch ∨ ch = -1) → (0 ≤ ch' → (first' : Int) ≤ ch') → ((first' : Int) ≤ ch → ch' = ch) → (ch = -1 → ch' = -1) → (i = last → ch = -1) → seen' ≤ seen → seen' + spare' ≤ seen + spare →
    hgo J d i last ch seen spare ≤ hgo J' d i last' ch' seen' spare'
  | 0, i, last, last', ch, ch', seen, seen', spare, spare', h1, h2, h3, h4, h5, h6, h6', h7, h8, h9, h9', h10, h11, h14, h12, h13 => by
    show hres J last ch ≤ hres J' last' ch'
    have e : last' = J.n - 1 ∨ last = J.n := by omega
    have g := (hres_ge J last ch h7).2
    unfold hres at g ⊢
    rw [hn]
    rw [if_neg (show ¬ ((last' : Int) < (J.n : Int) - 1 ∧ 0 ≤ ch') by omega)]
    omega
  | d + 1, i, last, last', ch, ch', seen, seen', spare, spare', h1, h2, h3, h4, h5, h6, h6', h7, h8, h9, h9', h10, h11, h14, h12, h13 => by
    have hB := hgo_ge J' (d + 1) i last' ch' seen' spare' h5 h8
    have hB2 := (hgo_in J' first' (d + 1) i last' ch' seen' spare' (by omega) h6' h5 (by omega) h9' h8).1
    have hX : (if J.sp i = true then seen' else seen' + (spare' + J.cw i)) ≤ (if J.sp i = true then seen else seen + (spare + J.cw i)) := by split <;> omega
    have hXY : (if J.sp i = true then seen' else seen' + (spare' + J.cw i)) + (if J.sp i = true then spare' + J.cw i else 0) ≤ (if J.sp i = true then seen else seen + (spare + J.cw i)) + (if J.sp i = true then spare + J.cw i else 0) := by
      cases J.sp i <;> simp <;> omega
    unfold hgo at hB hB2 ⊢
    rw [hc, hm, hs] at hB hB2 ⊢
    generalize (if J.sp i = true then seen else seen + (spare + J.cw i)) = X at *
    generalize (if J.sp i = true then spare + J.cw i else 0) = Y at *
    generalize (if J.sp i = true then seen' else seen' + (spare' + J.cw i)) = X' at *
    generalize (if J.sp i = true then spare' + J.cw i else 0) = Y' at *
    by_cases a1 : X > J.wd
    · rw [if_pos a1]
      refine Int.le_trans ?_ (Int.le_refl _)
      have g := hres_ge J last ch h7
      by_cases b : 0 ≤ ch
      · have b3 : (last : Int) < (J.n : Int) - 1 := by
          rcases h3 with h | h
          · have := h14 h; omega
          · omega
        have e0 : hres J last ch = ch := by unfold hres; rw [if_pos ⟨b3, b⟩]
        rw [e0]
        by_cases b2 : (first' : Int) ≤ ch
        · have e := h10 b2
          rw [e, if_pos b] at hB
          rw [e]
          exact hB
        · exact Int.le_trans (by omega) hB2
      · have e : ch' = -1 := h11 (by omega)
        rw [e, if_neg (by decide)] at hB
        rw [e]
        omega
    · rw [if_neg a1, if_neg (show ¬ X' > J'.wd by omega)]
      by_cases a2 : J.m i = 2
      · rw [if_pos a2, if_pos a2]; exact Int.le_refl _
      · rw [if_neg a2, if_neg a2]
        by_cases a3 : J.m i = 1
        · rw [if_pos a3, if_pos a3]
          exact hgo_sim J J' hn hc hm hs hw first' d (i + 1) i i i i X X' Y Y' (by omega) (by omega) (.inr rfl) (Nat.le_refl _) (by omega) (by omega) (by omega) (Int.le_refl _) (Int.le_refl _) (.inl (by omega)) (fun _ => by omega) (fun _ => rfl) (fun h => by omega) (fun h => by omega) hX hXY
        · rw [if_neg a3, if_neg a3]
          exact hgo_sim J J' hn hc hm hs hw first' d (i + 1) i i ch ch' X X' Y Y' (by omega) (by omega) (.inr rfl) (Nat.le_refl _) (by omega) (by omega) (by omega) (by omega) (by omega) h9 h9' h10 h11 (fun h => by omega) hX hXY

/-- Ahead of the other line's first element. -/
theorem hgo_pre (J J' : Job) (hn : J'.n = J.n) (hc : J'.cw = J.cw) (hm : J'.m = J.m) (hs : J'.sp = J.sp) (hw : J.wd ≤ J'.wd) (hz : ∀ i, 0 ≤ J.cw i) (first' : Nat) (hf : first' < J.n) : ∀ (e i last : Nat) (ch seen spare : Int), i + e = first' → (i = last ∨ i = last + 1) → ch ≤ last → (0 ≤ ch ∨ ch = -1) → (i = last → ch = -1) → 0 ≤ seen → 0 ≤ seen + spare →
    hgo J (J.n - i) i last ch seen spare ≤ hend' J' first'
  | 0, i, last, ch, seen, spare, h1, h2, h3, h4, h5, h6, h7 => by
    obtain rfl : i = first' := by omega
    unfold hend'
    rw [hn]
    by_cases b : i = last
    · subst b
      exact hgo_sim J J' hn hc hm hs hw i (J.n - i) i i i ch (-1) seen 0 spare 0 (by omega) (Nat.le_refl _) h2 (Nat.le_refl _) (Nat.le_refl _) hf (Nat.le_refl _) h3 (by omega) h4 (fun h => absurd h (by decide)) (fun h => by have := h5 rfl; omega) (fun _ => rfl) h5 h6 (by omega)
    · exact hgo_sim J J' hn hc hm hs hw i (J.n - i) i last i ch (-1) seen 0 spare 0 (by omega) (Nat.le_refl _) h2 (by omega) (Nat.le_refl _) hf (Nat.le_refl _) h3 (by omega) h4 (fun h => absurd h (by decide)) (fun h => by omega) (fun _ => rfl) h5 h6 (by omega)
  | e + 1, i, last, ch, seen, spare, h1, h2, h3, h4, h5, h6, h7 => by
    obtain ⟨r, hr, r1, r2⟩ := hend_in J' first' (by omega)
    have hzi := hz i
    have hX : 0 ≤ (if J.sp i = true then seen else seen + (spare + J.cw i)) := by split <;> omega
    have hXY : 0 ≤ (if J.sp i = true then seen else seen + (spare + J.cw i)) + (if J.sp i = true then spare + J.cw i else 0) := by
      cases J.sp i <;> simp <;> omega
    rw [show J.n - i = (J.n - (i + 1)) + 1 by omega]
    unfold hgo
    generalize (if J.sp i = true then seen else seen + (spare + J.cw i)) = X at *
    generalize (if J.sp i = true then spare + J.cw i else 0) = Y at *
    by_cases a1 : X > J.wd
    · rw [if_pos a1, hr]
      have := (hres_ge J last ch h3).2
      omega
    · rw [if_neg a1]
      by_cases a2 : J.m i = 2
      · rw [if_pos a2, hr]; omega
      · rw [if_neg a2]
        by_cases a3 : J.m i = 1
        · rw [if_pos a3]
          exact hgo_pre J J' hn hc hm hs hw hz first' hf e (i + 1) i i X Y (by omega) (.inr rfl) (Int.le_refl _) (.inl (by omega)) (fun h => by omega) hX hXY
        · rw [if_neg a3]
          exact hgo_pre J J' hn hc hm hs hw hz first' hf e (i + 1) i ch X Y (by omega) (.inr rfl) (by omega) h4 (fun h => by omega) hX hXY

theorem hend_mono (J J' : Job) (hn : J'.n = J.n) (hc : J'.cw = J.cw) (hm : J'.m = J.m) (hs : J'.sp = J.sp) (hw : J.wd ≤ J'.wd) (hz : ∀ i, 0 ≤ J.cw i) (first first' : Nat) (hff : first ≤ first') (hf : first' < J.n) : hend' J first ≤ hend' J' first' :=
  hgo_pre J J' hn hc hm hs hw hz first' hf (first' - first) first first (-1) 0 0 (by omega) (.inl rfl) (by omega) (.inr rfl) (fun _ => rfl) (Int.le_refl _) (by omega)

/-- The line of an element. -/
def hline (J : Job) : Nat → Nat → Int → Nat → Int
  | 0, _, _, _ => 0
  | f + 1, first, line, i => if i ≤ (hend' J first).toNat then line else hline J f ((hend' J first).toNat + 1) (line + 1) i

theorem rd_rep (c : Nat) (line : Int) (rest : List Int) (j : Nat) : rd (List.replicate c line ++ rest) (j : Int) = if j < c then line else rd rest ((j - c : Nat) : Int) := by
  unfold rd
  rw [Int.toNat_natCast, Int.toNat_natCast, List.getD_eq_getElem?_getD, List.getD_eq_getElem?_getD]
  by_cases h : j < c
  · rw [if_pos h, List.getElem?_append_left (by rw [List.length_replicate]; exact h)]
    simp [h]
  · rw [if_neg h, List.getElem?_append_right (by rw [List.length_replicate]; omega), List.length_replicate]

theorem rd_hfill (J : Job) : ∀ (f first : Nat) (line : Int) (i : Nat), J.n ≤ f + first → first ≤ i → i < J.n → rd (hfill J f first line) ((i - first : Nat) : Int) = hline J f first line i
  | 0, first, line, i, h1, h2, h3 => by omega
  | f + 1, first, line, i, h1, h2, h3 => by
    obtain ⟨e, he, g1, g2⟩ := hend_in J first (by omega)
    unfold hfill hline
    rw [if_pos (by omega), he, Int.toNat_natCast, rd_rep]
    by_cases h : i ≤ e
    · rw [if_pos h, if_pos (by omega)]
    · rw [if_neg h, if_neg (by omega), show i - first - (e + 1 - first) = i - (e + 1) by omega]
      exact rd_hfill J f (e + 1) (line + 1) i (by omega) (by omega) h3

theorem hline_ge (J : Job) : ∀ (f first : Nat) (line : Int) (i : Nat), J.n ≤ f + first → first ≤ i → i < J.n → line ≤ hline J f first line i
  | 0, first, line, i, h1, h2, h3 => by omega
  | f + 1, first, line, i, h1, h2, h3 => by
    obtain ⟨e, he, g1, g2⟩ := hend_in J first (by omega)
    unfold hline
    rw [he, Int.toNat_natCast]
    by_cases h : i ≤ e
    · rw [if_pos h]; exact Int.le_refl _
    · rw [if_neg h]
      have := hline_ge J f (e + 1) (line + 1) i (by omega) (by omega) h3
      omega

theorem hline_mono (J J' : Job) (hn : J'.n = J.n) (hc : J'.cw = J.cw) (hm : J'.m = J.m) (hs : J'.sp = J.sp) (hw : J.wd ≤ J'.wd) (hz : ∀ i, 0 ≤ J.cw i) (i : Nat) (hi : i < J.n) : ∀ (f' f first first' : Nat) (line : Int), first ≤ first' → first' ≤ i → J.n ≤ f + first → J.n ≤ f' + first' → hline J' f' first' line i ≤ hline J f first line i
  | 0, f, first, first', line, h1, h2, h3, h4 => by omega
  | f' + 1, 0, first, first', line, h1, h2, h3, h4 => by omega
  | f' + 1, f + 1, first, first', line, h1, h2, h3, h4 => by
    obtain ⟨e, he, g1, g2⟩ := hend_in J first (by omega)
    obtain ⟨e', he', g1', g2'⟩ := hend_in J' first' (by omega)
    have hme := hend_mono J J' hn hc hm hs hw hz first first' h1 (by omega)
    rw [he, he'] at hme
    have hge := hline_ge J (f + 1) first line i h3 (by omega) hi
    by_cases h : i ≤ e'
    · have : hline J' (f' + 1) first' line i = line := by
        unfold hline
        rw [he', Int.toNat_natCast, if_pos h]
      rw [this]
      exact hge
    · unfold hline
      rw [he, he', Int.toNat_natCast, Int.toNat_natCast, if_neg h, if_neg (by omega)]
      exact hline_mono J J' hn hc hm hs hw hz i hi f' f (e + 1) (e' + 1) (line + 1) (by omega) (by omega) (by omega) (by omega)

theorem wider_l0 (n : Nat) (hn : n ≤ 1000) (A B : List Int) (hA : A.length = n) (hB : B.length = n) (hle : ∀ i : Nat, i < n → rd B (i : Int) ≤ rd A (i : Int)) (d : Nat) : ∀ i : Nat, i + d = n → Ev (fun k => abugidalaw08_BreaksWider.l0 k true A B i) true := by
  induction d with
  | zero =>
    intro i hi
    refine Ev.step (fun k => by simp only [abugidalaw08_BreaksWider.l0, if_neg (show ¬ (i : Int) < (A.length : Int) by omega)]; rfl) ?_
    exact Ev.now _
  | succ d ih =>
    intro i hi
    have hw : wrap64 ((i : Int) + 1) = ((i + 1 : Nat) : Int) := by rw [w64 _ (by omega) (by omega)]; omega
    have hl := hle i (by omega)
    refine Ev.step (fun k => by simp only [abugidalaw08_BreaksWider.l0, if_pos (show (i : Int) < (A.length : Int) by omega), if_pos (show (0 : Int) ≤ i by omega), if_pos (show (i : Int) < (B.length : Int) by omega), if_neg (show ¬ rd B (i : Int) > rd A (i : Int) by omega), hw]; rfl) ?_
    exact ih (i + 1) (by omega)

theorem clamp_mono (x y : Int) (h : x ≤ y) : clamp x ≤ clamp y := by
  unfold clamp mx mn
  (repeat' split) <;> omega

theorem BreaksWider : abugidalaw08_BreaksWider.Pure := by
  intro W M S width more _ _ _ _ _ _ hmore
  have hm : (decide (IntKind.u8.min ≤ more) && decide (more ≤ IntKind.u8.max)) = true := hmore
  rw [Bool.and_eq_true, decide_eq_true_eq, decide_eq_true_eq] at hm
  have m0 : IntKind.u8.min = 0 := by decide
  have m1 : IntKind.u8.max = 255 := by decide
  rw [m0, m1] at hm
  have hl : (W.take 40).length ≤ 1000 := by rw [List.length_take]; omega
  obtain ⟨c, hc⟩ : ∃ c, c = clamp width := ⟨_, rfl⟩
  have hci := clamp_in width
  rw [← hc] at hci
  have w1 : wrap64 more = more := w64 _ (by omega) (by omega)
  have w2 : wrap64 (c + more) = c + more := w64 _ (by omega) (by omega)
  refine Ev.rounds ?_
  unfold abugidalaw08_BreaksWider.f
  refine Ev.bind ev_sanity ?_
  simp only [cut_f, Option.bind_some]
  rw [show mx 0 (mn width 10000) = c from hc.symm]
  simp only [w1, w2]
  obtain ⟨J, hJ⟩ : ∃ J, J = job (W.take 40) (M.take 40) (S.take 40) c := ⟨_, rfl⟩
  obtain ⟨J', hJ'⟩ : ∃ J', J' = job (W.take 40) (M.take 40) (S.take 40) (c + more) := ⟨_, rfl⟩
  have e1 := ev_fill (W.take 40) (M.take 40) (S.take 40) c hl
  have e2 := ev_fill (W.take 40) (M.take 40) (S.take 40) (c + more) hl
  rw [← hJ] at e1
  rw [← hJ'] at e2
  have n1 : J'.n = J.n := by rw [hJ, hJ']; rfl
  have n2 : J'.cw = J.cw := by rw [hJ, hJ']; rfl
  have n3 : J'.m = J.m := by rw [hJ, hJ']; rfl
  have n4 : J'.sp = J.sp := by rw [hJ, hJ']; rfl
  have n5 : J.wd ≤ J'.wd := by rw [hJ, hJ']; exact clamp_mono _ _ (by omega)
  have n6 : ∀ i, 0 ≤ J.cw i := by rw [hJ]; exact fun i => (job_cw _ _ _ _ i).1
  have n7 : J.n ≤ 1000 := by rw [hJ]; show min (min (W.take 40).length (M.take 40).length) (S.take 40).length ≤ 1000; omega
  refine Ev.bind e1 ?_
  refine Ev.bind e2 ?_
  simp only [tfill_length, n1, if_true]
  refine wider_l0 J.n n7 (tfill J) (tfill J') (tfill_length J) (by rw [tfill_length, n1]) (fun i hi => ?_) J.n 0 (Nat.zero_add _)
  have g1 := rd_hfill J J.n 0 0 i (by omega) (by omega) hi
  have g2 := rd_hfill J' J'.n 0 0 i (by omega) (by omega) (by omega)
  rw [Nat.sub_zero] at g1 g2
  unfold tfill
  rw [g1, g2]
  exact hline_mono J J' n1 n2 n3 n4 n5 n6 i hi J'.n J.n 0 0 0 (Nat.le_refl _) (Nat.zero_le _) (by omega) (by omega)

end Go.Proofs.Ythllgpjjjegenaa.Pure
