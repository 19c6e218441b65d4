/- How lines are filled, in plain Lean: what the reference's Fill answers. -/
import Derived.Test.YthllgpjjjegenaaQx14
import Derived.Test.YthllgpjjjegenaaFil
namespace Go.Proofs.Ythllgpjjjegenaa.Plain
open Go.RowKit Go.Proofs.Ythllgpjjjegenaa.Q Go.Proofs.YthllgpjjjegenaaW.PrintWords Go.Proofs.YthllgpjjjegenaaW.PrintLast

/-- The last of 'd' elements, up to one, after which a line may end; -1, if there is none. -/
def hbest (J : Job) : Nat → Nat → Int
  | 0, _ => -1
  | d + 1, k => if J.m k = 1 then k else hbest J d (k - 1)

theorem hbest_in (J : Job) : ∀ d k, hbest J d k ≤ k
  | 0, k => by show (-1 : Int) ≤ k; omega
  | d + 1, k => by
    unfold hbest
    split
    · omega
    · have := hbest_in J d (k - 1); omega

theorem ev_end_l1 (J : Job) (hn : J.n ≤ 1000) (first k0 : Nat) : ∀ (d k : Nat), k + 1 = first + d ∨ (d = 0 ∧ k = first - 1) → k < J.n → first ≤ J.n →
    Ev (fun q => abugidaref08_end.l1 q (hels J J.n 0) first k0 ((first : Int) + d - 1)) (if 0 ≤ hbest J d k then hbest J d k else k0)
  | 0, k, hk, hkn, hf => by
    show Ev _ (if (0 : Int) ≤ -1 then _ else _)
    rw [if_neg (by decide)]
    refine Ev.step (fun q => by simp only [abugidaref08_end.l1, if_neg (show ¬ (first : Int) + ((0 : Nat) : Int) - 1 ≥ (first : Int) by omega)]; rfl) ?_
    exact Ev.now _
  | d + 1, k, hk, hkn, hf => by
    have e : (first : Int) + ((d + 1 : Nat) : Int) - 1 = (k : Int) := by omega
    have hr := rd_hels J J.n 0 k hkn
    rw [Nat.zero_add] at hr
    rw [e]
    unfold hbest
    have hl : ((hels J J.n 0).length : Int) = J.n := by rw [hels_length]
    by_cases a : J.m k = 1
    · rw [if_pos a, if_pos (show (0 : Int) ≤ (k : Int) by omega)]
      refine Ev.step (fun q => by simp only [abugidaref08_end.l1, if_pos (show (k : Int) ≥ (first : Int) by omega), if_pos (show (0 : Int) ≤ k by omega), hl, if_pos (show (k : Int) < (J.n : Int) by omega), hr, hel, if_pos a]; rfl) ?_
      exact Ev.now _
    · rw [if_neg a]
      have hw : wrap64 ((k : Int) - 1) = (first : Int) + (d : Int) - 1 := by rw [w64 _ (by omega) (by omega)]; omega
      have ih := ev_end_l1 J hn first k0 d (k - 1) (by omega) (by omega) hf
      refine Ev.step (fun q => by simp only [abugidaref08_end.l1, if_pos (show (k : Int) ≥ (first : Int) by omega), if_pos (show (0 : Int) ≤ k by omega), hl, if_pos (show (k : Int) < (J.n : Int) by omega), hr, hel, if_neg a, hw]; rfl) ?_
      exact ih

theorem ev_end_j2 (J : Job) (hn : J.n ≤ 1000) (first k : Nat) (hf : first ≤ k) (hk : k < J.n) (chance : Int) (hc : chance = hbest J (k + 1 - first) k ∨ (k = first ∧ chance = -1)) : Ev (fun q => abugidaref08_end.j2 q (hels J J.n 0) first k) (hres J k chance) := by
  have hl : ((hels J J.n 0).length : Int) = J.n := by rw [hels_length]
  have hw : wrap64 ((J.n : Int) - 1) = (J.n : Int) - 1 := w64 _ (by omega) (by omega)
  unfold hres
  by_cases a : (k : Int) = (J.n : Int) - 1
  · rw [if_neg (fun h => by omega)]
    refine Ev.step (fun q => by simp only [abugidaref08_end.j2, hl, hw, if_pos a]; rfl) ?_
    exact Ev.now _
  · refine Ev.step (fun q => by simp only [abugidaref08_end.j2, hl, hw, if_neg a]; rfl) ?_
    have h := ev_end_l1 J hn first k (k + 1 - first) k (.inl (by omega)) hk (by omega)
    rw [show (first : Int) + ((k + 1 - first : Nat) : Int) - 1 = (k : Int) by omega] at h
    rcases hc with hc | ⟨e1, e2⟩
    · rw [← hc] at h
      by_cases b : 0 ≤ chance
      · rw [if_pos b] at h
        rw [if_pos ⟨by omega, b⟩]
        exact h
      · rw [if_neg b] at h
        rw [if_neg (fun h => b h.2)]
        exact h
    · subst e2
      rw [if_neg (fun h => absurd h.2 (by decide))]
      subst e1
      have e3 : hbest J (k + 1 - k) k = -1 ∨ hbest J (k + 1 - k) k = k := by
        rw [Nat.add_sub_cancel_left]
        unfold hbest
        split
        · exact .inr rfl
        · exact .inl rfl
      rcases e3 with e3 | e3 <;> rw [e3] at h
      · rwa [if_neg (by decide)] at h
      · rwa [ite_self] at h

theorem ev_rend_l0 (J : Job) (hc : ∀ i, 0 ≤ J.cw i ∧ J.cw i ≤ 10000) (hn : J.n ≤ 1000) (first : Nat) : ∀ (d i last : Nat) (chance seen spare : Int), i + d = J.n → first ≤ last → last ≤ i → last < J.n → ((i = first ∧ last = first ∧ chance = -1) ∨ (first < i ∧ last + 1 = i ∧ chance = hbest J (last + 1 - first) last)) → 0 ≤ seen → 0 ≤ spare → seen + spare ≤ 10000 * i →
    Ev (fun k => abugidaref08_end.l0 k (hels J J.n 0) first J.wd (seen + spare) seen last i) (hgo J d i last chance seen spare)
  | 0, i, last, chance, seen, spare, hi, hf, hli, hln, hinv, h0, h1, h2 => by
    have hl : ((hels J J.n 0).length : Int) = J.n := by rw [hels_length]
    refine Ev.step (fun k => by simp only [abugidaref08_end.l0, hl, if_neg (show ¬ (i : Int) < (J.n : Int) by omega)]; rfl) ?_
    exact ev_end_j2 J hn first last hf hln chance (hinv.elim (fun h => .inr h.2) (fun h => .inl h.2.2))
  | d + 1, i, last, chance, seen, spare, hi, hf, hli, hln, hinv, h0, h1, h2 => by
    have hl : ((hels J J.n 0).length : Int) = J.n := by rw [hels_length]
    have hw : wrap64 ((i : Int) + 1) = ((i + 1 : Nat) : Int) := by rw [w64 _ (by omega) (by omega)]; omega
    have hr := rd_hels J J.n 0 i (by omega)
    rw [Nat.zero_add] at hr
    have hci := hc i
    have c0 : (i : Int) < (J.n : Int) := by omega
    have c1 : (0 : Int) ≤ i := by omega
    have w1 : wrap64 (seen + spare + J.cw i) = seen + (spare + J.cw i) := by rw [w64 _ (by omega) (by omega)]; omega
    have j1 : ∀ seen' spare' : Int, seen' = (if J.sp i = true then seen else seen + (spare + J.cw i)) → spare' = (if J.sp i = true then spare + J.cw i else 0) → 0 ≤ seen' → 0 ≤ spare' → seen' + spare' = seen + (spare + J.cw i) →
        Ev (fun k => abugidaref08_end.j1 k (hels J J.n 0) first J.wd (seen + (spare + J.cw i)) seen' last i) (hgo J (d + 1) i last chance seen spare) := by
      intro seen' spare' e1 e2 g0 g1 g2
      unfold hgo
      rw [← e1, ← e2]
      by_cases a1 : seen' > J.wd
      · rw [if_pos a1]
        refine Ev.step (fun k => by simp only [abugidaref08_end.j1, if_pos a1]; rfl) ?_
        exact ev_end_j2 J hn first last hf hln chance (hinv.elim (fun h => .inr h.2) (fun h => .inl h.2.2))
      · rw [if_neg a1]
        by_cases a3 : J.m i = 2
        · rw [if_pos a3]
          refine Ev.step (fun k => by simp only [abugidaref08_end.j1, if_neg a1, if_pos c1, hl, if_pos c0, hr, hel, if_pos a3]; rfl) ?_
          exact Ev.now _
        · rw [if_neg a3]
          have hfi : first ≤ i := by omega
          have hb : (if J.m i = 1 then (i : Int) else chance) = hbest J (i + 1 - first) i := by
            rw [show i + 1 - first = (i - first) + 1 by omega]
            unfold hbest
            by_cases a4 : J.m i = 1
            · rw [if_pos a4, if_pos a4]
            · rw [if_neg a4, if_neg a4]
              rcases hinv with ⟨g3, g4, g5⟩ | ⟨g3, g4, g5⟩
              · rw [g5, show i - first = 0 by omega]; rfl
              · rw [g5, show last + 1 - first = i - first by omega, show i - 1 = last by omega]
          have ih := ev_rend_l0 J hc hn first d (i + 1) i (if J.m i = 1 then (i : Int) else chance) seen' spare' (by omega) hfi (by omega) (by omega) (.inr ⟨by omega, rfl, hb⟩) g0 g1 (by omega)
          rw [g2] at ih
          refine Ev.step (fun k => by simp only [abugidaref08_end.j1, if_neg a1, if_pos c1, hl, if_pos c0, hr, hel, if_neg a3, hw]; rfl) ?_
          exact ih
    refine Ev.step (fun k => by simp only [abugidaref08_end.l0, hl, if_pos c0, if_pos c1, hr, hel, w1]; rfl) ?_
    cases hs : J.sp i with
    | true =>
      simp only [if_true]
      exact j1 _ _ (by rw [hs, if_pos rfl]) (by rw [hs, if_pos rfl]) h0 (by omega) rfl
    | false =>
      simp only [Bool.false_eq_true, if_false]
      exact j1 _ _ (by rw [hs, if_neg (by decide)]) (by rw [hs, if_neg (by decide)]) (by omega) (by omega) (Int.add_zero _)

theorem ev_rend (J : Job) (hc : ∀ i, 0 ≤ J.cw i ∧ J.cw i ≤ 10000) (hn : J.n ≤ 1000) (first : Nat) (hf : first < J.n) : Ev (fun k => abugidaref08_end.f k (hels J J.n 0) first J.wd) (hend' J first) := by
  unfold abugidaref08_end.f
  exact ev_rend_l0 J hc hn first (J.n - first) first first (-1) 0 0 (by omega) (Nat.le_refl _) (Nat.le_refl _) hf (.inl ⟨rfl, rfl, rfl⟩) (by omega) (by omega) (by omega)

theorem ev_rfill_l1 (J : Job) (width : Int) (hn : J.n ≤ 1000) (line : Int) (t : Nat) (ht : t < J.n) (r : List Int) : ∀ (d : Nat) (out : List Int), out.length + d = t + 1 →
    Ev (fun k => abugidaref08_Fill.l0 k width (hels J J.n 0) (out ++ List.replicate d line) (wrap64 (line + 1))) r → Ev (fun k => abugidaref08_Fill.l1 k width (hels J J.n 0) out line t) r
  | 0, out, hd, h => by
    refine Ev.step (fun k => by simp only [abugidaref08_Fill.l1, if_neg (show ¬ (out.length : Int) ≤ (t : Int) by omega)]; rfl) ?_
    rw [List.replicate_zero, List.append_nil] at h
    exact h
  | d + 1, out, hd, h => by
    have ih := ev_rfill_l1 J width hn line t ht r d (out ++ [line]) (by rw [List.length_append, List.length_singleton]; omega) (by rw [snoc_replicate]; exact h)
    refine Ev.step (fun k => by simp only [abugidaref08_Fill.l1, if_pos (show (out.length : Int) ≤ (t : Int) by omega), if_pos (show out.length < 17592186044416 by omega)]; rfl) ?_
    exact ih

theorem ev_rfill_l0 (J : Job) (width : Int) (hwd : J.wd = clamp width) (hc : ∀ i, 0 ≤ J.cw i ∧ J.cw i ≤ 10000) (hn : J.n ≤ 1000) : ∀ (f : Nat) (out : List Int) (line : Int), J.n ≤ f + out.length → out.length ≤ J.n → 0 ≤ line → line ≤ (out.length : Int) →
    Ev (fun k => abugidaref08_Fill.l0 k width (hels J J.n 0) out line) (out ++ hfill J f out.length line)
  | 0, out, line, h1, h2, h3, h4 => by
    have hl : ((hels J J.n 0).length : Int) = J.n := by rw [hels_length]
    refine Ev.step (fun k => by simp only [abugidaref08_Fill.l0, hl, if_neg (show ¬ (out.length : Int) < (J.n : Int) by omega)]; rfl) ?_
    show Ev _ (out ++ [])
    rw [List.append_nil]
    exact Ev.now _
  | f + 1, out, line, h1, h2, h3, h4 => by
    have hl : ((hels J J.n 0).length : Int) = J.n := by rw [hels_length]
    unfold hfill
    by_cases h : out.length < J.n
    · obtain ⟨e, he, g1, g2⟩ := hend_in J out.length h
      rw [if_pos h, he, Int.toNat_natCast]
      have hl2 : (out ++ List.replicate (e + 1 - out.length) line).length = e + 1 := by rw [List.length_append, List.length_replicate]; omega
      have hw : wrap64 (line + 1) = line + 1 := w64 _ (by omega) (by omega)
      have ih := ev_rfill_l0 J width hwd hc hn f (out ++ List.replicate (e + 1 - out.length) line) (line + 1) (by omega) (by omega) (by omega) (by rw [hl2]; omega)
      rw [hl2, List.append_assoc] at ih
      have ev := ev_rend J hc hn out.length h
      rw [he, hwd] at ev
      refine Ev.step (fun k => by simp only [abugidaref08_Fill.l0, hl, if_pos (show (out.length : Int) < (J.n : Int) by omega), wide_f, Option.bind_some]; rfl) ?_
      refine Ev.bind ev ?_
      exact ev_rfill_l1 J width hn line e g2 _ (e + 1 - out.length) out (by omega) (by rw [hw]; exact ih)
    · rw [if_neg h, List.append_nil]
      refine Ev.step (fun k => by simp only [abugidaref08_Fill.l0, hl, if_neg (show ¬ (out.length : Int) < (J.n : Int) by omega)]; rfl) ?_
      exact Ev.now _

theorem ev_rfill (W M : List Int) (S : List Bool) (width : Int) (hn : W.length ≤ 1000) : Ev (fun k => abugidaref08_Fill.f k W M S width) (tfill (job W M S width)) := by
  unfold abugidaref08_Fill.f
  refine Ev.bind (ev_elements W M S width hn) ?_
  exact ev_rfill_l0 (job W M S width) width rfl (job_cw W M S width) (by show min (min W.length M.length) S.length ≤ 1000; omega) _ [] 0 (by show _ ≤ _ + 0; omega) (Nat.zero_le _) (by omega) (by omega)

end Go.Proofs.Ythllgpjjjegenaa.Plain
