import Derived.Test.YtnnkbcgoockniaaQx8
namespace Go.Proofs.Ytnnkbcgoockniaa.Pure
open Go.RowKit Go.Proofs.Ytnnkbcgoockniaa.Q Go.Proofs.YtnnkbcgoockniaaW.PrintWords Go.Proofs.YtnnkbcgoockniaaW.PrintLast

theorem u8_wf {x : Int} (h : (Lit.int .u8 x).wf = true) : 0 ≤ x ∧ x ≤ 255 := by
  have e1 : IntKind.u8.min = 0 := by decide
  have e2 : IntKind.u8.max = 255 := by decide
  have h2 : (decide (IntKind.u8.min ≤ x) && decide (x ≤ IntKind.u8.max)) = true := h
  rw [Bool.and_eq_true, decide_eq_true_iff, decide_eq_true_iff] at h2
  omega
theorem w64 {x : Int} (h1 : -9223372036854775808 ≤ x) (h2 : x ≤ 9223372036854775807) : wrap64 x = x := by
  unfold wrap64
  omega
theorem sane : Ev (fun k => abugidalaw19_sanity.f k) true := Ev.of abugidalaw19_sanity.mono (k := 40) (by decide +kernel)

/-- Many plain glyphs, the last one with an advance. -/
def plains (m : Nat) (a : Int) : List S35 := (List.replicate m z35).set (m - 1) ⟨[], [], ⟨0, 0, 0⟩, a⟩
theorem plains_get (m : Nat) (a : Int) (k : Nat) : (plains m a).getD k z35 = if k < m ∧ k = m - 1 then ⟨[], [], ⟨0, 0, 0⟩, a⟩ else z35 := by
  unfold plains
  rw [List.getD_eq_getElem?_getD, List.getElem?_set, List.length_replicate]
  by_cases h : m - 1 = k
  · subst h
    by_cases h2 : m - 1 < m
    · rw [if_pos rfl, if_pos h2, if_pos ⟨h2, rfl⟩]; rfl
    · rw [if_pos rfl, if_neg h2, if_neg (fun h => h2 h.1)]; rfl
  · rw [if_neg h, if_neg (fun h2 => h h2.2.symm), List.getElem?_replicate]
    split <;> rfl
theorem plains_zero (m : Nat) (a : Int) : ∀ k, k ≤ m → (∀ p ∈ (placesN (plains m a) k).1, p = ⟨0, 0⟩) ∧ (k < m → (placesN (plains m a) k).2 = 0)
  | 0, _ => ⟨fun p hp => by simp [placesN] at hp, fun _ => rfl⟩
  | k + 1, h => by
    obtain ⟨h1, h2⟩ := plains_zero m a k (by omega)
    have h3 := h2 (by omega)
    have hc : ((plains m a).getD k z35).f2.f0 = 0 := by rw [plains_get]; split <;> rfl
    refine ⟨fun p hp => ?_, fun hk => ?_⟩
    · simp only [placesN, List.mem_append, List.mem_singleton] at hp
      rcases hp with hp | rfl
      · exact h1 p hp
      · rw [place1, if_pos hc, h3]
    · simp only [placesN]
      rw [pen1, if_pos hc, h3, plains_get, if_neg (by omega)]
      rfl
theorem z35_right : rightB z35 = true := by decide +kernel
theorem plains_any (m : Nat) (a : Int) (hm : 0 < m) : ((plains m a).any fun d => !rightB d) = !(decide (-1048576 ≤ a) && decide (a ≤ 1048576)) := by
  have hr : rightB ⟨[], [], ⟨0, 0, 0⟩, a⟩ = (decide (-1048576 ≤ a) && decide (a ≤ 1048576)) := by
    have h1 : rightB ⟨[], [], ⟨0, 0, 0⟩, a⟩ = smallB a 0 := by
      unfold rightB
      rw [show (!([] : List S33).any farB) = true from rfl, show (!farB ⟨0, 0, 0⟩) = true by decide +kernel]
      simp
    rw [h1, Bool.eq_iff_iff, smallB_iff]
    simp
  rw [Bool.eq_iff_iff, List.any_eq_true, ← hr]
  constructor
  · rintro ⟨d, hd, h⟩
    unfold plains at hd
    rcases List.mem_or_eq_of_mem_set hd with h2 | h2
    · rw [List.eq_of_mem_replicate h2, z35_right] at h
      cases h
    · rw [← h2]; exact h
  · intro h
    refine ⟨_, ?_, h⟩
    unfold plains
    exact List.mem_of_getElem? (i := m - 1) (by rw [List.getElem?_set, if_pos rfl, if_pos (by rw [List.length_replicate]; omega)])
theorem lim_loop (m : Int) (ps : List S37) (hz : ∀ p ∈ ps, p = ⟨0, 0⟩) (hl : (ps.length : Int) = m) (hb : ps.length ≤ 1000) : ∀ (d i : Nat), i + d = ps.length → Ev (fun k => abugidalaw19_AttachLimits.l0 k true m ps ps (ps.length : Int) (i : Int)) true
  | 0, i, h => by
    refine Ev.step (fun k => by simp only [abugidalaw19_AttachLimits.l0]; exact rfl) ?_
    refine Ev.congr (fun k => ?_) (Ev.now _)
    rw [if_neg (by omega), hl]
    simp
  | d + 1, i, h => by
    have hg : rd_T37 ps (i : Int) = ⟨0, 0⟩ := by
      refine hz _ ?_
      rw [rd_T37, List.getD_eq_getElem?_getD, List.getElem?_eq_getElem (by simp; omega)]
      exact List.getElem_mem _
    refine Ev.step (fun k => by simp only [abugidalaw19_AttachLimits.l0]; exact rfl) ?_
    refine Ev.congr (f := fun k => abugidalaw19_AttachLimits.l0 k true m ps ps (ps.length : Int) ((i + 1 : Nat) : Int)) (fun k => ?_) (lim_loop m ps hz hl hb d (i + 1) (by omega))
    rw [if_pos (by omega), if_pos (by omega), if_pos (by omega), hg, if_pos rfl, if_pos rfl, w64 (by omega) (by omega)]
    rfl

theorem lim_j (a : Int) (m : Nat) (L : List S35) (hm : m < 210) (hL : L.length = m) (hf : placesF L = if 200 < m ∨ 0 < m ∧ (a > 1048576 ∨ a < -1048576) then [] else (placesN L L.length).1) (hz : ∀ p ∈ (placesN L L.length).1, p = ⟨0, 0⟩) : Ev (fun k => abugidalaw19_AttachLimits.j0 k a true (m : Int) L) true := by
  refine Ev.step (fun k => by simp only [abugidalaw19_AttachLimits.j0, attach_Places.f, Option.bind_some]; exact rfl) ?_
  have bad : placesF L = [] → Ev (fun k => abugidalaw19_AttachLimits.j1 k true (m : Int) (placesF L) true) true := fun h => by
    refine Ev.step (fun k => by simp only [abugidalaw19_AttachLimits.j1]; exact rfl) ?_
    refine Ev.congr (fun k => ?_) (Ev.now _)
    rw [h]
    rfl
  have good : placesF L = (placesN L L.length).1 → Ev (fun k => abugidalaw19_AttachLimits.j1 k true (m : Int) (placesF L) false) true := fun h => by
    refine Ev.step (fun k => by simp only [abugidalaw19_AttachLimits.j1]; exact rfl) ?_
    have hl := placesN_length L L.length
    have h2 := lim_loop (m : Int) _ hz (by rw [hl, hL]) (by omega) _ 0 (by rw [Nat.zero_add])
    rw [h]
    exact Ev.congr (fun k => by simp) h2
  by_cases h1 : (m : Int) > 200
  · refine Ev.congr (fun k => by rw [if_pos h1]) (bad (by rw [hf, if_pos (.inl (by omega))]))
  · by_cases h2 : (m : Int) > 0
    · by_cases h3 : a > 1048576
      · exact Ev.congr (fun k => by rw [if_neg h1, if_pos h2, if_pos h3]) (bad (by rw [hf, if_pos (.inr ⟨by omega, .inl h3⟩)]))
      · by_cases h4 : a < -1048576
        · exact Ev.congr (fun k => by rw [if_neg h1, if_pos h2, if_neg h3, decide_eq_true h4]) (bad (by rw [hf, if_pos (.inr ⟨by omega, .inr h4⟩)]))
        · exact Ev.congr (fun k => by rw [if_neg h1, if_pos h2, if_neg h3, decide_eq_false h4]) (good (by rw [hf, if_neg (by omega)]))
    · exact Ev.congr (fun k => by rw [if_neg h1, if_neg h2]) (good (by rw [hf, if_neg (by omega)]))

theorem AttachLimits : abugidalaw19_AttachLimits.Pure := by
  intro a0 a1 w0 w1
  obtain ⟨h0, h1⟩ := u8_wf w0
  refine Ev.rounds ?_
  obtain ⟨m, hm, hlt⟩ : ∃ m : Nat, Int.tmod (wrap64 a0) 210 = (m : Int) ∧ m < 210 := by
    rw [w64 (by omega) (by omega), Int.tmod_eq_emod_of_nonneg h0]
    exact ⟨(a0 % 210).toNat, by omega, by omega⟩
  refine Ev.bind sane ?_
  simp only [hm]
  refine Ev.congr (fun k => by rw [if_pos (by omega), if_pos (by omega), Option.bind_some, Int.toNat_natCast]) ?_
  rcases Nat.eq_zero_or_pos m with h | h
  · subst h
    refine Ev.congr (fun k => by rw [if_neg (by omega)]) ?_
    exact lim_j a1 0 _ (by omega) rfl (by rw [if_neg (by omega)]; rfl) (by intro p hp; simp [placesN] at hp)
  · have hw : wrap64 ((m : Int) - 1) = ((m - 1 : Nat) : Int) := by rw [w64 (by omega) (by omega)]; omega
    have hrd : rd_T35 (List.replicate m z35) ((m - 1 : Nat) : Int) = z35 := by
      rw [rd_T35, Int.toNat_natCast, List.getD_eq_getElem?_getD, List.getElem?_replicate]
      split <;> rfl
    refine Ev.congr (fun k => by rw [if_pos (by omega), hw, if_pos (by omega), if_pos (by rw [List.length_replicate]; omega), hrd, Int.toNat_natCast]) ?_
    have hpl : (List.replicate m z35).set (m - 1) (⟨z35.f0, z35.f1, (⟨z35.f2.f0, z35.f2.f1, z35.f2.f2⟩ : S33), a1⟩ : S35) = plains m a1 := rfl
    rw [hpl]
    have hl : (plains m a1).length = m := by simp [plains]
    refine lim_j a1 m _ hlt hl ?_ ?_
    · unfold placesF
      rw [hl, plains_any m a1 h]
      by_cases h2 : 200 < m
      · rw [if_pos h2, if_pos (.inl h2)]
      · rw [if_neg h2]
        by_cases h3 : a1 > 1048576 ∨ a1 < -1048576
        · have h4 : (!(decide (-1048576 ≤ a1) && decide (a1 ≤ 1048576))) = true := by
            rw [Bool.not_eq_true', Bool.and_eq_false_iff, decide_eq_false_iff_not, decide_eq_false_iff_not]
            omega
          rw [if_pos h4, if_pos (.inr ⟨h, h3⟩)]
        · have h4 : ¬ (!(decide (-1048576 ≤ a1) && decide (a1 ≤ 1048576))) = true := by
            rw [Bool.not_eq_true', Bool.and_eq_false_iff, decide_eq_false_iff_not, decide_eq_false_iff_not]
            omega
          rw [if_neg h4, if_neg (by omega)]
    · rw [hl]
      exact (plains_zero m a1 m (Nat.le_refl _)).1

end Go.Proofs.Ytnnkbcgoockniaa.Pure
