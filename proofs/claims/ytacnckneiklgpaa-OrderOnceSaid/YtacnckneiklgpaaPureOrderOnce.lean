/- OrderOnce, the plain part. -/
import Derived.Test.YtacnckneiklgpaaQx24
import Derived.Test.YtacnckneiklgpaaVp
namespace Go.Proofs.Ytacnckneiklgpaa.Pure
open Go.RowKit Go.Proofs.Ytacnckneiklgpaa.Q Go.Proofs.YtacnckneiklgpaaW.PrintWords Go.Proofs.YtacnckneiklgpaaW.PrintLast
set_option linter.unusedVariables false

theorem saneK : ∃ k, abugidalaw07_sanity.f k = some true := ⟨300, by decide +kernel⟩
theorem ev_sane : Ev (fun k => abugidalaw07_sanity.f k) true := by
  obtain ⟨k, h⟩ := saneK
  exact Ev.of abugidalaw07_sanity.mono h
theorem w64n (i : Nat) (h : (i : Int) + 1 ≤ 9223372036854775807) : wrap64 ((i : Int) + 1) = ((i + 1 : Nat) : Int) := by
  unfold wrap64; omega
theorem mod_some (x : Int) (n : Int) (hn : 0 < n ∧ n ≤ 1000) : ∃ r, abugidaref01_Mod.f x n = some r ∧ 0 ≤ r ∧ r < n := by
  have h1 := Int.tmod_lt_of_pos x hn.1
  have h2 : -n < Int.tmod x n := by
    have := Int.neg_tmod x n
    have h3 := Int.tmod_lt_of_pos (-x) hn.1
    omega
  have hw : wrap64 (Int.tmod x n + n) = Int.tmod x n + n := by unfold wrap64; omega
  refine ⟨Int.tmod (Int.tmod x n + n) n, ?_, Int.tmod_nonneg _ (by omega), Int.tmod_lt_of_pos _ hn.1⟩
  rw [abugidaref01_Mod.f, if_neg (by omega), hw]
/-- l2: neighbours of one level stand as they should. -/
theorem once_l2 (l pl : List Int) (hl : l.length ≤ 60) (hp : pl.length = l.length) (hlv : ∀ x ∈ l, 0 ≤ x ∧ x < 10) (hpl : ∀ x ∈ pl, 0 ≤ x ∧ x < 60)
    (h : ∀ i, i + 1 < l.length → rd l (i : Int) = rd l ((i : Int) + 1) → rd pl ((i : Int) + 1) = rd pl (i : Int) + 1 - 2 * Int.tmod (rd l ((i : Int) + 1)) 2) :
    ∀ (d i : Nat), i + 1 + d = l.length ∨ (l.length = 0 ∧ i = 0) → Ev (fun k => abugidalaw07_OrderOnce.l2 k true l pl ((i + 1 : Nat) : Int)) true
  | d, i, hi => by
    by_cases hlt : i + 1 < l.length
    · obtain ⟨d, rfl⟩ : ∃ e, d = e + 1 := ⟨d - 1, by omega⟩
      have hn := once_l2 l pl hl hp hlv hpl h d (i + 1) (by omega)
      have e1 : wrap64 (((i + 1 : Nat) : Int) - 1) = (i : Int) := by unfold wrap64; omega
      have e2 : wrap64 (((i + 1 : Nat) : Int) + 1) = ((i + 1 + 1 : Nat) : Int) := w64n (i + 1) (by omega)
      have e3 : ((i + 1 : Nat) : Int) = (i : Int) + 1 := by omega
      refine Ev.step (fun k => by simp only [abugidalaw07_OrderOnce.l2, e1, e2, if_pos (show ((i + 1 : Nat) : Int) < (l.length : Int) by omega), if_pos (show (0 : Int) ≤ (i : Int) by omega), if_pos (show (i : Int) < (l.length : Int) by omega), if_pos (show (0 : Int) ≤ ((i + 1 : Nat) : Int) by omega), if_pos (show ((i + 1 : Nat) : Int) < (pl.length : Int) by omega), if_pos (show (i : Int) < (pl.length : Int) by omega)]; rfl) ?_
      by_cases he : rd l (i : Int) = rd l ((i + 1 : Nat) : Int)
      · have hh := h i hlt (by rw [← e3]; exact he)
        rw [← e3] at hh
        have hm1 : ∀ (xs : List Int) (j : Nat), j < xs.length → rd xs (j : Int) ∈ xs := fun xs j hj => by
          unfold rd
          rw [Int.toNat_natCast, List.getD_eq_getElem?_getD, List.getElem?_eq_getElem hj]
          exact List.getElem_mem _
        have b1 := hpl _ (hm1 pl i (by omega))
        have b2 := hlv _ (hm1 l (i + 1) hlt)
        have t1 := Int.tmod_nonneg 2 b2.1
        have t2 := Int.tmod_lt_of_pos (rd l ((i + 1 : Nat) : Int)) (show (0 : Int) < 2 by omega)
        have e4 : wrap64 (wrap64 (rd pl (i : Int) + 1) - wrap64 (2 * Int.tmod (rd l ((i + 1 : Nat) : Int)) 2)) = rd pl (i : Int) + 1 - 2 * Int.tmod (rd l ((i + 1 : Nat) : Int)) 2 := by
          generalize Int.tmod (rd l ((i + 1 : Nat) : Int)) 2 = t at *
          generalize rd pl (i : Int) = q at *
          unfold wrap64
          omega
        refine Ev.congr (fun k => by rw [if_pos he, e4, if_pos hh]) hn
      · exact Ev.congr (fun k => by rw [if_neg he]) hn
    · refine Ev.step (fun k => by simp only [abugidalaw07_OrderOnce.l2, if_neg (show ¬ ((i + 1 : Nat) : Int) < (l.length : Int) by omega)]; rfl) ?_
      exact Ev.now _
theorem rd_at (xs : List Int) (j : Nat) (hj : j < xs.length) : rd xs (j : Int) = xs[j] := by
  unfold rd
  rw [Int.toNat_natCast, List.getD_eq_getElem?_getD, List.getElem?_eq_getElem hj]
  rfl
theorem rd_mem (xs : List Int) (j : Nat) (hj : j < xs.length) : rd xs (j : Int) ∈ xs := by
  rw [rd_at xs j hj]
  exact List.getElem_mem _
theorem rd_set (xs : List Int) (i j : Nat) (u : Int) (hi : i < xs.length) : rd (xs.set i u) (j : Int) = if i = j then u else rd xs (j : Int) := by
  unfold rd
  rw [Int.toNat_natCast, List.getD_eq_getElem?_getD, List.getElem?_set, List.getD_eq_getElem?_getD]
  by_cases h : i = j
  · subst h
    rw [if_pos rfl, if_pos rfl, if_pos hi]
    rfl
  · rw [if_neg h, if_neg h]
theorem sn_set (xs : List Bool) (i j : Nat) (hi : i < xs.length) : rdOf false (xs.set i true) (j : Int) = if i = j then true else rdOf false xs (j : Int) := by
  unfold rdOf
  rw [Int.toNat_natCast, List.getD_eq_getElem?_getD, List.getElem?_set, List.getD_eq_getElem?_getD]
  by_cases h : i = j
  · subst h
    rw [if_pos rfl, if_pos rfl, if_pos hi]
    rfl
  · rw [if_neg h, if_neg h]
/-- l1: each index is seen once; its place is noted. -/
theorem once_l1 (l v : List Int) (hl : l.length ≤ 60) (hlv : ∀ x ∈ l, 0 ≤ x ∧ x < 10) (hv : v.length = l.length) (hr : ∀ x ∈ v, 0 ≤ x ∧ x < (l.length : Int)) (hnd : ∀ i j, i < l.length → j < l.length → rd v (i : Int) = rd v (j : Int) → i = j)
    (h : ∀ pl : List Int, pl.length = l.length → (∀ i : Nat, i < l.length → rd pl (rd v (i : Int)) = (i : Int)) → ∀ i : Nat, i + 1 < l.length → rd l (i : Int) = rd l ((i : Int) + 1) → rd pl ((i : Int) + 1) = rd pl (i : Int) + 1 - 2 * Int.tmod (rd l ((i : Int) + 1)) 2) :
    ∀ (d j : Nat) (pl : List Int) (sn : List Bool), j + d = l.length → pl.length = l.length → sn.length = l.length → (∀ x ∈ pl, 0 ≤ x ∧ x < 60) → (∀ i : Nat, i < j → rd pl (rd v (i : Int)) = (i : Int)) → (∀ y : Nat, rdOf false sn (y : Int) = true → ∃ i : Nat, i < j ∧ rd v (i : Int) = (y : Int)) →
    Ev (fun k => abugidalaw07_OrderOnce.l1 k true l pl sn v (v.length : Int) (j : Int)) true
  | 0, j, pl, sn, hj, h1, h2, h3, h4, h5 => by
    refine Ev.step (fun k => by simp only [abugidalaw07_OrderOnce.l1, if_neg (show ¬ (j : Int) < (v.length : Int) by omega)]; rfl) ?_
    have h6 := once_l2 l pl hl h1 hlv h3 (h pl h1 (fun i hi => h4 i (by omega))) (l.length - 1) 0 (by omega)
    exact h6
  | d + 1, j, pl, sn, hj, h1, h2, h3, h4, h5 => by
    have hjl : j < v.length := by omega
    have hx := hr _ (rd_mem v j hjl)
    obtain ⟨y, hy⟩ := Int.eq_ofNat_of_zero_le hx.1
    have hns : ¬ rdOf false sn (y : Int) = true := fun he => by
      obtain ⟨i, hi, he2⟩ := h5 y he
      have := hnd i j (by omega) (by omega) (by rw [he2, hy])
      omega
    have hn := once_l1 l v hl hlv hv hr hnd h d (j + 1) (pl.set y (j : Int)) (sn.set y true) (by omega) (by rw [List.length_set]; exact h1) (by rw [List.length_set]; exact h2)
      (fun x hx2 => by
        rcases List.mem_or_eq_of_mem_set hx2 with hm | rfl
        · exact h3 x hm
        · omega)
      (fun i hi => by
        have hxi := hr _ (rd_mem v i (by omega))
        obtain ⟨z, hz⟩ := Int.eq_ofNat_of_zero_le hxi.1
        rw [hz]
        show rd (pl.set y (j : Int)) (z : Int) = (i : Int)
        rw [rd_set pl y z _ (by omega)]
        by_cases he : y = z
        · rw [if_pos he]
          have := hnd i j (by omega) (by omega) (by rw [hz, hy, he])
          omega
        · rw [if_neg he]
          have hne : i ≠ j := fun e => by
            rw [e, hy] at hz
            injection hz with hz
            exact he hz
          have h6 := h4 i (by omega)
          rw [hz] at h6
          exact h6)
      (fun z hz => by
        rw [sn_set sn y z (by omega)] at hz
        by_cases he : y = z
        · exact ⟨j, by omega, by rw [hy, he]⟩
        · rw [if_neg he] at hz
          obtain ⟨i, hi, h6⟩ := h5 z hz
          exact ⟨i, by omega, h6⟩)
    have hx1 : ¬ rd v (j : Int) < 0 := by omega
    have hx2 : ¬ rd v (j : Int) ≥ (l.length : Int) := by omega
    have hx3 : rd v (j : Int) < (sn.length : Int) := by omega
    have hx4 : rd v (j : Int) < (pl.length : Int) := by omega
    have hx5 : ¬ rdOf false sn (rd v (j : Int)) = true := by rw [hy]; exact hns
    have hty : (rd v (j : Int)).toNat = y := by rw [hy]; exact Int.toNat_natCast y
    refine Ev.step (fun k => by simp only [abugidalaw07_OrderOnce.l1, if_pos (show (j : Int) < (v.length : Int) by omega), if_pos (show (0 : Int) ≤ (j : Int) by omega), if_neg hx1, if_neg hx2, if_pos hx.1, if_pos hx3, if_neg hx5, if_pos hx4, hty, w64n j (by omega)]; rfl) ?_
    exact hn
theorem once_l0 (l0 : List Int) (hl : l0.length ≤ 60) : ∀ (d j : Nat) (xs : List Int), j + d = l0.length → xs.length = j → (∀ x ∈ xs, 0 ≤ x ∧ x < 10) →
    Ev (fun k => abugidalaw07_OrderOnce.l0 k true xs l0 (l0.length : Int) (j : Int)) true
  | 0, j, xs, hj, h1, h2 => by
    have hlen : xs.length ≤ 60 := by omega
    have hvl : (visF xs).length = xs.length := (visN_ok xs 9).1
    have hvr : ∀ x ∈ visF xs, 0 ≤ x ∧ x < (xs.length : Int) := (visN_ok xs 9).2
    have hperm := visN_perm xs 9
    have hnd : (visF xs).Nodup := hperm.nodup_iff.mpr (by
      refine List.pairwise_map.mpr (List.Pairwise.imp ?_ List.nodup_range)
      intro a b hab he
      exact hab (by omega))
    refine Ev.step (fun k => by simp only [abugidalaw07_OrderOnce.l0, if_neg (show ¬ (j : Int) < (l0.length : Int) by omega), order_Visual.f, if_pos (show xs.length ≤ 1000000 by omega), Option.bind_some, if_pos (show ((visF xs).length : Int) = (xs.length : Int) by omega), if_pos (show (0 : Int) ≤ (xs.length : Int) by omega), Int.toNat_natCast, if_pos (show xs.length ≤ 35184372088832 by omega), if_pos (show xs.length ≤ 281474976710656 by omega)]; rfl) ?_
    refine once_l1 xs (visF xs) hlen h2 hvl hvr ?_ ?_ xs.length 0 (List.replicate xs.length 0) (List.replicate xs.length false) (by omega) (by simp) (by simp) (fun x hx => by rw [List.eq_of_mem_replicate hx]; omega) (fun i hi => by omega) (fun y hy => by
      unfold rdOf at hy
      rw [List.getD_eq_getElem?_getD, List.getElem?_replicate] at hy
      split at hy <;> simp at hy)
    · intro a b ha hb hab
      rw [rd_at _ a (by omega), rd_at _ b (by omega)] at hab
      rcases Nat.lt_trichotomy a b with h | h | h
      · exact absurd hab (List.pairwise_iff_getElem.mp hnd a b _ _ h)
      · exact h
      · exact absurd hab.symm (List.pairwise_iff_getElem.mp hnd b a _ _ h)
    · intro pl hpl hpp i hi he
      have hb := h2 _ (rd_mem xs i (by omega))
      obtain ⟨L, hL⟩ := Int.eq_ofNat_of_zero_le hb.1
      have hL9 : L ≤ 9 := by omega
      have hn := visF_nxt xs i hi L hL9 hL (by rw [← he]; exact hL)
      have key : ∀ (p q : Int), Nxt (visF xs) p q → rd pl q = rd pl p + 1 := fun p q hpq => by
        obtain ⟨a, b, hab⟩ := hpq
        have hal : a.length + 1 < (visF xs).length := by rw [hab]; simp
        have e1 : rd (visF xs) (a.length : Int) = p := by unfold rd; rw [hab, Int.toNat_natCast]; simp
        have e2 : rd (visF xs) ((a.length + 1 : Nat) : Int) = q := by unfold rd; rw [hab, Int.toNat_natCast]; simp
        have f1 := hpp a.length (by omega)
        have f2 := hpp (a.length + 1) (by omega)
        rw [e1] at f1
        rw [e2] at f2
        omega
      rw [← he, hL]
      have ht : Int.tmod (L : Int) 2 = ((L % 2 : Nat) : Int) := by
        rw [Int.tmod_eq_emod_of_nonneg (by omega)]
        omega
      rw [ht]
      split at hn
      · have := key _ _ hn
        omega
      · have := key _ _ hn
        omega
  | d + 1, j, xs, hj, h1, h2 => by
    obtain ⟨r, hr, hr0, hr1⟩ := mod_some (rd l0 (j : Int)) 10 (by omega)
    have hn := once_l0 l0 hl d (j + 1) (xs ++ [r]) (by omega) (by simp [h1]) (fun x hx => by
      rcases List.mem_append.mp hx with hx | hx
      · exact h2 x hx
      · rw [List.mem_singleton.mp hx]; exact ⟨hr0, hr1⟩)
    refine Ev.step (fun k => by simp only [abugidalaw07_OrderOnce.l0, if_pos (show (j : Int) < (l0.length : Int) by omega), if_pos (show (0 : Int) ≤ (j : Int) by omega), hr, Option.bind_some, if_pos (show xs.length < 17592186044416 by omega), w64n j (by omega)]; rfl) ?_
    exact hn
theorem OrderOnce : abugidalaw07_OrderOnce.Pure := by
  intro l0 hm hb hw
  refine Ev.rounds ?_
  refine Ev.bind (g := fun k => abugidalaw07_sanity.f k) ev_sane ?_
  obtain ⟨n, hn, hn6, hnl⟩ : ∃ n : Nat, mn (l0.length : Int) 60 = (n : Int) ∧ n ≤ 60 ∧ n ≤ l0.length := by
    unfold mn
    split
    · exact ⟨60, rfl, Nat.le_refl _, by omega⟩
    · exact ⟨l0.length, rfl, by omega, Nat.le_refl _⟩
  have hlt : (l0.take n).length = n := by rw [List.length_take]; omega
  have h := once_l0 (l0.take n) (by omega) n 0 [] (by omega) rfl (fun x hx => by cases hx)
  refine Ev.congr (fun k => ?_) h
  rw [hn, if_pos (by omega), if_pos (by omega), Int.toNat_natCast]
  rfl
end Go.Proofs.Ytacnckneiklgpaa.Pure
