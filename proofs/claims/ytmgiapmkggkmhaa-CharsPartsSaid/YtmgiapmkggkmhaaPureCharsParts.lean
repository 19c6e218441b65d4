/- CharsParts: each character is in exactly one script's list, and no other number is in one; the lists increase, and hold characters of their script alone. For every number. -/
import Derived.Test.YtmgiapmkggkmhaaQx8
import Derived.Test.YtmgiapmkggkmhaaPlainC
namespace Go.Proofs.Ytmgiapmkggkmhaa.Pure
open Go.RowKit Go.Proofs.Ytmgiapmkggkmhaa.Q Go.Proofs.Ytmgiapmkggkmhaa.Plain Go.Proofs.YtmgiapmkggkmhaaW.PrintWords Go.Proofs.YtmgiapmkggkmhaaW.PrintLast

theorem rd_drop (L : List Int) (j : Int) (h0 : 0 ≤ j) (h1 : j < L.length) : L.drop j.toNat = rd L j :: L.drop (j.toNat + 1) := by
  rw [List.drop_eq_getElem_cons (by omega)]
  unfold rd
  rw [List.getD_eq_getElem?_getD, List.getElem?_eq_getElem (by omega)]
  rfl

theorem rd_mem (L : List Int) (j : Int) (h0 : 0 ≤ j) (h1 : j < L.length) : rd L j ∈ L := by
  have := rd_drop L j h0 h1
  exact List.mem_of_mem_drop (this ▸ List.mem_cons_self)

theorem rd_lt (L : List Int) (hs : L.Pairwise (· < ·)) (i j : Int) (h0 : 0 ≤ i) (hij : i < j) (h1 : j < L.length) : rd L i < rd L j := by
  unfold rd
  rw [List.getD_eq_getElem?_getD, List.getElem?_eq_getElem (by omega), List.getD_eq_getElem?_getD, List.getElem?_eq_getElem (by omega)]
  exact List.pairwise_iff_getElem.mp hs _ _ _ _ (by omega)

/-- The number that is asked for in round i. -/
def asked (i p q : Int) : Int := if i = 0 then p else q

theorem parts_l2 (up : Bool) (i : Int) (hi : i = 0 ∨ i = 1) (s : Int) (p q : Int) (r : Option Bool) (N : Nat) (hN : 30 ≤ N) (d : Nat) : ∀ (k : Nat) (x6 j : Int), 0 ≤ x6 → x6 ≤ 100000 - d → 0 ≤ j → j + d = (tail s 0).length → N + 2 * d < k →
    (∀ m, N ≤ m → abugidalaw05_CharsParts.l1 m up i (x6 + ((tail s 0).drop j.toNat).count (asked i p q)) (wrap64 (s + 1)) p q = r) → abugidalaw05_CharsParts.l2 k up i x6 s (tail s 0) j p q = r := by
  have hl := tail_length s 0
  induction d with
  | zero =>
    intro k x6 j _ _ h0 h1 hk hr
    obtain ⟨k, rfl⟩ : ∃ m, k = m + 1 := ⟨k - 1, by omega⟩
    have := hr k (by omega)
    rw [List.drop_of_length_le (by omega)] at this
    simp only [abugidalaw05_CharsParts.l2]; rw [if_neg (by omega)]
    rw [List.count_nil] at this
    rw [show x6 + ((0 : Nat) : Int) = x6 by omega] at this
    exact this
  | succ d ih =>
    intro k x6 j g0 g1 h0 h1 hk hr
    obtain ⟨k, rfl⟩ : ∃ m, k = m + 1 + 1 := ⟨k - 2, by omega⟩
    have hlt : j < ((tail s 0).length : Int) := by omega
    obtain ⟨c, hc, hc1, hc2⟩ := tail_mem s _ (rd_mem _ j h0 hlt)
    obtain ⟨_, e20, _, _⟩ := scr_at c hc1
    have e2 := at_rounds (chars_Script.mono _) (show 20 ≤ k + 1 by omega) e20
    have hw : wrap64 (j + 1) = j + 1 := w64_small _ (by omega) (by omega)
    have hx : wrap64 (x6 + 1) = x6 + 1 := w64_small _ (by omega) (by omega)
    have hd := rd_drop _ j h0 hlt
    have hj : (j + 1).toNat = j.toNat + 1 := by omega
    have j3 : abugidalaw05_CharsParts.j3 (k + 1) up i x6 s (tail s 0) j false p q = r := by
      simp only [abugidalaw05_CharsParts.j3, Bool.false_eq_true, if_false, if_pos h0, if_pos hlt]
      have step : ∀ y, asked i p q = y → (if rd (tail s 0) j = y then abugidalaw05_CharsParts.l2 k up i (wrap64 (x6 + 1)) s (tail s 0) (wrap64 (j + 1)) p q else abugidalaw05_CharsParts.l2 k up i x6 s (tail s 0) (wrap64 (j + 1)) p q) = r := by
        intro y hy
        rw [hd, hy] at hr
        rw [hw, hx]
        by_cases e : rd (tail s 0) j = y
        · rw [if_pos e]
          refine ih k (x6 + 1) (j + 1) (by omega) (by omega) (by omega) (by omega) (by omega) (fun m hm => ?_)
          have := hr m hm
          rw [e, List.count_cons_self] at this
          rw [hj, hy, show x6 + 1 + ((List.count y (List.drop (j.toNat + 1) (tail s 0)) : Nat) : Int) = x6 + ((List.count y (List.drop (j.toNat + 1) (tail s 0)) + 1 : Nat) : Int) by omega]
          exact this
        · rw [if_neg e]
          refine ih k x6 (j + 1) (by omega) (by omega) (by omega) (by omega) (by omega) (fun m hm => ?_)
          have := hr m hm
          rw [List.count_cons_of_ne e] at this
          rw [hj, hy]
          exact this
      rcases hi with rfl | rfl
      · rw [if_pos rfl]; exact step p rfl
      · rw [if_neg (by decide), if_pos rfl]; exact step q rfl
    simp only [abugidalaw05_CharsParts.l2]
    rw [if_pos hlt, hc, e2, hc2]
    simp only [Option.bind_some, if_pos h0, bne_self_eq_false]
    by_cases hj0 : j > 0
    · have hw1 : wrap64 (j - 1) = j - 1 := w64_small _ (by omega) (by omega)
      have hlt2 := rd_lt _ (tail_sorted s 0) (j - 1) j (by omega) (by omega) hlt
      rw [hc] at hlt2
      rw [if_pos hj0, hw1, if_pos (by omega), if_pos (by omega), if_neg (by omega)]
      exact j3
    · rw [if_neg hj0]
      exact j3

/-- How often a number stands in all the lists from script s on. -/
def times (n : Int) : Nat := (tail (-1) 0).count n + ((tail 0 0).count n + ((tail 1 0).count n + ((tail 2 0).count n + ((tail 3 0).count n + (tail 4 0).count n))))

theorem times_in : (List.range 256).all (fun c => times (c : Int) == 1) = true := by decide +kernel

theorem times_all (n : Int) : times n = if 0 ≤ n ∧ n < 256 then 1 else 0 := by
  split
  · obtain ⟨c, rfl⟩ : ∃ c : Nat, n = (c : Int) := ⟨n.toNat, by omega⟩
    exact beq_iff_eq.mp (List.all_eq_true.mp times_in c (List.mem_range.mpr (by omega)))
  · have h : ∀ s, (tail s 0).count n = 0 := by
      intro s
      rw [List.count_eq_zero]
      intro hm
      obtain ⟨c, rfl, hc, _⟩ := tail_mem s n hm
      omega
    unfold times
    simp only [h]

theorem parts_step (up : Bool) (i : Int) (hi : i = 0 ∨ i = 1) (s t : Int) (hs : s ≤ 4) (ht : wrap64 (s + 1) = t) (p q : Int) (r : Option Bool) (N : Nat) (hN : 400 ≤ N) (k : Nat) (hk : N + 600 < k) (x6 : Int) (g0 : 0 ≤ x6) (g1 : x6 ≤ 1000)
    (h : ∀ m, N ≤ m → abugidalaw05_CharsParts.l1 m up i (x6 + (tail s 0).count (asked i p q)) t p q = r) : abugidalaw05_CharsParts.l1 k up i x6 s p q = r := by
  obtain ⟨k, rfl⟩ : ∃ m, k = m + 1 := ⟨k - 1, by omega⟩
  have hl := tail_length s 0
  obtain ⟨e1, _⟩ := codes_eq s k (by omega)
  simp only [abugidalaw05_CharsParts.l1]
  rw [if_pos hs, e1]
  simp only [Option.bind_some]
  refine parts_l2 up i hi s p q r N (by omega) (tail s 0).length k x6 0 g0 (by omega) (by omega) (by omega) (by omega) (fun m hm => ?_)
  have := h m hm
  rw [ht]
  exact this

theorem parts_round (i : Int) (hi : i = 0 ∨ i = 1) (p q : Int) (N : Nat) (hN : 400 ≤ N) (k : Nat) (hk : N + 5000 < k) (r : Option Bool)
    (h : ∀ m, N ≤ m → abugidalaw05_CharsParts.l0 m true (wrap64 (i + 1)) p q = r) : abugidalaw05_CharsParts.l0 k true i p q = r := by
  obtain ⟨k, rfl⟩ : ∃ m, k = m + 1 := ⟨k - 1, by omega⟩
  have hone : ∀ s, (tail s 0).count (asked i p q) ≤ 1 := fun s => tail_count s 0 _
  have o1 := hone (-1)
  have o2 := hone 0
  have o3 := hone 1
  have o4 := hone 2
  have o5 := hone 3
  have o6 := hone 4
  simp only [abugidalaw05_CharsParts.l0]
  rw [if_pos (by omega)]
  refine parts_step true i hi (-1) 0 (by omega) (by decide +kernel) p q r (N + 4200) (by omega) k (by omega) 0 (by omega) (by omega) (fun k hk => ?_)
  refine parts_step true i hi 0 1 (by omega) (by decide +kernel) p q r (N + 3500) (by omega) k (by omega) _ (by omega) (by omega) (fun k hk => ?_)
  refine parts_step true i hi 1 2 (by omega) (by decide +kernel) p q r (N + 2800) (by omega) k (by omega) _ (by omega) (by omega) (fun k hk => ?_)
  refine parts_step true i hi 2 3 (by omega) (by decide +kernel) p q r (N + 2100) (by omega) k (by omega) _ (by omega) (by omega) (fun k hk => ?_)
  refine parts_step true i hi 3 4 (by omega) (by decide +kernel) p q r (N + 1400) (by omega) k (by omega) _ (by omega) (by omega) (fun k hk => ?_)
  refine parts_step true i hi 4 5 (by omega) (by decide +kernel) p q r (N + 1) (by omega) k (by omega) _ (by omega) (by omega) (fun k hk => ?_)
  have hx : (0 : Int) + (tail (-1) 0).count (asked i p q) + (tail 0 0).count (asked i p q) + (tail 1 0).count (asked i p q) + (tail 2 0).count (asked i p q) + (tail 3 0).count (asked i p q) + (tail 4 0).count (asked i p q) = (times (asked i p q) : Int) := by
    unfold times; omega
  rw [hx, times_all]
  obtain ⟨k, rfl⟩ : ∃ m, k = m + 1 := ⟨k - 1, by omega⟩
  have hr := h k (by omega)
  simp only [abugidalaw05_CharsParts.l1]
  rw [if_neg (by decide)]
  have last : ∀ y, asked i p q = y → (if y ≥ 0 then (if ((((if 0 ≤ asked i p q ∧ asked i p q < 256 then 1 else 0 : Nat) : Int) == 1) != (decide (y < 256))) = true then (some false) else (if ((if 0 ≤ asked i p q ∧ asked i p q < 256 then 1 else 0 : Nat) : Int) > 1 then (some false) else (abugidalaw05_CharsParts.l0 k true (wrap64 (i + 1)) p q)))
      else (if ((((if 0 ≤ asked i p q ∧ asked i p q < 256 then 1 else 0 : Nat) : Int) == 1) != false) = true then (some false) else (if ((if 0 ≤ asked i p q ∧ asked i p q < 256 then 1 else 0 : Nat) : Int) > 1 then (some false) else (abugidalaw05_CharsParts.l0 k true (wrap64 (i + 1)) p q)))) = r := by
    intro y hy
    rw [hy, hr]
    by_cases h0 : 0 ≤ y
    · rw [if_pos h0]
      by_cases h1 : y < 256
      · have e : (if 0 ≤ y ∧ y < 256 then 1 else 0 : Nat) = 1 := if_pos ⟨h0, h1⟩
        rw [e, decide_eq_true h1]; rfl
      · have e : (if 0 ≤ y ∧ y < 256 then 1 else 0 : Nat) = 0 := if_neg (by omega)
        rw [e, decide_eq_false h1]; rfl
    · have e : (if 0 ≤ y ∧ y < 256 then 1 else 0 : Nat) = 0 := if_neg (by omega)
      rw [if_neg h0, e]; rfl
  rcases hi with rfl | rfl
  · rw [if_pos rfl]; exact last p rfl
  · rw [if_neg (by decide), if_pos rfl]; exact last q rfl

theorem CharsParts : abugidalaw05_CharsParts.Pure := by
  intro n _
  obtain ⟨K, hK⟩ : ∃ K : Nat, 20000 ≤ K := ⟨20000, Nat.le_refl _⟩
  refine ⟨K, ?_⟩
  have hs0 : abugidalaw05_sanity.f 700 = some true := by decide +kernel
  have hs := at_rounds abugidalaw05_sanity.mono (show 700 ≤ K by omega) hs0
  unfold abugidalaw05_CharsParts.f
  rw [hs, and255]
  simp only [Option.bind_some]
  refine parts_round 0 (.inl rfl) n (n % 256) 10000 (by omega) K (by omega) _ (fun m hm => ?_)
  rw [show wrap64 (0 + 1) = 1 by decide +kernel]
  refine parts_round 1 (.inr rfl) n (n % 256) 400 (by omega) m (by omega) _ (fun k hk => ?_)
  rw [show wrap64 (1 + 1) = 2 by decide +kernel]
  obtain ⟨k, rfl⟩ : ∃ m, k = m + 1 := ⟨k - 1, by omega⟩
  simp only [abugidalaw05_CharsParts.l0]
  rw [if_neg (by decide)]

end Go.Proofs.Ytmgiapmkggkmhaa.Pure
