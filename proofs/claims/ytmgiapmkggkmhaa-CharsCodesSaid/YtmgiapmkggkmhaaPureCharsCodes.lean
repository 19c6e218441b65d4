/- CharsCodes: the characters of a script are those of the reference. For every script. -/
import Derived.Test.YtmgiapmkggkmhaaQx7
import Derived.Test.YtmgiapmkggkmhaaPlainC
namespace Go.Proofs.Ytmgiapmkggkmhaa.Pure
open Go.RowKit Go.Proofs.Ytmgiapmkggkmhaa.Q Go.Proofs.Ytmgiapmkggkmhaa.Plain Go.Proofs.YtmgiapmkggkmhaaW.PrintWords Go.Proofs.YtmgiapmkggkmhaaW.PrintLast

/-- A list held against itself. -/
theorem codes_l1 (up : Bool) (i : Int) (L : List Int) (p q : Int) (hL : L.length ≤ 256) (r : Option Bool) (d : Nat) : ∀ (k : Nat) (j : Int), 0 ≤ j → j + d = L.length → 600 + d < k →
    (∀ m, 600 ≤ m → abugidalaw05_CharsCodes.l0 m up (wrap64 (i + 1)) p q = r) → abugidalaw05_CharsCodes.l1 k up i L L j p q = r := by
  induction d with
  | zero =>
    intro k j h0 h1 hk hr
    obtain ⟨k, rfl⟩ : ∃ m, k = m + 1 := ⟨k - 1, by omega⟩
    simp only [abugidalaw05_CharsCodes.l1]; rw [if_neg (by omega)]; exact hr k (by omega)
  | succ d ih =>
    intro k j h0 h1 hk hr
    obtain ⟨k, rfl⟩ : ∃ m, k = m + 1 := ⟨k - 1, by omega⟩
    have hlt : j < (L.length : Int) := by omega
    simp only [abugidalaw05_CharsCodes.l1]
    rw [if_pos hlt, if_pos h0, if_pos hlt, if_pos trivial, w64_small _ (by omega) (by omega)]
    exact ih k (j + 1) (by omega) (by omega) (by omega) hr

theorem codes_l0 (p q : Int) : ∀ m, 600 ≤ m → abugidalaw05_CharsCodes.l0 m true (wrap64 (1 + 1)) p q = some true := by
  intro m hm
  obtain ⟨k, rfl⟩ : ∃ k, m = k + 1 := ⟨m - 1, by omega⟩
  rw [show wrap64 (1 + 1) = 2 by decide +kernel]
  unfold abugidalaw05_CharsCodes.l0
  rw [if_neg (by decide)]

theorem codes_l0_1 (p q : Int) : ∀ m, 900 ≤ m → abugidalaw05_CharsCodes.l0 m true (wrap64 (0 + 1)) p q = some true := by
  intro m hm
  obtain ⟨k, rfl⟩ : ∃ k, m = k + 1 := ⟨m - 1, by omega⟩
  rw [show wrap64 (0 + 1) = 1 by decide +kernel]
  obtain ⟨e1, e2⟩ := codes_eq q k (by omega)
  have hl := tail_length q 0
  unfold abugidalaw05_CharsCodes.l0
  rw [if_pos (by decide), if_neg (by decide), if_pos rfl, e1, e2]
  simp only [Option.bind_some]
  rw [if_pos trivial]
  exact codes_l1 true 1 _ p q (by omega) _ _ k 0 (by omega) (Int.zero_add _) (by omega) (codes_l0 p q)

theorem CharsCodes : abugidalaw05_CharsCodes.Pure := by
  intro n _
  refine ⟨2000, ?_⟩
  have hs : abugidalaw05_sanity.f 700 = some true := by decide +kernel
  have hs := at_rounds abugidalaw05_sanity.mono (show 700 ≤ 2000 by omega) hs
  unfold abugidalaw05_CharsCodes.f
  rw [hs, and3]
  simp only [Option.bind_some]
  obtain ⟨e1, e2⟩ := codes_eq n 1999 (by omega)
  have hl := tail_length n 0
  show abugidalaw05_CharsCodes.l0 (1999 + 1) true 0 n (n % 4) = some true
  unfold abugidalaw05_CharsCodes.l0
  rw [if_pos (by decide), if_pos rfl, e1, e2]
  simp only [Option.bind_some]
  rw [if_pos trivial]
  have key : ∀ (d k : Nat) (j : Int), 0 ≤ j → j + d = (tail n 0).length → 900 + d < k → abugidalaw05_CharsCodes.l1 k true 0 (tail n 0) (tail n 0) j n (n % 4) = some true := by
    intro d
    induction d with
    | zero =>
      intro k j h0 h1 hk
      obtain ⟨k, rfl⟩ : ∃ m, k = m + 1 := ⟨k - 1, by omega⟩
      simp only [abugidalaw05_CharsCodes.l1]; rw [if_neg (by omega)]; exact codes_l0_1 n _ k (by omega)
    | succ d ih =>
      intro k j h0 h1 hk
      obtain ⟨k, rfl⟩ : ∃ m, k = m + 1 := ⟨k - 1, by omega⟩
      have hlt : j < ((tail n 0).length : Int) := by omega
      simp only [abugidalaw05_CharsCodes.l1]
      rw [if_pos hlt, if_pos h0, if_pos hlt, if_pos trivial, w64_small _ (by omega) (by omega)]
      exact ih k (j + 1) (by omega) (by omega) (by omega)
  exact key (tail n 0).length 1999 0 (by omega) (Int.zero_add _) (by omega)

end Go.Proofs.Ytmgiapmkggkmhaa.Pure
