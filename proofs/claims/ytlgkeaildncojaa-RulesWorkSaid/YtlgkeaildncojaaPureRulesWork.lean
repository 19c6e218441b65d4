/- RulesWork, the plain part. -/
import Derived.Test.YtlgkeaildncojaaQx22
namespace Go.Proofs.Ytlgkeaildncojaa.Pure
open Go.RowKit Go.Proofs.Ytlgkeaildncojaa.Q Go.Proofs.YtlgkeaildncojaaW.PrintWords Go.Proofs.YtlgkeaildncojaaW.PrintLast Go.Proofs.YtlgkeaildncojaaW.PrintMore
set_option linter.unusedVariables false
namespace Wk
theorem u8_wf {x : Int} (h : (Lit.int .u8 x).wf = true) : 0 ≤ x ∧ x ≤ 255 := by
  have e1 : IntKind.u8.min = 0 := by decide
  have e2 : IntKind.u8.max = 255 := by decide
  have h2 : (decide (IntKind.u8.min ≤ x) && decide (x ≤ IntKind.u8.max)) = true := h
  rw [Bool.and_eq_true, decide_eq_true_iff, decide_eq_true_iff] at h2
  omega
theorem saneK : ∃ k, abugidalaw16_sanity.f k = some true := ⟨200, by decide +kernel⟩
theorem ev_sane : Ev (fun k => abugidalaw16_sanity.f k) true := by
  obtain ⟨k, h⟩ := saneK
  exact Ev.of abugidalaw16_sanity.mono h
def cc : S60 := ⟨0, 1⟩
def r8 : S49 := ⟨[], [[0]], [], [], [cc, cc, cc]⟩
def rw_ (c g : Int) : S49 := ⟨[], [[c]], [], [g], []⟩
def oneR : List S49 := [rw_ 1 0, rw_ 2 1, rw_ 3 2, rw_ 4 3, rw_ 5 4, rw_ 6 5, rw_ 7 6, r8]
def twoR : List S49 := [rw_ 1 0, rw_ 2 1, rw_ 3 2, rw_ 4 3, rw_ 5 4, rw_ 6 5, rw_ 7 6, rw_ 8 7]
def allR : List S24 := [⟨oneR⟩, ⟨twoR⟩]
theorem getR (n a : Nat) : (List.replicate n z55).getD a z55 = z55 := by
  rw [List.getD_eq_getElem?_getD, List.getElem?_replicate]
  split <;> rfl
theorem m1 (n a : Nat) (ha : a < n) (c : Int) (f3 : List Int) (f4 : List S60) : matchP ⟨[], [[c]], [], f3, f4⟩ (List.replicate n z55) (a : Int) = decide ((0 : Int) = c) := by
  unfold matchP
  have h0 : ¬ ((a : Int) < 0 ∨ (a : Int) ≥ ((List.replicate n z55).length : Int) ∨ ([[c]] : List (List Int)).length = 0 ∨ (a : Int) + (([[c]] : List (List Int)).length : Int) + (([] : List (List Int)).length : Int) > ((List.replicate n z55).length : Int) ∨ (a : Int) < (([] : List (List Int)).length : Int)) := by
    simp only [List.length_replicate, List.length_cons, List.length_nil]
    omega
  rw [if_neg h0]
  simp only [Int.toNat_natCast, inP, backP, aheadP, getR, hasP, List.any_cons, List.any_nil, Bool.or_false, Bool.and_true, if_true]
  by_cases hc : (0 : Int) = c
  · subst hc; rfl
  · rw [decide_eq_false (show ¬ z55.f0 = c from hc), decide_eq_false hc]; rfl
theorem m2 (n a : Nat) (ha : a < n) (c g : Int) : matchP (rw_ c g) (List.replicate n z55) (a : Int) = decide ((0 : Int) = c) := m1 n a ha c _ _
theorem try1 (n a wk : Nat) (ha : a < n) (hw : wk + 8 ≤ 6000) : tryF (List.replicate n z55) (a : Int) oneR wk = (0, some r8, wk + 8) := by
  unfold oneR
  rw [tryF, if_neg (by omega), m2 n a ha, if_neg (by decide), tryF, if_neg (by omega), m2 n a ha, if_neg (by decide), tryF, if_neg (by omega), m2 n a ha, if_neg (by decide), tryF, if_neg (by omega), m2 n a ha, if_neg (by decide), tryF, if_neg (by omega), m2 n a ha, if_neg (by decide), tryF, if_neg (by omega), m2 n a ha, if_neg (by decide), tryF, if_neg (by omega), m2 n a ha, if_neg (by decide), tryF, if_neg (by omega), show matchP r8 (List.replicate n z55) (a : Int) = decide ((0 : Int) = 0) from m1 n a ha 0 _ _, if_pos (by decide)]
theorem try2 (n a wk : Nat) (ha : a < n) (hw : wk + 8 ≤ 6000) : tryF (List.replicate n z55) (a : Int) twoR wk = (0, none, wk + 8) := by
  unfold twoR
  rw [tryF, if_neg (by omega), m2 n a ha, if_neg (by decide), tryF, if_neg (by omega), m2 n a ha, if_neg (by decide), tryF, if_neg (by omega), m2 n a ha, if_neg (by decide), tryF, if_neg (by omega), m2 n a ha, if_neg (by decide), tryF, if_neg (by omega), m2 n a ha, if_neg (by decide), tryF, if_neg (by omega), m2 n a ha, if_neg (by decide), tryF, if_neg (by omega), m2 n a ha, if_neg (by decide), tryF, if_neg (by omega), m2 n a ha, if_neg (by decide), tryF]
theorem try3 (n a : Nat) : tryF (List.replicate n z55) (a : Int) twoR 6000 = (34, none, 6001) := by
  unfold twoR
  rw [tryF, if_pos (by omega)]
theorem call_ok (ap : S49 → Nat → List S55 → Nat → ROut) (n a wk : Nat) (ha : a < n) (hn : n ≤ 200) (hw : wk + 8 ≤ 6000) (cs : List S60) : callsF ap allR a (cc :: cs) ((a : Int) + 1) (List.replicate n z55) wk = callsF ap allR a cs ((a : Int) + 1) (List.replicate n z55) (wk + 8) := by
  have hl : (List.replicate n z55).length = n := List.length_replicate
  rw [callsF, if_pos (by rw [hl]; omega), if_neg (show ¬ (a : Int) + cc.f0 ≥ (a : Int) + 1 by simp only [cc]; omega), show (a : Int) + cc.f0 = (a : Int) by simp only [cc]; omega, show (allR.getD cc.f1.toNat z24).f0 = twoR from rfl, try2 n a wk ha hw]
  rfl
theorem call_no (ap : S49 → Nat → List S55 → Nat → ROut) (n a : Nat) (ha : a < n) (hn : n ≤ 200) (cs : List S60) : callsF ap allR a (cc :: cs) ((a : Int) + 1) (List.replicate n z55) 6000 = some (34, 0, List.replicate n z55, 6001) := by
  have hl : (List.replicate n z55).length = n := List.length_replicate
  rw [callsF, if_pos (by rw [hl]; omega), if_neg (show ¬ (a : Int) + cc.f0 ≥ (a : Int) + 1 by simp only [cc]; omega), show (a : Int) + cc.f0 = (a : Int) by simp only [cc]; omega, show (allR.getD cc.f1.toNat z24).f0 = twoR from rfl, try3 n a]
  rfl
theorem app_ok (d n a wk : Nat) (ha : a < n) (hn : n ≤ 200) (hw : wk + 24 ≤ 6000) : applyF allR (d + 1) r8 a (List.replicate n z55) wk = some (0, (a : Int) + 1, List.replicate n z55, wk + 24) := by
  have hl : (List.replicate n z55).length = n := List.length_replicate
  rw [applyF, if_pos (by rw [hl]; omega), if_neg (show ¬ r8.f4.length = 0 by decide), show r8.f4 = [cc, cc, cc] from rfl, show ((r8.f1.length : Nat) : Int) = 1 from rfl, call_ok _ n a wk ha hn (by omega), call_ok _ n a _ ha hn (by omega), call_ok _ n a _ ha hn (by omega), callsF]
theorem app_no (d n a : Nat) (ha : a < n) (hn : n ≤ 200) : applyF allR (d + 1) r8 a (List.replicate n z55) 5992 = some (34, 0, List.replicate n z55, 6001) := by
  have hl : (List.replicate n z55).length = n := List.length_replicate
  rw [applyF, if_pos (by rw [hl]; omega), if_neg (show ¬ r8.f4.length = 0 by decide), show r8.f4 = [cc, cc, cc] from rfl, show ((r8.f1.length : Nat) : Int) = 1 from rfl, call_ok _ n a 5992 ha hn (by omega), call_no _ n a ha hn]
theorem may1 : mayB [true] 0 = true := by decide
theorem car_step (F n a wk : Nat) (ha : a < n) (hn : n ≤ 200) (hw : wk + 32 ≤ 6000) : carryF allR 0 [true] (F + 2) a (List.replicate n z55) wk = carryF allR 0 [true] (F + 1) (a + 1) (List.replicate n z55) (wk + 32) := by
  have hl : (List.replicate n z55).length = n := List.length_replicate
  rw [carryF, if_pos (by rw [hl]; omega), if_pos (by rw [hl]; exact ha), getR, show z55.f1 = 0 from rfl, if_pos may1, show (allR.getD 0 z24).f0 = oneR from rfl, try1 n a wk ha (by omega)]
  simp only [if_true]
  rw [app_ok F n a (wk + 8) ha hn (by omega)]
  simp only [Option.bind_some, if_true]
  rw [if_pos (by omega), show ((a : Int) + 1).toNat = a + 1 by omega]
theorem car_no (F n a : Nat) (ha : a < n) (hn : n ≤ 200) : carryF allR 0 [true] (F + 2) a (List.replicate n z55) 5984 = some (34, List.replicate n z55, 6001) := by
  have hl : (List.replicate n z55).length = n := List.length_replicate
  rw [carryF, if_pos (by rw [hl]; omega), if_pos (by rw [hl]; exact ha), getR, show z55.f1 = 0 from rfl, if_pos may1, show (allR.getD 0 z24).f0 = oneR from rfl, try1 n a 5984 ha (by omega)]
  simp only [if_true]
  rw [app_no F n a ha hn]
  rfl
theorem car_ok (n : Nat) (hn : n ≤ 187) : ∀ (d a F : Nat), a + d = n → carryF allR 0 [true] (F + d + 1) a (List.replicate n z55) (32 * a) = some (0, List.replicate n z55, 32 * n) := by
  intro d
  induction d with
  | zero =>
    intro a F h
    have hl : (List.replicate n z55).length = n := List.length_replicate
    obtain rfl : a = n := by omega
    rw [carryF, if_pos (by rw [hl]; omega), if_neg (by rw [hl]; omega)]
  | succ d ih =>
    intro a F h
    rw [show F + (d + 1) + 1 = (F + d) + 2 by omega, car_step (F + d) n a (32 * a) (by omega) (by omega) (by omega), show 32 * a + 32 = 32 * (a + 1) by omega]
    exact ih (a + 1) F (by omega)
theorem car_err (n : Nat) (h1 : 187 < n) (h2 : n ≤ 200) : ∀ (d a F : Nat), a + d = 187 → carryF allR 0 [true] (F + d + 2) a (List.replicate n z55) (32 * a) = some (34, List.replicate n z55, 6001) := by
  intro d
  induction d with
  | zero =>
    intro a F h
    obtain rfl : a = 187 := by omega
    exact car_no F n 187 h1 h2
  | succ d ih =>
    intro a F h
    rw [show F + (d + 1) + 2 = (F + d + 1) + 2 by omega, car_step (F + d + 1) n a (32 * a) (by omega) h2 (by omega), show 32 * a + 32 = 32 * (a + 1) by omega]
    exact ih (a + 1) F (by omega)
theorem allR_ok : allP allR.length 0 allR = 0 := by decide +kernel
theorem app_all (n : Nat) (hn : n ≤ 187) : applyO allR 0 (List.replicate n z55) [true] = some (List.replicate n z55, ((32 * n : Nat) : Int), 0) := by
  have hl : (List.replicate n z55).length = n := List.length_replicate
  obtain ⟨F, hF⟩ : ∃ F, 2000000 = F + n + 1 := ⟨2000000 - n - 1, by omega⟩
  have h := car_ok n hn n 0 F (by omega)
  rw [← hF, Nat.mul_zero] at h
  rw [applyO, if_neg (by decide), if_pos allR_ok, if_neg (by rw [hl]; omega), show (0 : Int).toNat = 0 from rfl, h]
  rfl
theorem app_all_err (n : Nat) (h1 : 187 < n) (h2 : n ≤ 200) : applyO allR 0 (List.replicate n z55) [true] = some ([], 0, 34) := by
  have hl : (List.replicate n z55).length = n := List.length_replicate
  obtain ⟨F, hF⟩ : ∃ F, 2000000 = F + 187 + 2 := ⟨1999811, rfl⟩
  have h := car_err n h1 h2 187 0 F (by omega)
  rw [← hF, Nat.mul_zero] at h
  rw [applyO, if_neg (by decide), if_pos allR_ok, if_neg (by rw [hl]; omega), show (0 : Int).toNat = 0 from rfl, h]
  rfl
theorem same_l0 (L : List S55) (hL : L.length ≤ 1000) (d : Nat) : ∀ i : Nat, i + d = L.length → Ev (fun k => abugidaref16_Same.l0 k L L (i : Int)) true := by
  induction d with
  | zero =>
    intro i hi
    refine Ev.step (fun k => by simp only [abugidaref16_Same.l0, if_neg (show ¬ (i : Int) < (L.length : Int) by omega)]; rfl) ?_; exact Ev.now _
  | succ d ih =>
    intro i hi
    have hw : wrap64 ((i : Int) + 1) = ((i + 1 : Nat) : Int) := by rw [wr64 _ (by omega) (by omega)]; omega
    refine Ev.step (fun k => by simp only [abugidaref16_Same.l0, if_pos (show (i : Int) < (L.length : Int) by omega), if_pos (show (0 : Int) ≤ i by omega), beq_self_eq_true, Bool.not_true, Bool.or_self, Bool.false_eq_true, if_false, hw]; rfl) ?_
    exact ih (i + 1) (by omega)
theorem same_ev (L : List S55) (hL : L.length ≤ 1000) : Ev (fun k => abugidaref16_Same.f k L L) true := by
  unfold abugidaref16_Same.f
  simp only [if_true]
  exact same_l0 L hL L.length 0 (Nat.zero_add _)
end Wk
open Wk in
theorem RulesWork : abugidalaw16_RulesWork.Pure := by
  intro a0 h0
  have hb : 0 ≤ a0 ∧ a0 ≤ 255 := by
    exact u8_wf h0
  refine Ev.rounds ?_
  refine Ev.bind (g := fun k => abugidalaw16_sanity.f k) ev_sane ?_
  obtain ⟨n, hn⟩ := Int.eq_ofNat_of_zero_le hb.1
  obtain ⟨m, hm, hm2⟩ : ∃ m : Nat, Int.tmod (wrap64 a0) 201 = (m : Int) ∧ m ≤ 200 := by
    refine ⟨n % 201, ?_, by omega⟩
    rw [wr64 _ (by omega) (by omega), hn, Int.tmod_eq_emod_of_nonneg (by omega)]
    omega
  rw [hm]
  refine Ev.step (fun k => by rw [abugidalaw16_RulesWork.l0, if_pos (by decide +kernel), if_pos (by decide +kernel), if_pos (by decide +kernel), show wrap64 (0 + 1) = 1 by decide +kernel]) ?_
  refine Ev.step (fun k => by rw [abugidalaw16_RulesWork.l0, if_pos (by decide +kernel), if_pos (by decide +kernel), if_pos (by decide +kernel), show wrap64 (1 + 1) = 2 by decide +kernel]) ?_
  refine Ev.step (fun k => by rw [abugidalaw16_RulesWork.l0, if_pos (by decide +kernel), if_pos (by decide +kernel), if_pos (by decide +kernel), show wrap64 (2 + 1) = 3 by decide +kernel]) ?_
  refine Ev.step (fun k => by rw [abugidalaw16_RulesWork.l0, if_pos (by decide +kernel), if_pos (by decide +kernel), if_pos (by decide +kernel), show wrap64 (3 + 1) = 4 by decide +kernel]) ?_
  refine Ev.step (fun k => by rw [abugidalaw16_RulesWork.l0, if_pos (by decide +kernel), if_pos (by decide +kernel), if_pos (by decide +kernel), show wrap64 (4 + 1) = 5 by decide +kernel]) ?_
  refine Ev.step (fun k => by rw [abugidalaw16_RulesWork.l0, if_pos (by decide +kernel), if_pos (by decide +kernel), if_pos (by decide +kernel), show wrap64 (5 + 1) = 6 by decide +kernel]) ?_
  refine Ev.step (fun k => by rw [abugidalaw16_RulesWork.l0, if_pos (by decide +kernel), if_pos (by decide +kernel), if_pos (by decide +kernel), show wrap64 (6 + 1) = 7 by decide +kernel]) ?_
  refine Ev.step (fun k => by rw [abugidalaw16_RulesWork.l0, if_pos (by decide +kernel), if_pos (by decide +kernel), if_pos (by decide +kernel), show wrap64 (7 + 1) = 8 by decide +kernel]) ?_
  have q0 : (0 : Int) ≤ (m : Int) := by omega
  have q1 : ((m : Nat) : Int).toNat ≤ 17592186044416 := by omega
  refine Ev.step (fun k => by rw [abugidalaw16_RulesWork.l0, if_neg (by decide +kernel), if_pos (by decide +kernel), if_pos q0, if_pos q1, Option.bind_some, Int.toNat_natCast, rules_Apply.f]) ?_
  change Ev (fun k => (applyO allR 0 (List.replicate m z55) [true]).bind _) true
  by_cases h187 : m ≤ 187
  · have hw : wrap64 (32 * (m : Int)) = ((32 * m : Nat) : Int) := by rw [wr64 _ (by omega) (by omega)]; omega
    have hl : (List.replicate m z55).length ≤ 1000 := by rw [List.length_replicate]; omega
    refine Ev.congr (fun k => by rw [app_all m h187, Option.bind_some, if_neg (by omega), if_pos rfl, if_pos rfl, if_pos hw.symm]) ?_
    refine Ev.bind (g := fun k => abugidaref16_Same.f k (List.replicate m z55) (List.replicate m z55)) (same_ev _ hl) ?_
    exact Ev.now _
  · refine Ev.congr (fun k => by rw [app_all_err m (by omega) hm2, Option.bind_some, if_pos (by omega), if_pos rfl]) ?_
    exact Ev.now (true)
end Go.Proofs.Ytlgkeaildncojaa.Pure
