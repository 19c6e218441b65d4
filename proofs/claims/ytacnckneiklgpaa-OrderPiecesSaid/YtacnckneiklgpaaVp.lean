/- Plain laws of Visual: it is a permutation; neighbours of one level stay neighbours. -/
import Derived.Test.YtacnckneiklgpaaVs
namespace Go.Proofs.Ytacnckneiklgpaa.Q
open Go.Proofs.YtacnckneiklgpaaW.PrintWords
set_option linter.unusedSimpArgs false
set_option linter.unusedVariables false
section
variable {β : Type} [DecidableEq β]
/-- The pieces of a list with one value of f. -/
def grp (f : Int → β) : List Int → List (List Int)
  | [] => []
  | x :: r => match grp f r with
    | [] => [[x]]
    | g :: gs => if f (g.headD 0) = f x then (x :: g) :: gs else [x] :: g :: gs
def toP (f : Int → β) : Nat → List (List Int) → List (Nat × Nat × β)
  | _, [] => []
  | off, g :: gs => (off, off + g.length, f (g.headD 0)) :: toP f (off + g.length) gs
theorem grp_ok (f : Int → β) : ∀ l, (∀ g ∈ grp f l, g ≠ [] ∧ ∀ y ∈ g, f y = f (g.headD 0)) ∧ (grp f l).flatten = l
  | [] => ⟨fun g h => by simp [grp] at h, rfl⟩
  | x :: r => by
    obtain ⟨h1, h2⟩ := grp_ok f r
    simp only [grp]
    cases hg : grp f r with
    | nil =>
      rw [hg] at h2
      simp at h2
      subst h2
      exact ⟨fun g h => by simp at h; subst h; simp, rfl⟩
    | cons g gs =>
      rw [hg] at h1 h2
      dsimp only
      split
      · rename_i he
        refine ⟨fun q hq => ?_, by simp at h2 ⊢; exact h2⟩
        rcases List.mem_cons.mp hq with rfl | hq
        · refine ⟨by simp, fun y hy => ?_⟩
          rcases List.mem_cons.mp hy with rfl | hy
          · rfl
          · exact ((h1 g List.mem_cons_self).2 y hy).trans he
        · exact h1 q (List.mem_cons_of_mem _ hq)
      · refine ⟨fun q hq => ?_, by simp at h2 ⊢; exact h2⟩
        rcases List.mem_cons.mp hq with rfl | hq
        · exact ⟨by simp, fun y hy => by rw [List.mem_singleton.mp hy]; rfl⟩
        · exact h1 q hq
theorem pcs_grp (f : Int → β) : ∀ (l : List Int) (off : Nat), pcs f off l = toP f off (grp f l)
  | [], _ => rfl
  | x :: r, off => by
    have ih := pcs_grp f r (off + 1)
    simp only [pcs, grp]
    rw [ih]
    cases hg : grp f r with
    | nil => rfl
    | cons g gs =>
      dsimp only [toP]
      by_cases he : f (g.headD 0) = f x
      · rw [if_pos he, if_pos he]
        simp only [toP, List.length_cons, List.headD_cons]
        rw [show off + 1 + g.length = off + (g.length + 1) by omega]
      · rw [if_neg he, if_neg he]
        simp only [toP, List.length_cons, List.length_nil, List.headD_cons]
        skip
theorem grp_pair (f : Int → β) (i j : Int) (hf : f i = f j) (v : List Int) : ∀ u, ∃ g ∈ grp f (u ++ i :: j :: v), ∃ a b, g = a ++ i :: j :: b
  | [] => by
    have h := grp_ok f (j :: v)
    rw [List.nil_append, grp]
    cases hg : grp f (j :: v) with
    | nil => rw [hg] at h; simp at h
    | cons g gs =>
      rw [hg] at h
      obtain ⟨h1, h2⟩ := h
      have hne := (h1 g List.mem_cons_self).1
      obtain ⟨y, g', rfl⟩ := List.exists_cons_of_ne_nil hne
      simp only [List.flatten_cons, List.cons_append, List.cons.injEq] at h2
      obtain ⟨rfl, _⟩ := h2
      dsimp only
      rw [if_pos (show f ((y :: g').headD 0) = f i from hf.symm)]
      exact ⟨_, List.mem_cons_self, [], g', rfl⟩
  | x :: u => by
    obtain ⟨g, hg, a, b, hab⟩ := grp_pair f i j hf v u
    rw [List.cons_append, grp]
    cases hq : grp f (u ++ i :: j :: v) with
    | nil => rw [hq] at hg; cases hg
    | cons q qs =>
      rw [hq] at hg
      dsimp only
      split
      · rcases List.mem_cons.mp hg with rfl | hg
        · exact ⟨_, List.mem_cons_self, x :: a, b, by rw [hab]; rfl⟩
        · exact ⟨g, List.mem_cons_of_mem _ hg, a, b, hab⟩
      · exact ⟨g, List.mem_cons_of_mem _ hg, a, b, hab⟩
end
def turnG (f : Int → Bool) (g : List Int) : List Int := if f (g.headD 0) = true then g.reverse else g
theorem revR_mid (pre g rest : List Int) : revR (pre ++ g ++ rest) pre.length (pre.length + g.length) = pre ++ g.reverse ++ rest := by
  unfold revR
  have h1 : (pre ++ g ++ rest).take pre.length = pre := by rw [List.append_assoc, List.take_left']; rfl
  have h2 : (pre ++ g ++ rest).take (pre.length + g.length) = pre ++ g := by rw [← List.length_append, List.take_left']; rfl
  have h3 : (pre ++ g ++ rest).drop (pre.length + g.length) = rest := by rw [← List.length_append, List.drop_left']; rfl
  have h4 : (pre ++ g).drop pre.length = g := by rw [List.drop_left']; rfl
  rw [h1, h2, h3, h4]
theorem fold_toP (f : Int → Bool) : ∀ (gs : List (List Int)) (pre : List Int), (toP f pre.length gs).foldl revP (pre ++ gs.flatten) = pre ++ (gs.map (turnG f)).flatten
  | [], pre => rfl
  | g :: gs, pre => by
    simp only [toP, List.foldl_cons, List.flatten_cons, List.map_cons]
    have hr : revP (pre ++ (g ++ gs.flatten)) (pre.length, pre.length + g.length, f (g.headD 0)) = (pre ++ turnG f g) ++ gs.flatten := by
      unfold revP turnG
      dsimp only
      split
      · rw [← List.append_assoc, revR_mid]
      · rw [List.append_assoc]
    have hl : (pre ++ turnG f g).length = pre.length + g.length := by
      unfold turnG
      rw [List.length_append]
      split
      · rw [List.length_reverse]
      · rfl
    rw [hr, ← hl, fold_toP f gs (pre ++ turnG f g), List.append_assoc]
theorem visStep_grp (levels : List Int) (m : Nat) (out : List Int) : visStep levels m out = ((grp (geP levels (m : Int)) out).map (turnG (geP levels (m : Int)))).flatten := by
  have h := fold_toP (geP levels (m : Int)) (grp (geP levels (m : Int)) out) []
  rw [List.nil_append, (grp_ok _ out).2, List.nil_append] at h
  unfold visStep
  rw [pcs_grp]
  exact h
theorem turnG_perm (f : Int → Bool) (g : List Int) : (turnG f g).Perm g := by
  unfold turnG
  split
  · exact List.reverse_perm g
  · exact List.Perm.refl g
theorem turn_perm (f : Int → Bool) : ∀ gs : List (List Int), ((gs.map (turnG f)).flatten).Perm gs.flatten
  | [] => List.Perm.refl _
  | g :: gs => by
    simp only [List.map_cons, List.flatten_cons]
    exact (turnG_perm f g).append (turn_perm f gs)
theorem visN_perm (levels : List Int) : ∀ k, (visN levels k).Perm ((List.range levels.length).map (fun (i : Nat) => (i : Int)))
  | 0 => List.Perm.refl _
  | k + 1 => by
    rw [visN, visStep_grp]
    refine (turn_perm _ _).trans ?_
    rw [(grp_ok _ _).2]
    exact visN_perm levels k
/-- i stands next before j. -/
def Nxt (v : List Int) (i j : Int) : Prop := ∃ a b, v = a ++ i :: j :: b
theorem Nxt.flat {gs : List (List Int)} {g : List Int} {i j : Int} (hg : g ∈ gs) (h : Nxt g i j) : Nxt gs.flatten i j := by
  obtain ⟨a, b, rfl⟩ := h
  obtain ⟨s, t, rfl⟩ := List.append_of_mem hg
  exact ⟨s.flatten ++ a, b ++ t.flatten, by simp⟩
theorem Nxt.rev {g : List Int} {i j : Int} (h : Nxt g i j) : Nxt g.reverse j i := by
  obtain ⟨a, b, rfl⟩ := h
  exact ⟨b.reverse, a.reverse, by simp⟩
theorem visStep_nxt (levels : List Int) (m : Nat) (out : List Int) (i j : Int) (hf : geP levels (m : Int) i = geP levels (m : Int) j) (h : Nxt out i j) :
    if geP levels (m : Int) i = true then Nxt (visStep levels m out) j i else Nxt (visStep levels m out) i j := by
  obtain ⟨u, v, rfl⟩ := h
  obtain ⟨g, hg, a, b, hab⟩ := grp_pair (geP levels (m : Int)) i j hf v u
  have hok := (grp_ok (geP levels (m : Int)) (u ++ i :: j :: v)).1 g hg
  have hi : geP levels (m : Int) (g.headD 0) = geP levels (m : Int) i := (hok.2 i (by rw [hab]; simp)).symm
  have hm : turnG (geP levels (m : Int)) g ∈ (grp (geP levels (m : Int)) (u ++ i :: j :: v)).map (turnG (geP levels (m : Int))) := List.mem_map_of_mem hg
  rw [visStep_grp]
  split
  · rename_i ht
    refine Nxt.flat hm ?_
    rw [turnG, if_pos (by rw [hi]; exact ht)]
    exact Nxt.rev ⟨a, b, hab⟩
  · rename_i ht
    refine Nxt.flat hm ?_
    rw [turnG, if_neg (by rw [hi]; exact ht)]
    exact ⟨a, b, hab⟩
/-- Neighbours of one level L: turned as often as levels up to L have been gone through. -/
theorem visN_nxt (levels : List Int) (i : Nat) (hi : i + 1 < levels.length) (L : Nat) (hL : L ≤ 9) (h1 : rd levels (i : Int) = (L : Int)) (h2 : rd levels ((i : Int) + 1) = (L : Int)) :
    ∀ k, k ≤ 9 → if (k - (9 - L)) % 2 = 0 then Nxt (visN levels k) (i : Int) ((i : Int) + 1) else Nxt (visN levels k) ((i : Int) + 1) (i : Int)
  | 0, _ => by
    rw [if_pos (by omega)]
    refine ⟨(List.range i).map (fun (i : Nat) => (i : Int)), ((List.range' (i + 2) (levels.length - (i + 2)))).map (fun (i : Nat) => (i : Int)), ?_⟩
    rw [visN]
    have e : List.range levels.length = List.range i ++ i :: (i + 1) :: List.range' (i + 2) (levels.length - (i + 2)) := by
      rw [List.range_eq_range', List.range_eq_range']
      have h3 : List.range' 0 levels.length = List.range' 0 i ++ List.range' i (levels.length - i) := by
        have := List.range'_append (s := 0) (m := i) (n := levels.length - i) (step := 1)
        simp at this
        rw [show i + (levels.length - i) = levels.length by omega] at this
        exact this.symm
      rw [h3, show levels.length - i = (levels.length - (i + 2)) + 1 + 1 by omega, List.range'_succ, List.range'_succ]
    rw [e]
    simp
  | k + 1, hk => by
    have ih := visN_nxt levels i hi L hL h1 h2 k (by omega)
    have g1 : geP levels ((9 - k : Nat) : Int) (i : Int) = decide (9 - k ≤ L) := by unfold geP; rw [h1]; congr 1; simp
    have g2 : geP levels ((9 - k : Nat) : Int) ((i : Int) + 1) = decide (9 - k ≤ L) := by unfold geP; rw [h2]; congr 1; simp
    rw [visN]
    by_cases hp : (k - (9 - L)) % 2 = 0
    · rw [if_pos hp] at ih
      have h := visStep_nxt levels (9 - k) _ _ _ (g1.trans g2.symm) ih
      rw [g1] at h
      by_cases hle : 9 - k ≤ L
      · rw [if_pos (by simpa using hle)] at h
        rw [if_neg (by omega)]
        exact h
      · rw [if_neg (by simpa using hle)] at h
        rw [if_pos (by omega)]
        exact h
    · rw [if_neg hp] at ih
      have h := visStep_nxt levels (9 - k) _ _ _ (g2.trans g1.symm) ih
      rw [g2] at h
      by_cases hle : 9 - k ≤ L
      · rw [if_pos (by simpa using hle)] at h
        rw [if_pos (by omega)]
        exact h
      · omega
theorem visF_nxt (levels : List Int) (i : Nat) (hi : i + 1 < levels.length) (L : Nat) (hL : L ≤ 9) (h1 : rd levels (i : Int) = (L : Int)) (h2 : rd levels ((i : Int) + 1) = (L : Int)) :
    if L % 2 = 0 then Nxt (visF levels) (i : Int) ((i : Int) + 1) else Nxt (visF levels) ((i : Int) + 1) (i : Int) := by
  have h := visN_nxt levels i hi L hL h1 h2 9 (Nat.le_refl _)
  rw [show 9 - (9 - L) = L by omega] at h
  exact h
end Go.Proofs.Ytacnckneiklgpaa.Q
