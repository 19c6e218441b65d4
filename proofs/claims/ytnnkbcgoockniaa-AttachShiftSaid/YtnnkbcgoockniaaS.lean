/- AttachShift, the plain part: anchors of a class, and Hangs, moved by the same amount. -/
import Derived.Test.YtnnkbcgoockniaaH
import Derived.Test.YtnnkbcgoockniaaR
namespace Go.Proofs.Ytnnkbcgoockniaa.Q
open Go.RowKit Go.Shelf Go.Proofs.YtnnkbcgoockniaaW.PrintWords Go.Proofs.YtnnkbcgoockniaaW.PrintLast Go.Proofs.YtnnkbcgoockniaaW.PrintMore
set_option linter.unusedSimpArgs false
set_option linter.unusedVariables false

def sha (c x y : Int) (a : S33) : S33 := if a.f0 = c then ⟨a.f0, a.f1 + x, a.f2 + y⟩ else a
def she (c x y : Int) (e : S35) : S35 := ⟨e.f0, e.f1.map (sha c x y), sha c x y e.f2, e.f3⟩
theorem sha_f0 (c x y : Int) (a : S33) : (sha c x y a).f0 = a.f0 := by unfold sha; split <;> rfl
theorem sha_z (c x y : Int) (hc : c ≠ 0) : sha c x y z33 = z33 := if_neg (fun h => hc h.symm)
theorem she_z (c x y : Int) (hc : c ≠ 0) : she c x y z35 = z35 := by
  unfold she
  rw [show z35.f2 = z33 from rfl, sha_z c x y hc]
  rfl
theorem she_getD (c x y : Int) (hc : c ≠ 0) (l : List S35) (k : Nat) : (l.map (she c x y)).getD k z35 = she c x y (l.getD k z35) := by
  rw [List.getD_eq_getElem?_getD, List.getElem?_map, List.getD_eq_getElem?_getD]
  cases l[k]? with
  | none => exact (she_z c x y hc).symm
  | some e => rfl
theorem backs_she (c x y : Int) (hc : c ≠ 0) (l : List S35) (cl : Int) : ∀ k, backs (l.map (she c x y)) cl k = (backs l cl k).map (fun p => (p.1, sha c x y p.2))
  | 0 => rfl
  | k + 1 => by
    simp only [backs]
    rw [backs_she c x y hc l cl k, she_getD c x y hc, List.map_append, List.map_map]
    congr 1
    show List.map (fun a => (k, a)) (((l.getD k z35).f1.map (sha c x y)).filter (fun a => a.f0 == cl)) = _
    rw [List.filter_map, List.map_map]
    congr 1
    refine List.filter_congr (fun a _ => ?_)
    show ((sha c x y a).f0 == cl) = (a.f0 == cl)
    rw [sha_f0]
theorem backs_cls (l : List S35) (cl : Int) : ∀ k, ∀ p ∈ backs l cl k, p.2.f0 = cl
  | 0, p, h => by simp [backs] at h
  | k + 1, p, h => by
    simp only [backs, List.mem_append, List.mem_map, List.mem_filter] at h
    rcases h with ⟨a, ⟨_, h2⟩, rfl⟩ | h
    · exact beq_iff_eq.mp h2
    · exact backs_cls l cl k p h
theorem place1_she (c x y : Int) (hc : c ≠ 0) (l : List S35) (out : List S37) (pen : Int) (k : Nat) : place1 (l.map (she c x y)) out pen k = place1 l out pen k := by
  unfold place1
  rw [she_getD c x y hc, show (she c x y (l.getD k z35)).f2 = sha c x y (l.getD k z35).f2 from rfl, sha_f0, backs_she c x y hc, List.head?_map]
  split
  · rfl
  · cases hh : (backs l (l.getD k z35).f2.f0 k).head? with
    | none => rfl
    | some p =>
      have hp := backs_cls l _ k p (List.mem_of_mem_head? hh)
      simp only [Option.map_some, sha]
      rw [hp]
      by_cases h : (l.getD k z35).f2.f0 = c
      · simp only [if_pos h]
        congr 1 <;> omega
      · simp only [if_neg h]
theorem placesN_she (c x y : Int) (hc : c ≠ 0) (l : List S35) : ∀ k, placesN (l.map (she c x y)) k = placesN l k
  | 0 => rfl
  | k + 1 => by
    simp only [placesN]
    rw [placesN_she c x y hc l k, place1_she c x y hc]
    simp only [pen1]
    rw [she_getD c x y hc, show (she c x y (l.getD k z35)).f2.f0 = (l.getD k z35).f2.f0 from sha_f0 _ _ _ _]
    rfl
def okB (a : S33) : Prop := (-20 ≤ a.f1 ∧ a.f1 ≤ 40) ∧ (-20 ≤ a.f2 ∧ a.f2 ≤ 40)
theorem made_okB (l : List (List Int)) : ∀ e ∈ madeF l, (∀ a ∈ e.f1, okB a) ∧ okB e.f2 := by
  intro e he
  obtain ⟨s, _, rfl⟩ := List.mem_map.mp he
  refine ⟨fun a ha => (anchorsN_b s _ _ a ha).2, ?_⟩
  simp only [made1]
  split
  · exact (anchor1_b s _).2
  · simp [okB]
theorem sha_far {c x y : Int} {a : S33} (hx : 0 ≤ x ∧ x < 1000) (hy : 0 ≤ y ∧ y < 1000) (h : okB a) : farB (sha c x y a) = false := by
  unfold okB at h
  rw [farB, (smallB_iff _ _).mpr (by unfold sha; split <;> (try dsimp only) <;> omega)]
  rfl
theorem she_right {c x y : Int} (hx : 0 ≤ x ∧ x < 1000) (hy : 0 ≤ y ∧ y < 1000) {e : S35} (h : (∀ a ∈ e.f1, okB a) ∧ okB e.f2) (hr : rightB e = true) : rightB (she c x y e) = true := by
  unfold rightB at hr ⊢
  rw [Bool.and_eq_true, Bool.and_eq_true] at hr
  have h1 : ((she c x y e).f1.any farB) = false := by
    rw [List.any_eq_false]
    intro a ha
    obtain ⟨b, hb, rfl⟩ := List.mem_map.mp ha
    rw [sha_far hx hy (h.1 b hb)]
    simp
  rw [h1, show (she c x y e).f2 = sha c x y e.f2 from rfl, sha_far hx hy h.2, show (she c x y e).f3 = e.f3 from rfl, hr.2.2]
  rfl
theorem placesF_she {c x y : Int} (hc : c ≠ 0) (hx : 0 ≤ x ∧ x < 1000) (hy : 0 ≤ y ∧ y < 1000) (l : List (List Int)) : placesF ((madeF l).map (she c x y)) = placesF (madeF l) := by
  have hl := madeF_len l
  rw [placesF_right (madeF_right l) (by omega), placesF_right (fun e he => ?_) (by rw [List.length_map]; omega), List.length_map, placesN_she c x y hc]
  obtain ⟨e0, h0, rfl⟩ := List.mem_map.mp he
  exact she_right hx hy (made_okB l e0 h0) (madeF_right l e0 h0)
/-- One more of a list is told anew. -/
theorem set_mid {α : Type} (a b : List α) (e e' : α) (k : Nat) (h : a.length = k) : (a ++ e :: b).set k e' = a ++ e' :: b := by
  subst h
  rw [List.set_append_right _ _ (Nat.le_refl _), Nat.sub_self]
  rfl
theorem get_mid {α : Type} (a b : List α) (e z : α) (k : Nat) (h : a.length = k) : (a ++ e :: b).getD k z = e := by
  subst h
  rw [List.getD_eq_getElem?_getD, List.getElem?_append_right (Nat.le_refl _), Nat.sub_self]
  rfl
theorem k35_setX {W : World} {B : Nat} {ok : Nat → Prop} {e : S35} {c : List Value} (h : k35.M W B ok e c) (u : Int) : k35.M W B ok ⟨e.f0, e.f1, ⟨e.f2.f0, u, e.f2.f2⟩, e.f3⟩ (c.take 3 ++ [.int .i64 u] ++ c.drop (3 + 1)) := by
  obtain ⟨v0, v1, rfl, g0, g1⟩ := k35_openM h
  exact k35_mkM W B ok ⟨e.f0, e.f1, ⟨e.f2.f0, u, e.f2.f2⟩, e.f3⟩ g0 g1
theorem k35_setY {W : World} {B : Nat} {ok : Nat → Prop} {e : S35} {c : List Value} (h : k35.M W B ok e c) (u : Int) : k35.M W B ok ⟨e.f0, e.f1, ⟨e.f2.f0, e.f2.f1, u⟩, e.f3⟩ (c.take 4 ++ [.int .i64 u] ++ c.drop (4 + 1)) := by
  obtain ⟨v0, v1, rfl, g0, g1⟩ := k35_openM h
  exact k35_mkM W B ok ⟨e.f0, e.f1, ⟨e.f2.f0, e.f2.f1, u⟩, e.f3⟩ g0 g1
theorem k33_setX {W : World} {B : Nat} {ok : Nat → Prop} {e : S33} {c : List Value} (h : k33.M W B ok e c) (u : Int) : k33.M W B ok ⟨e.f0, u, e.f2⟩ (c.take 1 ++ [.int .i64 u] ++ c.drop (1 + 1)) := by
  obtain rfl := k33_openM h
  exact k33_mkM W B ok ⟨e.f0, u, e.f2⟩
theorem k33_setY {W : World} {B : Nat} {ok : Nat → Prop} {e : S33} {c : List Value} (h : k33.M W B ok e c) (u : Int) : k33.M W B ok ⟨e.f0, e.f1, u⟩ (c.take 2 ++ [.int .i64 u] ++ c.drop (2 + 1)) := by
  obtain rfl := k33_openM h
  exact k33_mkM W B ok ⟨e.f0, e.f1, u⟩
theorem k35_rows {W : World} {B : Nat} {ok : Nat → Prop} {e : S35} {c : List Value} (h : k35.M W B ok e c) : ∃ v, c[1]? = some v ∧ k33.R 33 W B ok v e.f1 := by
  obtain ⟨v0, v1, rfl, g0, g1⟩ := k35_openM h
  exact ⟨v1, rfl, g1⟩
theorem k35_put {W W' : World} {B : Nat} {ok : Nat → Prop} {e : S35} {c : List Value} {v : Value} {ys : List S33} (h : k35.M W B ok e c) (hv : c[1]? = some v) (hR : k33.R 33 W' B ok v ys) (hg : W.grownBy W' v.ownBlock) : k35.M W' B ok ⟨e.f0, ys, e.f2, e.f3⟩ c := by
  obtain ⟨v0, v1, rfl, g0, g1⟩ := k35_openM h
  injection hv with hv
  subst hv
  exact k35_mkM W' B ok ⟨e.f0, ys, e.f2, e.f3⟩ (Kd.R_over' g0 (Kd.R_typed g1) (by decide) hg) hR
/-- The cells of element k. -/
theorem cells35 {W : World} {ad : Addr} {n : Nat} {ys : List S35} (h : k35.C W (some ad) n ys) (k : Nat) (hk : k < n) (e : S35) (he : ys.getD k z35 = e) : ∃ A1 c1, W.cell? ⟨(ad.add (k * 6)).block, (ad.add (k * 6)).off + 1, none⟩ = some (.slice A1 e.f1.length c1) ∧ W.cell? ⟨(ad.add (k * 6)).block, (ad.add (k * 6)).off + 2, none⟩ = some (.int .i64 e.f2.f0) ∧
    W.cell? ⟨(ad.add (k * 6)).block, (ad.add (k * 6)).off + 3, none⟩ = some (.int .i64 e.f2.f1) ∧ W.cell? ⟨(ad.add (k * 6)).block, (ad.add (k * 6)).off + 4, none⟩ = some (.int .i64 e.f2.f2) ∧ e.f1.length ≤ c1 ∧ k33.C W A1 e.f1.length e.f1 := by
  obtain ⟨ad', A0, c0, A1, c1, hA, x0, x1, x2, x3, x4, x5, y0, y1, y2, y3⟩ := at_T35 h (k : Int) (by omega) (by omega)
  injection hA with hA
  subst hA
  rw [show rd_T35 ys (k : Int) = ys.getD k z35 from rfl, Int.toNat_natCast, he] at x1 x2 x3 x4
  rw [show rd_T35 ys (k : Int) = ys.getD k z35 from rfl, he] at y2 y3
  exact ⟨A1, c1, x1, x2, x3, x4, y2, y3⟩
theorem cells33 {W : World} {A : Option Addr} {n : Nat} {ys : List S33} (h : k33.C W A n ys) (k : Nat) (hk : k < n) (e : S33) (he : ys.getD k z33 = e) : ∃ ad, A = some ad ∧ W.cell? (ad.add (k * 3)) = some (.int .i64 e.f0) ∧ W.cell? ⟨(ad.add (k * 3)).block, (ad.add (k * 3)).off + 1, none⟩ = some (.int .i64 e.f1) ∧ W.cell? ⟨(ad.add (k * 3)).block, (ad.add (k * 3)).off + 2, none⟩ = some (.int .i64 e.f2) := by
  obtain ⟨ad, hA, x0, x1, x2⟩ := at_T33 h (k : Int) (by omega) (by omega)
  rw [show rd_T33 ys (k : Int) = ys.getD k z33 from rfl, Int.toNat_natCast, he] at x0 x1 x2
  exact ⟨ad, hA, x0, x1, x2⟩
end Go.Proofs.Ytnnkbcgoockniaa.Q
