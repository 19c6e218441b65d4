/- Plain laws of Visual, for OrderPieces: levels moved by one or two; what stands together is seen together. -/
import Derived.Test.YtacnckneiklgpaaVp
namespace Go.Proofs.Ytacnckneiklgpaa.Q
open Go.Proofs.YtacnckneiklgpaaW.PrintWords
set_option linter.unusedSimpArgs false
set_option linter.unusedVariables false
/-- One step of Visual, by its test alone. -/
def stepF (f : Int → Bool) (l : List Int) : List Int := ((grp f l).map (turnG f)).flatten
theorem visStep_F (levels : List Int) (m : Nat) (out : List Int) : visStep levels m out = stepF (geP levels (m : Int)) out := visStep_grp levels m out
theorem grp_congr {f g : Int → Bool} : ∀ l : List Int, (∀ x ∈ l, f x = g x) → grp f l = grp g l
  | [], _ => rfl
  | x :: r, h => by
    have ih := grp_congr r (fun y hy => h y (List.mem_cons_of_mem _ hy))
    have hok := grp_ok g r
    simp only [grp]
    rw [ih]
    cases hq : grp g r with
    | nil => rfl
    | cons q qs =>
      dsimp only
      rw [hq] at hok
      have hh : q.headD 0 ∈ r := by
        obtain ⟨y, q', rfl⟩ := List.exists_cons_of_ne_nil (hok.1 q List.mem_cons_self).1
        rw [← hok.2]
        simp
      rw [h x List.mem_cons_self, h _ (List.mem_cons_of_mem _ hh)]
theorem stepF_congr {f g : Int → Bool} (l : List Int) (h : ∀ x ∈ l, f x = g x) : stepF f l = stepF g l := by
  unfold stepF
  rw [grp_congr l h]
  congr 1
  refine List.map_congr_left (fun q hq => ?_)
  have hok := grp_ok g l
  have hh : q.headD 0 ∈ l := by
    obtain ⟨y, q', he⟩ := List.exists_cons_of_ne_nil (hok.1 q hq).1
    rw [← hok.2, he]
    exact List.mem_flatten.mpr ⟨q, hq, by rw [he]; simp⟩
  unfold turnG
  rw [h _ hh]
theorem grp_true (f : Int → Bool) (r : List Int) (hr : r = [] ∨ f (r.headD 0) = false) : ∀ (t : List Int), t ≠ [] → (∀ x ∈ t, f x = true) → grp f (t ++ r) = t :: grp f r
  | [], h, _ => absurd rfl h
  | [x], _, h => by
    have hx := h x List.mem_cons_self
    rw [List.singleton_append, grp]
    have hok := grp_ok f r
    cases hq : grp f r with
    | nil => rfl
    | cons q qs =>
      rw [hq] at hok
      dsimp only
      obtain ⟨y, q', rfl⟩ := List.exists_cons_of_ne_nil (hok.1 q List.mem_cons_self).1
      have hy : r.headD 0 = y := by rw [← hok.2]; rfl
      rcases hr with rfl | hr
      · simp [grp] at hq
      · rw [if_neg (by rw [List.headD_cons, hx]; rw [hy] at hr; rw [hr]; decide)]
  | x :: y :: t, _, h => by
    have ih := grp_true f r hr (y :: t) (by simp) (fun z hz => h z (List.mem_cons_of_mem _ hz))
    rw [List.cons_append, grp, ih]
    dsimp only
    rw [if_pos (by rw [List.headD_cons, h x List.mem_cons_self, h y (by simp)])]
theorem stepF_true (f : Int → Bool) (r : List Int) (hr : r = [] ∨ f (r.headD 0) = false) (t : List Int) (h : ∀ x ∈ t, f x = true) : stepF f (t ++ r) = t.reverse ++ stepF f r := by
  cases t with
  | nil => rfl
  | cons x t =>
    unfold stepF
    rw [grp_true f r hr (x :: t) (by simp) h, List.map_cons, List.flatten_cons]
    congr 1
    unfold turnG
    rw [if_pos (by rw [List.headD_cons]; exact h x List.mem_cons_self)]
theorem stepF_false (f : Int → Bool) (x : Int) (r : List Int) (h : f x = false) : stepF f (x :: r) = x :: stepF f r := by
  unfold stepF
  rw [grp]
  cases hq : grp f r with
  | nil => simp [turnG, h]
  | cons q qs =>
    dsimp only
    split
    · rename_i he
      simp only [List.map_cons, List.flatten_cons]
      unfold turnG
      rw [List.headD_cons, if_neg (by rw [h]; decide), if_neg (by rw [he, h]; decide)]
      rfl
    · simp only [List.map_cons, List.flatten_cons]
      rw [show turnG f [x] = [x] from if_neg (by rw [List.headD_cons, h]; decide)]
      rfl
theorem stepF_none (f : Int → Bool) : ∀ l : List Int, (∀ x ∈ l, f x = false) → stepF f l = l
  | [], _ => rfl
  | x :: r, h => by rw [stepF_false f x r (h x List.mem_cons_self), stepF_none f r (fun y hy => h y (List.mem_cons_of_mem _ hy))]
theorem stepF_all (f : Int → Bool) (l : List Int) (h : ∀ x ∈ l, f x = true) : stepF f l = l.reverse := by
  have := stepF_true f [] (.inl rfl) l h
  rw [List.append_nil] at this
  rw [this]
  simp [stepF, grp]
theorem lastD_app (a b : List Int) (hb : b ≠ []) : (a ++ b).getLastD 0 = b.getLastD 0 := by
  rw [List.getLastD_eq_getLast?, List.getLastD_eq_getLast?, List.getLast?_append]
  cases b with
  | nil => exact absurd rfl hb
  | cons x b => simp [List.getLast?_cons]
/-- Where at one side of a cut there is nothing to turn, the parts are turned alone. -/
theorem stepF_cut (f : Int → Bool) (r : List Int) : ∀ (a t : List Int), (∀ x ∈ t, f x = true) → (r = [] ∨ f (r.headD 0) = false ∨ t ++ a = [] ∨ f ((t ++ a).getLastD 0) = false) → stepF f (t ++ a ++ r) = stepF f (t ++ a) ++ stepF f r
  | [], t, ht, h => by
    rw [List.append_nil] at h ⊢
    cases t with
    | nil => simp [stepF, grp]
    | cons x t =>
      have hr : r = [] ∨ f (r.headD 0) = false := by
        rcases h with h | h | h | h
        · exact .inl h
        · exact .inr h
        · cases h
        · exfalso
          have hl : (x :: t).getLastD 0 ∈ x :: t := by
            rw [List.getLastD_eq_getLast?, List.getLast?_eq_some_getLast (by simp)]
            exact List.getLast_mem _
          rw [ht _ hl] at h
          cases h
      rw [stepF_true f r hr _ ht, stepF_all f _ ht]
  | x :: a, t, ht, h => by
    cases hx : f x with
    | true =>
      have ih := stepF_cut f r a (t ++ [x]) (fun y hy => by
        rcases List.mem_append.mp hy with hy | hy
        · exact ht y hy
        · rw [List.mem_singleton.mp hy]; exact hx) (by
          rw [show t ++ [x] ++ a = t ++ x :: a by simp]
          exact h)
      rw [show t ++ [x] ++ a = t ++ x :: a by simp] at ih
      exact ih
    | false =>
      have hh : ∀ q : List Int, x :: q = [] ∨ f ((x :: q).headD 0) = false := fun q => .inr hx
      have ih := stepF_cut f r a [] (fun y hy => by cases hy) (by
        rcases h with h | h | h | h
        · exact .inl h
        · exact .inr (.inl h)
        · simp at h
        · cases a with
          | nil => exact .inr (.inr (.inl rfl))
          | cons y a =>
            refine .inr (.inr (.inr ?_))
            rw [show t ++ x :: y :: a = (t ++ [x]) ++ (y :: a) by simp, lastD_app _ _ (by simp)] at h
            exact h)
      rw [List.nil_append] at ih
      rw [show t ++ x :: a ++ r = t ++ (x :: (a ++ r)) by simp, stepF_true f _ (hh _) t ht, stepF_true f _ (hh _) t ht, stepF_false f x _ hx, stepF_false f x _ hx, ih]
      simp
theorem stepF_last (f : Int → Bool) (a : List Int) (h : a = [] ∨ f (a.getLastD 0) = false) : stepF f a = [] ∧ a = [] ∨ ((stepF f a).getLastD 0 = a.getLastD 0 ∧ stepF f a ≠ []) := by
  rcases List.eq_nil_or_concat a with rfl | ⟨a', z, rfl⟩
  · exact .inl ⟨rfl, rfl⟩
  · right
    rw [List.concat_eq_append] at h ⊢
    have hz : f z = false := by
      rcases h with h | h
      · simp at h
      · rw [lastD_app _ _ (by simp)] at h
        exact h
    have hc := stepF_cut f [z] a' [] (fun y hy => by cases hy) (.inr (.inl hz))
    rw [List.nil_append, stepF_false f z [] hz] at hc
    rw [hc, lastD_app _ _ (by simp), lastD_app _ _ (by simp)]
    exact ⟨rfl, by simp⟩
theorem block_fix (f : Int → Bool) (a B b : List Int) (hB : B ≠ []) (ha : a = [] ∨ f (a.getLastD 0) = false) (hb : b = [] ∨ f (b.headD 0) = false) : stepF f (a ++ B ++ b) = stepF f a ++ stepF f B ++ stepF f b := by
  have h1 := stepF_cut f b (a ++ B) [] (fun y hy => by cases hy) (by
    rcases hb with h | h
    · exact .inl h
    · exact .inr (.inl h))
  have h2 := stepF_cut f B a [] (fun y hy => by cases hy) (by
    rcases ha with h | h
    · exact .inr (.inr (.inl h))
    · exact .inr (.inr (.inr h)))
  rw [List.nil_append] at h1 h2
  rw [h1, h2]
theorem suffix_true (f : Int → Bool) : ∀ a : List Int, ∃ a1 t, a = a1 ++ t ∧ (∀ x ∈ t, f x = true) ∧ (a1 = [] ∨ f (a1.getLastD 0) = false)
  | [] => ⟨[], [], rfl, (fun x h => nomatch h), .inl rfl⟩
  | x :: a => by
    obtain ⟨a1, t, rfl, h1, h2⟩ := suffix_true f a
    cases a1 with
    | nil =>
      cases hx : f x with
      | true => exact ⟨[], x :: t, rfl, (fun y hy => by
          rcases List.mem_cons.mp hy with rfl | hy
          · exact hx
          · exact h1 y hy), .inl rfl⟩
      | false => exact ⟨[x], t, rfl, h1, .inr hx⟩
    | cons y a1 =>
      refine ⟨x :: y :: a1, t, rfl, h1, .inr ?_⟩
      rcases h2 with h2 | h2
      · cases h2
      · rw [show x :: y :: a1 = [x] ++ (y :: a1) from rfl, lastD_app _ _ (by simp)]
        exact h2
theorem prefix_true (f : Int → Bool) : ∀ b : List Int, ∃ t b1, b = t ++ b1 ∧ (∀ x ∈ t, f x = true) ∧ (b1 = [] ∨ f (b1.headD 0) = false)
  | [] => ⟨[], [], rfl, (fun x h => nomatch h), .inl rfl⟩
  | x :: b => by
    cases hx : f x with
    | true =>
      obtain ⟨t, b1, rfl, h1, h2⟩ := prefix_true f b
      exact ⟨x :: t, b1, rfl, (fun y hy => by
        rcases List.mem_cons.mp hy with rfl | hy
        · exact hx
        · exact h1 y hy), h2⟩
    | false => exact ⟨[], x :: b, rfl, (fun y hy => nomatch hy), .inr hx⟩
theorem block_move (f : Int → Bool) (a B b : List Int) (hB : ∀ x ∈ B, f x = true) : ∃ a' b', stepF f (a ++ B ++ b) = a' ++ B.reverse ++ b' := by
  obtain ⟨a1, t1, rfl, h1, h2⟩ := suffix_true f a
  obtain ⟨t2, b1, rfl, h3, h4⟩ := prefix_true f b
  have ht : ∀ x ∈ t1 ++ B ++ t2, f x = true := fun x hx => by
    rcases List.mem_append.mp hx with hx | hx
    · rcases List.mem_append.mp hx with hx | hx
      · exact h1 x hx
      · exact hB x hx
    · exact h3 x hx
  have e : (a1 ++ t1) ++ B ++ (t2 ++ b1) = a1 ++ ((t1 ++ B ++ t2) ++ b1) := by simp
  have hc := stepF_cut f ((t1 ++ B ++ t2) ++ b1) a1 [] (fun y hy => by cases hy) (by
    rcases h2 with h | h
    · exact .inr (.inr (.inl h))
    · exact .inr (.inr (.inr h)))
  rw [List.nil_append] at hc
  rw [e, hc, stepF_true f b1 h4 _ ht]
  exact ⟨stepF f a1 ++ t2.reverse, t1.reverse ++ stepF f b1, by simp⟩
theorem stepF_perm (f : Int → Bool) (l : List Int) : (stepF f l).Perm l := by
  have h := turn_perm f (grp f l)
  rw [(grp_ok f l).2] at h
  exact h
/-- What stands together at levels of n or more is seen together. -/
theorem visN_block (l : List Int) (n : Nat) (i e : Nat) (hie : i < e) (he : e ≤ l.length) (hin : ∀ j : Nat, i ≤ j → j < e → (n : Int) ≤ rd l (j : Int)) (hlo : i = 0 ∨ rd l ((i : Int) - 1) < (n : Int)) (hhi : e = l.length ∨ rd l (e : Int) < (n : Int)) :
    ∀ k, k ≤ 9 → ∃ a B b, visN l k = a ++ B ++ b ∧ B.Perm ((List.range' i (e - i)).map (fun (j : Nat) => (j : Int))) ∧ (n + k ≤ 10 → (a = [] ∨ rd l (a.getLastD 0) < (n : Int)) ∧ (b = [] ∨ rd l (b.headD 0) < (n : Int)))
  | 0, _ => by
    refine ⟨(List.range' 0 i).map (fun (j : Nat) => (j : Int)), (List.range' i (e - i)).map (fun (j : Nat) => (j : Int)), (List.range' e (l.length - e)).map (fun (j : Nat) => (j : Int)), ?_, List.Perm.refl _, fun _ => ⟨?_, ?_⟩⟩
    · rw [visN, ← List.map_append, ← List.map_append, List.range_eq_range']
      congr 1
      have h1 := List.range'_append (s := 0) (m := i) (n := e - i) (step := 1)
      have h2 := List.range'_append (s := 0) (m := e) (n := l.length - e) (step := 1)
      simp at h1 h2
      rw [h1, show i + (e - i) = e by omega, h2, show e + (l.length - e) = l.length by omega]
    · rcases hlo with h | h
      · left; rw [h]; rfl
      · cases i with
        | zero => left; rfl
        | succ i =>
          right
          rw [List.range'_concat, List.map_append, lastD_app _ _ (by simp)]
          simpa using h
    · by_cases hel : e = l.length
      · left; rw [← hel, Nat.sub_self]; rfl
      · right
        have h := hhi.resolve_left hel
        rw [show l.length - e = (l.length - e - 1) + 1 by omega, List.range'_succ]
        simpa using h
  | k + 1, hk => by
    obtain ⟨a, B, b, hv, hp, hab⟩ := visN_block l n i e hie he hin hlo hhi k (by omega)
    have hBn : B ≠ [] := fun h => by
      rw [h] at hp
      have := hp.length_eq
      simp at this
      omega
    have hmem : ∀ x ∈ B, (n : Int) ≤ rd l x := fun x hx => by
      have := hp.mem_iff.mp hx
      obtain ⟨j, hj, rfl⟩ := List.mem_map.mp this
      rw [List.mem_range'_1] at hj
      exact hin j hj.1 (by omega)
    rw [visN, visStep_F, hv]
    by_cases hm : n + (k + 1) ≤ 10
    · obtain ⟨ha, hb⟩ := hab (by omega)
      have hf : ∀ x, rd l x < (n : Int) → geP l ((9 - k : Nat) : Int) x = false := fun x hx => by
        unfold geP
        exact decide_eq_false (by omega)
      have ha2 : a = [] ∨ geP l ((9 - k : Nat) : Int) (a.getLastD 0) = false := ha.imp id (hf _)
      have hb2 : b = [] ∨ geP l ((9 - k : Nat) : Int) (b.headD 0) = false := hb.imp id (hf _)
      rw [block_fix _ a B b hBn ha2 hb2]
      refine ⟨_, _, _, rfl, (stepF_perm _ B).trans hp, fun _ => ⟨?_, ?_⟩⟩
      · rcases stepF_last _ a ha2 with ⟨h1, _⟩ | ⟨h1, _⟩
        · exact .inl h1
        · rw [h1]
          rcases ha with h | h
          · left; rw [h]; rfl
          · exact .inr h
      · rcases hb2 with h | h
        · left; rw [h]; rfl
        · cases b with
          | nil => left; rfl
          | cons z b =>
            rw [List.headD_cons] at h
            rw [stepF_false _ z b h, List.headD_cons]
            rcases hb with h2 | h2
            · cases h2
            · exact .inr h2
    · obtain ⟨a', b', h⟩ := block_move (geP l ((9 - k : Nat) : Int)) a B b (fun x hx => by
        unfold geP
        exact decide_eq_true (by have := hmem x hx; omega))
      exact ⟨a', B.reverse, b', h, (List.reverse_perm B).trans hp, fun h => absurd h hm⟩
theorem rd_lt_mem (xs : List Int) {x : Int} (h0 : 0 ≤ x) (h1 : x < (xs.length : Int)) : rd xs x ∈ xs := by
  obtain ⟨j, rfl⟩ := Int.eq_ofNat_of_zero_le h0
  unfold rd
  have hj : j < xs.length := by omega
  rw [Int.toNat_natCast, List.getD_eq_getElem?_getD, List.getElem?_eq_getElem hj]
  exact List.getElem_mem _
theorem rd_add (l : List Int) (d : Int) {x : Int} (h0 : 0 ≤ x) (h1 : x < (l.length : Int)) : rd (l.map (· + d)) x = rd l x + d := by
  obtain ⟨j, rfl⟩ := Int.eq_ofNat_of_zero_le h0
  unfold rd
  have hj : j < l.length := by omega
  rw [Int.toNat_natCast, List.getD_eq_getElem?_getD, List.getElem?_map, List.getD_eq_getElem?_getD, List.getElem?_eq_getElem hj]
  rfl
theorem visStep_none (l : List Int) (m : Nat) (out : List Int) (h : ∀ x ∈ out, rd l x < (m : Int)) : visStep l m out = out := by
  rw [visStep_F]
  refine stepF_none _ out (fun x hx => ?_)
  unfold geP
  exact decide_eq_false (by have := h x hx; omega)
theorem visStep_all (l : List Int) (m : Nat) (out : List Int) (h : ∀ x ∈ out, (m : Int) ≤ rd l x) : visStep l m out = out.reverse := by
  rw [visStep_F]
  refine stepF_all _ out (fun x hx => ?_)
  unfold geP
  exact decide_eq_true (by have := h x hx; omega)
theorem visN_low (l : List Int) (h8 : ∀ x ∈ l, 0 ≤ x ∧ x < 8) : visN l 2 = visN l 0 := by
  have hlv : ∀ k, ∀ x ∈ visN l k, 0 ≤ rd l x ∧ rd l x < 8 := fun k x hx => by
    have := (visN_ok l k).2 x hx
    exact h8 _ (rd_lt_mem l this.1 this.2)
  have h1 : visN l 1 = visN l 0 := visStep_none l 9 _ (fun x hx => by have := hlv 0 x hx; omega)
  show visStep l 8 (visN l 1) = visN l 0
  rw [h1]
  exact visStep_none l 8 _ (fun x hx => by have := hlv 0 x hx; omega)
theorem visStep_add (l : List Int) (d m q : Nat) (out : List Int) (hq : q = m + d) (h : ∀ x ∈ out, 0 ≤ x ∧ x < (l.length : Int)) : visStep (l.map (· + (d : Int))) q out = visStep l m out := by
  rw [visStep_F, visStep_F]
  refine stepF_congr out (fun x hx => ?_)
  have := h x hx
  unfold geP
  rw [rd_add l d this.1 this.2]
  congr 1
  simp only [eq_iff_iff]
  omega
theorem visN_up1 (l : List Int) (h8 : ∀ x ∈ l, 0 ≤ x ∧ x < 8) : ∀ k, k ≤ 7 → visN (l.map (· + (1 : Int))) (k + 1) = visN l (k + 2)
  | 0, _ => by
    have hid : visN (l.map (· + (1 : Int))) 0 = visN l 0 := by simp [visN]
    rw [visN_low l h8]
    show visStep (l.map (· + (1 : Int))) 9 (visN (l.map (· + (1 : Int))) 0) = visN l 0
    rw [hid]
    refine visStep_none _ _ _ (fun x hx => ?_)
    have h1 := (visN_ok l 0).2 x hx
    rw [rd_add l 1 h1.1 h1.2]
    have := h8 _ (rd_lt_mem l h1.1 h1.2)
    omega
  | k + 1, hk => by
    rw [visN, visN_up1 l h8 k (by omega)]
    show _ = visStep l (9 - (k + 2)) (visN l (k + 2))
    exact visStep_add l 1 _ _ _ (by omega) (visN_ok l (k + 2)).2
theorem visF_up1 (l : List Int) (h8 : ∀ x ∈ l, 0 ≤ x ∧ x < 8) : visF (l.map (· + (1 : Int))) = (visF l).reverse := by
  show visStep (l.map (· + (1 : Int))) 1 (visN (l.map (· + (1 : Int))) 8) = (visN l 9).reverse
  rw [show visN (l.map (· + (1 : Int))) 8 = visN l 9 from visN_up1 l h8 7 (Nat.le_refl _)]
  refine visStep_all _ _ _ (fun x hx => ?_)
  have h1 := (visN_ok l 9).2 x hx
  rw [rd_add l 1 h1.1 h1.2]
  have := h8 _ (rd_lt_mem l h1.1 h1.2)
  omega
theorem visN_up2 (l : List Int) (h8 : ∀ x ∈ l, 0 ≤ x ∧ x < 8) : ∀ k, k ≤ 7 → visN (l.map (· + (2 : Int))) k = visN l (k + 2)
  | 0, _ => by
    rw [visN_low l h8]
    simp [visN]
  | k + 1, hk => by
    rw [visN, visN_up2 l h8 k (by omega)]
    show _ = visStep l (9 - (k + 2)) (visN l (k + 2))
    exact visStep_add l 2 _ _ _ (by omega) (visN_ok l (k + 2)).2
theorem visF_up2 (l : List Int) (h8 : ∀ x ∈ l, 0 ≤ x ∧ x < 8) : visF (l.map (· + (2 : Int))) = visF l := by
  have hge : ∀ x ∈ visN l 9, 2 ≤ rd (l.map (· + (2 : Int))) x := fun x hx => by
    have h1 := (visN_ok l 9).2 x hx
    rw [rd_add l 2 h1.1 h1.2]
    have := h8 _ (rd_lt_mem l h1.1 h1.2)
    omega
  show visStep (l.map (· + (2 : Int))) 1 (visStep (l.map (· + (2 : Int))) 2 (visN (l.map (· + (2 : Int))) 7)) = visN l 9
  rw [show visN (l.map (· + (2 : Int))) 7 = visN l 9 from visN_up2 l h8 7 (Nat.le_refl _)]
  rw [visStep_all _ 2 _ (fun x hx => by have := hge x hx; omega), visStep_all _ 1 _ (fun x hx => by have := hge x (List.mem_reverse.mp hx); omega), List.reverse_reverse]
end Go.Proofs.Ytacnckneiklgpaa.Q
