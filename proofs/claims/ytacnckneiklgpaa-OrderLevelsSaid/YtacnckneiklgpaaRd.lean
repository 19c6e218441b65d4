/- The reference of order, in plain Lean: it tells what the program tells (kinds, directions, levels). -/
import Derived.Test.YtacnckneiklgpaaQx18
import Derived.Test.YtacnckneiklgpaaKq
namespace Go.Proofs.Ytacnckneiklgpaa.Plain
open Go.RowKit Go.Proofs.Ytacnckneiklgpaa.Q Go.Proofs.YtacnckneiklgpaaW.PrintWords Go.Proofs.YtacnckneiklgpaaW.PrintLast
set_option linter.unusedVariables false
set_option linter.unusedSimpArgs false
theorem strong_in5 : (List.range 256).all (fun c => abugidaref05_Strong.f 40 (c : Int) == some (strongP (c : Int))) = true := by decide +kernel
theorem ev_strong5 (s : ByteArray) (i : Int) : Ev (fun k => abugidaref05_Strong.f k (wrap64 (bt s i))) (strongP (bt s i)) := by
  rw [bt255]
  refine Ev.of (abugidaref05_Strong.mono _) (k := 40) ?_
  have hr := bt_range s i
  obtain ⟨c, hc⟩ : ∃ c : Nat, bt s i = (c : Int) := ⟨(bt s i).toNat, by omega⟩
  rw [hc]
  have := List.all_eq_true.mp strong_in5 c (List.mem_range.mpr (by omega))
  simpa using this
theorem ev_rs (s : ByteArray) (i : Nat) (hi : i < s.size) : Ev (fun k => abugidaref07_strong.f k s (i : Int)) (strongP (bt s (i : Int))) := by
  refine Ev.congr (fun k => ?_) (ev_strong5 s (i : Int))
  rw [abugidaref07_strong.f, if_pos (by omega), if_pos (by omega)]
  cases abugidaref05_Strong.f k (wrap64 (bt s (i : Int))) <;> rfl
theorem drop_bt (s : ByteArray) (i : Nat) (hi : i < s.size) : (bytesOf s).drop i = bt s (i : Int) :: (bytesOf s).drop (i + 1) := by
  have hl : i < (bytesOf s).length := by rw [bytesOf_length]; exact hi
  have h := bytes_get s i hi
  rw [List.getElem?_eq_getElem hl] at h
  injection h with h
  rw [List.drop_eq_getElem_cons hl, h]
theorem ev_rbase_l0 (s : ByteArray) (hs : s.size ≤ 1000) : ∀ (d i : Nat), i + d = s.size → Ev (fun k => abugidaref07_Base.l0 k s (i : Int)) (baseL ((bytesOf s).drop i))
  | 0, i, h => by
    refine Ev.step (fun k => by rw [abugidaref07_Base.l0, if_neg (by omega)]) ?_
    rw [List.drop_of_length_le (by rw [bytesOf_length]; omega)]
    exact Ev.now _
  | d + 1, i, h => by
    have ih := ev_rbase_l0 s hs d (i + 1) (by omega)
    have e := ev_rs s i (by omega)
    rw [drop_bt s i (by omega), baseL]
    refine Ev.step (fun k => by rw [abugidaref07_Base.l0, if_pos (by omega), w64 ((i : Int) + 1) (by omega) (by omega)]) ?_
    refine Ev.bind (g := fun k => abugidaref07_strong.f k s (i : Int)) e ?_
    by_cases h1 : strongP (bt s (i : Int)) = 1
    · rw [if_pos (.inl h1)]
      refine Ev.congr (fun k => by rw [if_pos h1]) ?_
      exact Ev.bind (g := fun k => abugidaref07_strong.f k s (i : Int)) e (Ev.now _)
    · refine Ev.congr (fun k => by rw [if_neg h1]) ?_
      refine Ev.bind (g := fun k => abugidaref07_strong.f k s (i : Int)) e ?_
      by_cases h2 : strongP (bt s (i : Int)) = 2
      · rw [if_pos (.inr h2)]
        refine Ev.congr (fun k => by rw [if_pos h2]) ?_
        exact Ev.bind (g := fun k => abugidaref07_strong.f k s (i : Int)) e (Ev.now _)
      · rw [if_neg (by omega)]
        exact Ev.congr (fun k => by rw [if_neg h2]; rfl) ih
theorem ev_rbase (s : ByteArray) (hs : s.size ≤ 1000) : Ev (fun k => abugidaref07_Base.f k s) (baseL (bytesOf s)) := ev_rbase_l0 s hs s.size 0 (Nat.zero_add _)
theorem ev_rright (s : ByteArray) (hs : s.size ≤ 1000) : Ev (fun k => abugidaref07_Right.f k s) (baseL (bytesOf s) == 2) := by
  unfold abugidaref07_Right.f
  exact Ev.bind (g := fun k => abugidaref07_Base.f k s) (ev_rbase s hs) (Ev.now _)
theorem ev_b6_l0 (s : ByteArray) (hs : s.size ≤ 1000) (a b : Nat) (hb : b ≤ s.size) : ∀ (d i : Nat), i + d = b → Ev (fun k => abugidaref06_Base.l0 k s (i : Int) (a : Int) (b : Int)) ((firstB s d i a : Nat) : Int)
  | 0, i, h => by
    refine Ev.step (fun k => by rw [abugidaref06_Base.l0, if_neg (by omega)]) ?_
    exact Ev.now _
  | d + 1, i, h => by
    refine Ev.step (fun k => by rw [abugidaref06_Base.l0, if_pos (by omega), if_pos (by omega), if_pos (by omega), w64 ((i : Int) + 1) (by omega) (by omega)]) ?_
    refine Ev.bind (g := fun k => abugidaref05_Extends.f k (wrap64 (bt s (i : Int)))) (ev_rext s _) ?_
    unfold firstB
    cases he : hext (bt s (i : Int)) with
    | true => exact Ev.congr (fun k => by rw [if_pos rfl]; rfl) (ev_b6_l0 s hs a b hb d (i + 1) (by omega))
    | false =>
      refine Ev.congr (fun k => by rw [if_neg (by decide)]) ?_
      exact Ev.now _
theorem ev_b6 (s : ByteArray) (hs : s.size ≤ 1000) (a b : Nat) (hab : a < b) (hb : b ≤ s.size) : Ev (fun k => abugidaref06_Base.f k s (a : Int) (b : Int)) ((firstB s (b - a) a a : Nat) : Int) := by
  refine Ev.congr (fun k => by rw [abugidaref06_Base.f, if_neg (by omega), if_neg (by omega), decide_eq_false (by omega)]) ?_
  refine Ev.step (fun k => by rw [abugidaref06_Base.j0, if_neg (by decide)]) ?_
  exact ev_b6_l0 s hs a b hb (b - a) a (by omega)
theorem ev_kinds_l1 (s : ByteArray) (L : List S51) (i : Nat) (kd : Int) (b : Nat) (hb1 : b ≤ 1000) (hi : i < L.length) (hf : (rd_T51 L (i : Int)).f1 = (b : Int)) (hi2 : i ≤ 1000) (R : List Int) : ∀ (d j : Nat) (acc : List Int), j + d = b → acc.length ≤ j →
    Ev (fun k => abugidaref07_Kinds.l0 k s (acc ++ List.replicate d kd) L ((i + 1 : Nat) : Int)) R → Ev (fun k => abugidaref07_Kinds.l1 k s acc L (i : Int) kd (j : Int)) R
  | 0, j, acc, h, ha, hc => by
    refine Ev.step (fun k => by rw [abugidaref07_Kinds.l1, if_pos (by omega), if_pos (by omega), hf, if_neg (by omega), w64 ((i : Int) + 1) (by omega) (by omega)]) ?_
    rw [List.replicate_zero, List.append_nil] at hc
    exact hc
  | d + 1, j, acc, h, ha, hc => by
    refine Ev.step (fun k => by rw [abugidaref07_Kinds.l1, if_pos (by omega), if_pos (by omega), hf, if_pos (by omega), if_pos (by omega), w64 ((j : Int) + 1) (by omega) (by omega)]) ?_
    refine ev_kinds_l1 s L i kd b hb1 hi hf hi2 R d (j + 1) (acc ++ [kd]) (by omega) (by simp; omega) ?_
    rw [List.append_assoc, List.singleton_append, ← List.replicate_succ]
    exact hc
theorem ev_kinds_l0 (s : ByteArray) (hs : s.size ≤ 1000) (L : List S51) (hL : L.length ≤ 1000) (rest : List S51) : ∀ (pre : List S51) (a : Nat) (acc : List Int), L = pre ++ rest → Cov s s.size a rest → acc.length = a →
    Ev (fun k => abugidaref07_Kinds.l0 k s acc L (pre.length : Int)) (acc ++ kindsL s rest) := by
  induction rest with
  | nil =>
    intro pre a acc hLe hc ha
    have hl : L.length = pre.length := by rw [hLe]; simp
    refine Ev.step (fun k => by rw [abugidaref07_Kinds.l0, if_neg (by omega)]) ?_
    simp only [kindsL, List.flatMap_nil, List.append_nil]
    exact Ev.now _
  | cons sp rest ih =>
    intro pre a acc hLe hcov ha
    obtain ⟨b, e, h1, h2, h3, _, _, h6⟩ := hcov
    have hl : L.length = pre.length + (rest.length + 1) := by rw [hLe]; simp
    have hsp : rd_T51 L (pre.length : Int) = ⟨(a : Int), (b : Int)⟩ := by
      unfold rd_T51
      rw [Int.toNat_natCast, hLe, List.getD_eq_getElem?_getD, List.getElem?_append_right (Nat.le_refl _), Nat.sub_self, e]
      rfl
    have hf := firstB_lt s b a h1 (b - a) a (by omega)
    refine Ev.step (fun k => by rw [abugidaref07_Kinds.l0, if_pos (by omega), if_pos (by omega), hsp]) ?_
    refine Ev.bind (g := fun k => abugidaref06_Base.f k s (a : Int) (b : Int)) (ev_b6 s hs a b h1 h2) ?_
    refine Ev.bind (g := fun k => abugidaref07_strong.f k s ((firstB s (b - a) a a : Nat) : Int)) (ev_rs s _ (by omega)) ?_
    refine ev_kinds_l1 s L pre.length (kindC s a b) b (by omega) (by omega) (by rw [hsp]) (by omega) _ (b - a) a acc (by omega) (by omega) ?_
    have hi := ih (pre ++ [sp]) b (acc ++ List.replicate (b - a) (kindC s a b)) (by rw [hLe]; simp) h6 (by simp [ha]; omega)
    rw [List.append_assoc] at hi
    have e1 : ((pre ++ [sp]).length : Int) = ((pre.length + 1 : Nat) : Int) := by simp
    rw [e1] at hi
    have e2 : kindsL s (sp :: rest) = List.replicate (b - a) (kindC s a b) ++ kindsL s rest := by
      rw [e]
      simp only [kindsL, List.flatMap_cons, Int.toNat_natCast]
    rw [e2]
    exact hi
theorem ev_rkinds (s : ByteArray) (hs : s.size ≤ 1000) : Ev (fun k => abugidaref07_Kinds.f k s) (kindsP s) := by
  unfold abugidaref07_Kinds.f
  refine Ev.bind (g := fun k => abugidaref06_Split.f k s) (ev_split s hs) ?_
  have hl := spans_length s
  have h := ev_kinds_l0 s hs (spans s) (by omega) (spans s) [] 0 [] rfl (cov_spans s) rfl
  rw [List.nil_append] at h
  exact h
abbrev isZ : Int → Bool := fun k => k == 0
theorem fold_skip (b : Int) (n off : Nat) (x : Int) (r : List Int) (o : List Int) (hx : x ≠ 0) : (pcs isZ off (x :: r)).foldl (dirP b n) o = (pcs isZ (off + 1) r).foldl (dirP b n) o := by
  have hf : isZ x = false := by simpa [isZ] using hx
  rw [pcs]
  cases h : pcs isZ (off + 1) r with
  | nil => simp [dirP, hf]
  | cons p ps =>
    dsimp only
    split
    · rename_i hp
      rw [List.foldl_cons, List.foldl_cons]
      simp [dirP, hf, hp]
    · simp [dirP, hf]
theorem runLen_get (v : Bool) : ∀ (l : List Int) (j : Nat), j < runLen isZ v l → isZ (l.getD j 0) = v
  | [], j, h => absurd h (Nat.not_lt_zero _)
  | x :: r, j, h => by
    unfold runLen at h
    by_cases hx : isZ x = v
    · rw [if_pos hx] at h
      cases j with
      | zero => exact hx
      | succ j => exact runLen_get v r j (by omega)
    · rw [if_neg hx] at h
      exact absurd h (Nat.not_lt_zero _)
theorem runLen_end (v : Bool) : ∀ (l : List Int), runLen isZ v l < l.length → isZ (l.getD (runLen isZ v l) 0) ≠ v
  | [], h => absurd h (Nat.not_lt_zero _)
  | x :: r, h => by
    by_cases hx : isZ x = v
    · simp only [runLen, if_pos hx, List.length_cons] at h ⊢
      rw [List.getD_cons_succ]
      exact runLen_end v r (by omega)
    · simp only [runLen, if_neg hx]
      exact hx
theorem fillR_get (o : List Int) (a e : Nat) (d : Int) (h1 : a ≤ e) (h2 : e ≤ o.length) (j : Nat) : (fillR o a e d).getD j 0 = if a ≤ j ∧ j < e then d else o.getD j 0 := by
  unfold fillR
  simp only [List.getD_eq_getElem?_getD]
  by_cases c1 : j < a
  · rw [if_neg (by omega), List.append_assoc, List.getElem?_append_left (by rw [List.length_take]; omega), List.getElem?_take_of_lt c1]
  · by_cases c2 : j < e
    · rw [if_pos (by omega), List.append_assoc, List.getElem?_append_right (by rw [List.length_take]; omega), List.length_take, Nat.min_eq_left (by omega), List.getElem?_append_left (by rw [List.length_replicate]; omega), List.getElem?_replicate, if_pos (by omega)]
      rfl
    · rw [if_neg (by omega), List.getElem?_append_right (by rw [List.length_append, List.length_take, List.length_replicate]; omega), List.length_append, List.length_take, List.length_replicate, List.getElem?_drop]
      congr 2
      omega
theorem drop_cons (ks : List Int) (off : Nat) (h : off < ks.length) : ks.drop off = ks.getD off 0 :: ks.drop (off + 1) := by
  rw [List.drop_eq_getElem_cons h, List.getD_eq_getElem?_getD, List.getElem?_eq_getElem h]
  rfl
theorem fold_agree (b : Int) (ks : List Int) : ∀ (d off : Nat) (o p : List Int), ks.length ≤ off + d → o.length = ks.length → p.length = ks.length →
    (∀ j, j < ks.length → (j < off ∨ ks.getD j 0 ≠ 0) → o.getD j 0 = p.getD j 0) →
    (pcs isZ off (ks.drop off)).foldl (dirP b ks.length) o = (pcs isZ off (ks.drop off)).foldl (dirP b ks.length) p := by
  intro d
  induction d with
  | zero =>
    intro off o p h ho hp ha
    rw [List.drop_of_length_le (by omega)]
    simp only [pcs, List.foldl_nil]
    refine List.ext_getElem (by omega) (fun j h1 h2 => ?_)
    have := ha j (by omega) (.inl (by omega))
    rwa [List.getD_eq_getElem?_getD, List.getD_eq_getElem?_getD, List.getElem?_eq_getElem h1, List.getElem?_eq_getElem h2] at this
  | succ d ih =>
    intro off o p h ho hp ha
    by_cases hend : off < ks.length
    · rw [drop_cons ks off hend]
      by_cases hx : ks.getD off 0 = 0
      · rw [pcs_step, List.drop_drop]
        have hz : isZ (ks.getD off 0) = true := by rw [hx]; rfl
        rw [hz]
        have hl := runLen_le isZ true (ks.drop (off + 1))
        rw [List.length_drop] at hl
        have hee := runLen_end true (ks.drop (off + 1))
        generalize hm : runLen isZ true (ks.drop (off + 1)) = m at *
        rw [show off + 1 + m = off + 1 + m from rfl, List.foldl_cons, List.foldl_cons]
        have hb : befD b o off = befD b p off := by
          unfold befD
          split
          · exact ha _ (by omega) (.inl (by omega))
          · rfl
        have haf : aftD b ks.length o (off + 1 + m) = aftD b ks.length p (off + 1 + m) := by
          unfold aftD
          split
          · rename_i hlt
            refine ha _ hlt (.inr ?_)
            have := hee (by rw [List.length_drop]; omega)
            rw [List.getD_eq_getElem?_getD, List.getElem?_drop] at this
            simpa [isZ] using this
          · rfl
        simp only [dirP, if_pos, hb, haf]
        refine ih (off + 1 + m) _ _ (by omega) (by rw [fillR_length] <;> omega) (by rw [fillR_length] <;> omega) (fun j h1 h2 => ?_)
        rw [fillR_get _ _ _ _ (by omega) (by omega), fillR_get _ _ _ _ (by omega) (by omega)]
        split
        · rfl
        · exact ha j h1 (by omega)
      · rw [fold_skip _ _ _ _ _ _ hx, fold_skip _ _ _ _ _ _ hx]
        exact ih (off + 1) o p (by omega) ho hp (fun j h1 h2 => ha j h1 (by
          by_cases e : j = off
          · exact .inr (e ▸ hx)
          · rcases h2 with h2 | h2
            · exact .inl (by omega)
            · exact .inr h2))
    · exact ih off o p (by omega) ho hp ha
/-- What the reference's first loop leaves: the last strong kind, but 0 at neutral places. -/
def refL : Int → List Int → List Int
  | _, [] => []
  | b, k :: r => (if k ≠ 0 then updL b k else 0) :: refL (updL b k) r
theorem refL_length : ∀ (l : List Int) (b : Int), (refL b l).length = l.length
  | [], _ => rfl
  | k :: r, b => by simp only [refL, List.length_cons, refL_length r]
theorem refL_get : ∀ (l : List Int) (b : Int) (j : Nat), j < l.length → l.getD j 0 ≠ 0 → (refL b l).getD j 0 = (lastL b l).getD j 0
  | [], _, _, h, _ => absurd h (Nat.not_lt_zero _)
  | k :: r, b, 0, _, h => by
    simp only [refL, lastL, List.getD_cons_zero] at h ⊢
    rw [if_pos h]
  | k :: r, b, j + 1, h1, h => by
    simp only [refL, lastL, List.getD_cons_succ] at h ⊢
    exact refL_get r _ j (by simpa using h1) h
theorem fold_ref (b : Int) (ks : List Int) : (pcs isZ 0 ks).foldl (dirP b ks.length) (refL b ks) = (pcs isZ 0 ks).foldl (dirP b ks.length) (lastL b ks) := by
  have h := fold_agree b ks ks.length 0 (refL b ks) (lastL b ks) (by omega) (refL_length _ _) (lastL_length _ _) (fun j h1 h2 => refL_get ks b j h1 (by omega))
  rwa [List.drop_zero] at h
theorem rd_nat (l : List Int) (i : Nat) : rd l (i : Int) = l.getD i 0 := by
  unfold rd
  rw [Int.toNat_natCast]
section
variable (s : ByteArray) (ks : List Int) (hk : ks.length ≤ 1000) (b : Int)
include hk
theorem ev_dir_l0 (R : List Int) : ∀ (d i : Nat) (last : Int) (pre : List Int), i + d = ks.length → pre.length = i →
    Ev (fun k => abugidaref07_Directions.l1 k s ks b (pre ++ refL last (ks.drop i)) 0) R →
    Ev (fun k => abugidaref07_Directions.l0 k s ks b (pre ++ List.replicate d 0) last (i : Int)) R := by
  intro d
  induction d with
  | zero =>
    intro i last pre h hp hc
    rw [List.drop_of_length_le (by omega)] at hc
    refine Ev.step (fun k => by rw [abugidaref07_Directions.l0, if_neg (by omega)]) ?_
    exact hc
  | succ d ih =>
    intro i last pre h hp hc
    rw [drop_cons ks i (by omega), refL] at hc
    have hset : ∀ u : Int, (pre ++ List.replicate (d + 1) (0 : Int)).set i u = (pre ++ [u]) ++ List.replicate d 0 := fun u => set_at pre i (d + 1) d hp rfl
    have hl : ((pre ++ List.replicate (d + 1) (0 : Int)).length : Int) = (ks.length : Int) := by
      rw [List.length_append, List.length_replicate]; omega
    have hskip : pre ++ List.replicate (d + 1) (0 : Int) = (pre ++ [0]) ++ List.replicate d 0 := by
      rw [List.append_assoc, List.singleton_append, ← List.replicate_succ]
    have ih2 := fun (u last2 : Int) (hc2 : Ev (fun k => abugidaref07_Directions.l1 k s ks b ((pre ++ [u]) ++ refL last2 (ks.drop (i + 1))) 0) R) => ih (i + 1) last2 (pre ++ [u]) (by omega) (by rw [List.length_append, List.length_singleton, hp]) hc2
    have hw : wrap64 ((i : Int) + 1) = ((i + 1 : Nat) : Int) := by rw [w64 _ (by omega) (by omega)]; omega
    have c0 : (i : Int) < (ks.length : Int) := by omega
    have c1 : (0 : Int) ≤ (i : Int) := by omega
    rw [List.append_cons] at hc
    generalize hx : ks.getD i 0 = x at *
    have hr : rd ks (i : Int) = x := by rw [rd_nat, hx]
    by_cases e1 : x = 1
    · refine Ev.step (fun k => by rw [abugidaref07_Directions.l0, if_pos c0, if_pos c1, hr, if_pos e1]) ?_
      refine Ev.step (fun k => by rw [abugidaref07_Directions.j1, if_pos rfl, if_pos c1, if_pos c0, hr, if_neg (by omega), hl, if_pos c0, Int.toNat_natCast, hset, hw]) ?_
      rw [if_pos (show x ≠ 0 by omega), updL, if_pos (show x = 1 ∨ x = 2 from .inl e1)] at hc
      exact ih2 _ _ hc
    · by_cases e2 : x = 2
      · refine Ev.step (fun k => by rw [abugidaref07_Directions.l0, if_pos c0, if_pos c1, hr, if_neg e1, show (x == 2) = true by simp [e2]]) ?_
        refine Ev.step (fun k => by rw [abugidaref07_Directions.j1, if_pos rfl, if_pos c1, if_pos c0, hr, if_neg (by omega), hl, if_pos c0, Int.toNat_natCast, hset, hw]) ?_
        rw [if_pos (show x ≠ 0 by omega), updL, if_pos (show x = 1 ∨ x = 2 from .inr e2)] at hc
        exact ih2 _ _ hc
      · rw [updL, if_neg (show ¬ (x = 1 ∨ x = 2) by omega)] at hc
        refine Ev.step (fun k => by rw [abugidaref07_Directions.l0, if_pos c0, if_pos c1, hr, if_neg e1, show (x == 2) = false by simp [e2]]) ?_
        by_cases e0 : x = 0
        · refine Ev.step (fun k => by rw [abugidaref07_Directions.j1, if_neg (by decide), if_pos c1, if_pos c0, hr, if_pos e0, hw, hskip]) ?_
          rw [if_neg (show ¬ x ≠ 0 by omega)] at hc
          exact ih2 _ _ hc
        · refine Ev.step (fun k => by rw [abugidaref07_Directions.j1, if_neg (by decide), if_pos c1, if_pos c0, hr, if_neg e0, hl, if_pos c0, Int.toNat_natCast, hset, hw]) ?_
          rw [if_pos e0] at hc
          exact ih2 _ _ hc
theorem ev_dir_l3 (R o0 : List Int) (i e : Nat) (bf af : Int) (he : e ≤ ks.length) (ho : o0.length = ks.length)
    (hc : Ev (fun k => abugidaref07_Directions.l1 k s ks b (fillR o0 i e (if bf = af then bf else b)) (e : Int)) R) : ∀ (d j : Nat), j + d = e → i ≤ j → 0 < e →
    Ev (fun k => abugidaref07_Directions.l3 k s ks b (fillR o0 i j (if bf = af then bf else b)) (e : Int) bf af (j : Int)) R := by
  intro d
  induction d with
  | zero =>
    intro j hj hi h0
    obtain rfl : j = e := by omega
    have hw : wrap64 (wrap64 ((j : Int) - 1) + 1) = (j : Int) := by
      rw [w64 ((j : Int) - 1) (by omega) (by omega), w64 _ (by omega) (by omega)]; omega
    refine Ev.step (fun k => by rw [abugidaref07_Directions.l3, if_neg (by omega), hw]) ?_
    exact hc
  | succ d ih =>
    intro j hj hi h0
    have h := ih (j + 1) (by omega) (by omega) h0
    rw [← fillR_step o0 i j _ hi (by omega)] at h
    have hl : ((fillR o0 i j (if bf = af then bf else b)).length : Int) = (ks.length : Int) := by
      rw [fillR_length _ _ _ _ hi (by omega)]; omega
    have c1 : (j : Int) < (e : Int) := by omega
    have c2 : (0 : Int) ≤ (j : Int) := by omega
    have c3 : (j : Int) < (ks.length : Int) := by omega
    have hw : wrap64 ((j : Int) + 1) = ((j + 1 : Nat) : Int) := by rw [w64 _ (by omega) (by omega)]; omega
    refine Ev.step (fun k => by rw [abugidaref07_Directions.l3, if_pos c1, if_pos c2, hl, if_pos c3, Option.bind_some, Int.toNat_natCast, hw]) ?_
    by_cases hb : bf = af
    · simp only [if_pos hb] at h ⊢
      rw [List.set_set]
      exact h
    · simp only [if_neg hb] at h ⊢
      exact h
theorem ev_dir_l2 (R o : List Int) (i : Nat) : ∀ (d e : Nat), e + d = ks.length →
    Ev (fun k => abugidaref07_Directions.j4 k s ks b o (i : Int) ((e + runLen isZ true (ks.drop e) : Nat) : Int)) R →
    Ev (fun k => abugidaref07_Directions.l2 k s ks b o (i : Int) (e : Int)) R := by
  intro d
  induction d with
  | zero =>
    intro e h hc
    rw [List.drop_of_length_le (by omega)] at hc
    refine Ev.step (fun k => by rw [abugidaref07_Directions.l2, if_neg (by omega)]) ?_
    exact hc
  | succ d ih =>
    intro e h hc
    have c0 : (e : Int) < (ks.length : Int) := by omega
    have c1 : (0 : Int) ≤ (e : Int) := by omega
    have hw : wrap64 ((e : Int) + 1) = ((e + 1 : Nat) : Int) := by rw [w64 _ (by omega) (by omega)]; omega
    have h2 := ih (e + 1) (by omega)
    rw [drop_cons ks e (by omega), runLen] at hc
    generalize hx : ks.getD e 0 = x at *
    have hr : rd ks (e : Int) = x := by rw [rd_nat, hx]
    by_cases h0 : x = 0
    · rw [if_pos (show isZ x = true by simp [isZ, h0])] at hc
      refine Ev.step (fun k => by rw [abugidaref07_Directions.l2, if_pos c0, if_pos c1, hr, if_pos h0, hw]) ?_
      refine h2 ?_
      rw [show e + 1 + runLen isZ true (ks.drop (e + 1)) = e + (runLen isZ true (ks.drop (e + 1)) + 1) by omega]
      exact hc
    · rw [if_neg (show ¬ isZ x = true by simp [isZ, h0])] at hc
      refine Ev.step (fun k => by rw [abugidaref07_Directions.l2, if_pos c0, if_pos c1, hr, if_neg h0]) ?_
      exact hc
theorem ev_dir_l1 (R : List Int) : ∀ (d i : Nat) (o : List Int), ks.length ≤ i + d → i ≤ ks.length → o.length = ks.length →
    Ev (fun k => abugidaref07_Directions.l4 k s b ((pcs isZ i (ks.drop i)).foldl (dirP b ks.length) o) 0) R →
    Ev (fun k => abugidaref07_Directions.l1 k s ks b o (i : Int)) R := by
  intro d
  induction d with
  | zero =>
    intro i o h hi ho hc
    rw [List.drop_of_length_le (by omega)] at hc
    refine Ev.step (fun k => by rw [abugidaref07_Directions.l1, if_neg (by omega)]) ?_
    exact hc
  | succ d ih =>
    intro i o h hi ho hc
    by_cases hend : i < ks.length
    · have c0 : (i : Int) < (ks.length : Int) := by omega
      have c1 : (0 : Int) ≤ (i : Int) := by omega
      have hw : wrap64 ((i : Int) + 1) = ((i + 1 : Nat) : Int) := by rw [w64 _ (by omega) (by omega)]; omega
      rw [drop_cons ks i hend] at hc
      by_cases hx : ks.getD i 0 = 0
      · have hr : rd ks (i : Int) = 0 := by rw [rd_nat, hx]
        have hz : isZ (ks.getD i 0) = true := by rw [hx]; rfl
        refine Ev.step (fun k => by rw [abugidaref07_Directions.l1, if_pos c0, if_pos c1, if_pos hr]) ?_
        refine ev_dir_l2 s ks hk b R o i (ks.length - i) i (by omega) ?_
        have hrl : runLen isZ true (ks.drop i) = runLen isZ true (ks.drop (i + 1)) + 1 := by
          rw [drop_cons ks i hend, runLen, if_pos hz]
        rw [hrl]
        rw [pcs_step, List.drop_drop, hz] at hc
        have hl := runLen_le isZ true (ks.drop (i + 1))
        rw [List.length_drop] at hl
        generalize hm : runLen isZ true (ks.drop (i + 1)) = m at *
        rw [show i + (m + 1) = i + 1 + m by omega]
        rw [List.foldl_cons, dirP, if_pos rfl] at hc
        dsimp only at hc
        have c4 : ((i + 1 + m : Nat) : Int) = ((i + 1 + m : Nat) : Int) := rfl
        generalize he : i + 1 + m = e at *
        have hwi : wrap64 ((i : Int) - 1) = (i : Int) - 1 := by
          by_cases h0 : 0 < i
          · exact w64 _ (by omega) (by omega)
          · exact w64 _ (by omega) (by omega)
        have fin : ∀ bf af : Int, bf = befD b o i → af = aftD b ks.length o e → Ev (fun k => abugidaref07_Directions.j6 k s ks b o (i : Int) (e : Int) bf af) R := fun bf af e1 e2 => by
          refine Ev.step (fun k => by rw [abugidaref07_Directions.j6]) ?_
          have hf := fillR_self o i (if bf = af then bf else b)
          rw [← e1, ← e2] at hc
          have h3 := ih e _ (by omega) (by omega) (by rw [fillR_length] <;> omega) hc
          have h4 := ev_dir_l3 s ks hk b R o i e bf af (by omega) ho h3 (e - i) i (by omega) (Nat.le_refl _) (by omega)
          rw [hf] at h4
          exact h4
        have fin5 : ∀ bf : Int, bf = befD b o i → Ev (fun k => abugidaref07_Directions.j5 k s ks b o (i : Int) (e : Int) bf) R := fun bf e1 => by
          by_cases hlt : e < ks.length
          · have q1 : (e : Int) < (ks.length : Int) := by omega
            have q2 : (0 : Int) ≤ (e : Int) := by omega
            have q3 : (e : Int) < (o.length : Int) := by omega
            refine Ev.step (fun k => by rw [abugidaref07_Directions.j5, if_pos q1, if_pos q2, if_pos q3]) ?_
            refine fin _ _ e1 ?_
            rw [aftD, if_pos hlt, rd_nat]
          · have q1 : ¬ (e : Int) < (ks.length : Int) := by omega
            refine Ev.step (fun k => by rw [abugidaref07_Directions.j5, if_neg q1]) ?_
            refine fin _ _ e1 ?_
            rw [aftD, if_neg hlt]
        by_cases h0 : 0 < i
        · have q1 : (i : Int) > 0 := by omega
          have q2 : (0 : Int) ≤ (i : Int) - 1 := by omega
          have q3 : (i : Int) - 1 < (o.length : Int) := by omega
          refine Ev.step (fun k => by rw [abugidaref07_Directions.j4, if_pos q1, hwi, if_pos q2, if_pos q3]) ?_
          refine fin5 _ ?_
          rw [befD, if_pos h0, ← rd_nat]
          congr 1
          omega
        · have q1 : ¬ (i : Int) > 0 := by omega
          refine Ev.step (fun k => by rw [abugidaref07_Directions.j4, if_neg q1]) ?_
          refine fin5 _ ?_
          rw [befD, if_neg h0]
      · rw [fold_skip _ _ _ _ _ _ hx] at hc
        have hr : ¬ rd ks (i : Int) = 0 := by rw [rd_nat]; exact hx
        refine Ev.step (fun k => by rw [abugidaref07_Directions.l1, if_pos c0, if_pos c1, if_neg hr, hw]) ?_
        exact ih (i + 1) o (by omega) (by omega) ho hc
    · exact ih i o (by omega) hi ho hc
end
theorem ev_dir_l4 (s : ByteArray) (hs : s.size ≤ 1000) (b : Int) (ds : List Int) (hd : ds.length = s.size) : ∀ (d i : Nat), i + d = s.size →
    Ev (fun k => abugidaref07_Directions.l4 k s b (lineL b ((bytesOf s).take i) ds) (i : Int)) (lineL b (bytesOf s) ds) := by
  intro d
  induction d with
  | zero =>
    intro i h
    rw [List.take_of_length_le (by rw [bytesOf_length]; omega)]
    refine Ev.step (fun k => by rw [abugidaref07_Directions.l4, if_neg (by omega)]) ?_
    exact Ev.now _
  | succ d ih =>
    intro i h
    have h2 := ih (i + 1) (by omega)
    rw [lineL_step b i (bytesOf s) ds (by rw [bytesOf_length]; omega) (by omega)] at h2
    have hg : (bytesOf s).getD i 0 = bt s (i : Int) := by rw [List.getD_eq_getElem?_getD, bytes_get s i (by omega)]; rfl
    rw [hg] at h2
    have c0 : (i : Int) < (s.size : Int) := by omega
    have c1 : (0 : Int) ≤ (i : Int) := by omega
    have c2 : (i : Int) < ((lineL b ((bytesOf s).take i) ds).length : Int) := by rw [lineL_length]; omega
    have hw : wrap64 ((i : Int) + 1) = ((i + 1 : Nat) : Int) := by rw [w64 _ (by omega) (by omega)]; omega
    refine Ev.step (fun k => by rw [abugidaref07_Directions.l4, if_pos c0, if_pos c1, hw]) ?_
    refine Ev.bind (g := fun k => abugidaref05_Class.f k (wrap64 (bt s (i : Int)))) (ev_rclass s _) ?_
    by_cases hc : hcls (bt s (i : Int)) = 1
    · rw [if_pos (show classP (bt s (i : Int)) = 1 from hc)] at h2
      exact Ev.congr (fun k => by rw [if_pos hc, if_pos c2, Int.toNat_natCast]) h2
    · rw [if_neg (show ¬ classP (bt s (i : Int)) = 1 from hc)] at h2
      exact Ev.congr (fun k => by rw [if_neg hc]) h2
theorem ev_rdirs (s : ByteArray) (hs : s.size ≤ 1000) : Ev (fun k => abugidaref07_Directions.f k s) (dirF (bytesOf s) (kindsP s)) := by
  have hl := kindsP_length s
  unfold abugidaref07_Directions.f
  refine Ev.bind (g := fun k => abugidaref07_Kinds.f k s) (ev_rkinds s hs) ?_
  refine Ev.bind (g := fun k => abugidaref07_Base.f k s) (ev_rbase s hs) ?_
  have c0 : (0 : Int) ≤ ((kindsP s).length : Int) := by omega
  have c1 : ((kindsP s).length : Int).toNat ≤ 35184372088832 := by omega
  refine Ev.congr (fun k => by rw [if_pos c0, if_pos c1, Int.toNat_natCast]) ?_
  refine ev_dir_l0 s (kindsP s) (by omega) (baseL (bytesOf s)) _ (kindsP s).length 0 _ [] (by omega) rfl ?_
  rw [List.nil_append, List.drop_zero]
  refine ev_dir_l1 s (kindsP s) (by omega) _ _ (kindsP s).length 0 _ (by omega) (by omega) (refL_length _ _) ?_
  rw [List.drop_zero, fold_ref]
  have h := ev_dir_l4 s hs (baseL (bytesOf s)) ((pcs isZ 0 (kindsP s)).foldl (dirP (baseL (bytesOf s)) (kindsP s).length) (lastL (baseL (bytesOf s)) (kindsP s))) (by
    have h1 := dirF_length (bytesOf s) (kindsP s)
    unfold dirF at h1
    rw [lineL_length] at h1
    rw [← hl]
    exact h1) s.size 0 (by omega)
  exact h
theorem ev_lev_l0 (ks ds : List Int) (hk : ks.length ≤ 1000) (hd : ds.length = ks.length) (b : Int) : ∀ (d i : Nat) (acc : List Int), i + d = ks.length → acc.length = i →
    Ev (fun k => abugidaref07_Levels.l0 k ks ds b acc (i : Int)) (acc ++ List.zipWith (lev1 b) (ds.drop i) (ks.drop i)) := by
  intro d
  induction d with
  | zero =>
    intro i acc h ha
    rw [List.drop_of_length_le (show ds.length ≤ i by omega), List.zipWith_nil_left, List.append_nil]
    refine Ev.step (fun k => by rw [abugidaref07_Levels.l0, if_neg (by omega)]) ?_
    exact Ev.now _
  | succ d ih =>
    intro i acc h ha
    have c0 : (i : Int) < (ks.length : Int) := by omega
    have c1 : (0 : Int) ≤ (i : Int) := by omega
    have c2 : (i : Int) < (ds.length : Int) := by omega
    have c3 : acc.length < 17592186044416 := by omega
    have hw : wrap64 ((i : Int) + 1) = ((i + 1 : Nat) : Int) := by rw [w64 _ (by omega) (by omega)]; omega
    have h2 := fun u : Int => ih (i + 1) (acc ++ [u]) (by omega) (by rw [List.length_append, List.length_singleton, ha])
    rw [drop_cons ks i (by omega), drop_cons ds i (by omega), List.zipWith_cons_cons, List.append_cons]
    generalize hx : ks.getD i 0 = x at *
    generalize hy : ds.getD i 0 = y at *
    have hr : rd ks (i : Int) = x := by rw [rd_nat, hx]
    have hq : rd ds (i : Int) = y := by rw [rd_nat, hy]
    unfold lev1 at h2 ⊢
    by_cases e2 : y = 2
    · by_cases e3 : x = 3
      · rw [if_pos (by omega)]
        refine Ev.step (fun k => by rw [abugidaref07_Levels.l0, if_pos c0, if_pos c1, if_pos c2, hq, if_pos e2, hr, show (x != 3) = false by simp [e3]]) ?_
        refine Ev.step (fun k => by rw [abugidaref07_Levels.j1, if_neg (by decide), if_pos c1, if_pos c2, hq, if_pos e2, if_pos c0, hr, if_pos e3, if_pos c3, hw]) ?_
        exact h2 2
      · rw [if_neg (by omega), if_pos e2]
        refine Ev.step (fun k => by rw [abugidaref07_Levels.l0, if_pos c0, if_pos c1, if_pos c2, hq, if_pos e2, hr, show (x != 3) = true by simp [e3]]) ?_
        refine Ev.step (fun k => by rw [abugidaref07_Levels.j1, if_pos rfl, if_pos c1, if_pos c2, hq, if_pos e2, if_pos c0, hr, if_neg e3, if_neg (by omega), if_pos c3, hw]) ?_
        exact h2 1
    · refine Ev.step (fun k => by rw [abugidaref07_Levels.l0, if_pos c0, if_pos c1, if_pos c2, hq, if_neg e2]) ?_
      by_cases e1 : y = 1
      · by_cases eb : b = 2
        · rw [if_pos (by omega)]
          refine Ev.step (fun k => by rw [abugidaref07_Levels.j1, if_neg (by decide), if_pos c1, if_pos c2, hq, if_neg e2, if_pos e1, if_pos eb, if_pos c3, hw]) ?_
          exact h2 2
        · rw [if_neg (by omega), if_neg e2]
          refine Ev.step (fun k => by rw [abugidaref07_Levels.j1, if_neg (by decide), if_pos c1, if_pos c2, hq, if_neg e2, if_pos e1, if_neg eb, if_pos c3, hw]) ?_
          exact h2 0
      · rw [if_neg (by omega), if_neg e2]
        refine Ev.step (fun k => by rw [abugidaref07_Levels.j1, if_neg (by decide), if_pos c1, if_pos c2, hq, if_neg e2, if_neg e1, if_pos c3, hw]) ?_
        exact h2 0
theorem ev_rlevels (s : ByteArray) (hs : s.size ≤ 1000) : Ev (fun k => abugidaref07_Levels.f k s) (levF (bytesOf s) (kindsP s)) := by
  have hl := kindsP_length s
  unfold abugidaref07_Levels.f
  refine Ev.bind (g := fun k => abugidaref07_Kinds.f k s) (ev_rkinds s hs) ?_
  refine Ev.bind (g := fun k => abugidaref07_Directions.f k s) (ev_rdirs s hs) ?_
  refine Ev.bind (g := fun k => abugidaref07_Base.f k s) (ev_rbase s hs) ?_
  have h := ev_lev_l0 (kindsP s) (dirF (bytesOf s) (kindsP s)) (by omega) (dirF_length _ _) (baseL (bytesOf s)) (kindsP s).length 0 [] (by omega) rfl
  rw [List.nil_append, List.drop_zero, List.drop_zero] at h
  exact h
end Go.Proofs.Ytacnckneiklgpaa.Plain
