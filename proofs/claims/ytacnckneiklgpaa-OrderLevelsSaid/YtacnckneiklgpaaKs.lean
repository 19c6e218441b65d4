/- order.kinds: cluster by cluster, the kind of the base. -/
import Derived.Test.YtacnckneiklgpaaKn
namespace Go.Proofs.Ytacnckneiklgpaa.Plain
open Go.RowKit Go.Proofs.Ytacnckneiklgpaa.Q Go.Proofs.YtacnckneiklgpaaW.PrintWords Go.Proofs.YtacnckneiklgpaaW.PrintLast
set_option linter.unusedVariables false
set_option linter.unusedSimpArgs false
/-- The place of a cluster's base. -/
def firstB (s : ByteArray) : Nat → Nat → Nat → Nat
  | 0, _, a => a
  | d + 1, i, a => if hext (bt s (i : Int)) = true then firstB s d (i + 1) a else i
theorem firstB_lt (s : ByteArray) (N a : Nat) (ha : a < N) : ∀ (d i : Nat), i + d ≤ N → firstB s d i a < N
  | 0, i, h => ha
  | d + 1, i, h => by
    unfold firstB
    split
    · exact firstB_lt s N a ha d (i + 1) (by omega)
    · omega
theorem leo_up {α : Type} {f : Nat → Option α} (hm : ∀ k, LeO (f k) (f (k + 1))) {k0 : Nat} {v : α} (h : f k0 = some v) : ∀ d, f (k0 + d) = some v
  | 0 => h
  | d + 1 => hm _ _ (leo_up hm h d)
theorem up40 {α : Type} {f : Nat → Option α} (hm : ∀ k, LeO (f k) (f (k + 1))) {v : α} (h : f 40 = some v) (k : Nat) (hk : 40 ≤ k) : f k = some v := by
  obtain ⟨d, rfl⟩ : ∃ d, k = 40 + d := ⟨k - 40, by omega⟩
  exact leo_up hm h d
theorem ext_k (s : ByteArray) (i : Int) (k : Nat) (hk : 40 ≤ k) : chars_Extends.f k (wrap64 (bt s i)) = some (hext (bt s i)) := by
  rw [bt255]
  exact up40 (f := fun k => chars_Extends.f k (bt s i)) (chars_Extends.mono _) (hext_some _) k hk
theorem strong_k (s : ByteArray) (i : Int) (k : Nat) (hk : 40 ≤ k) : chars_Strong.f k (wrap64 (bt s i)) = some (strongP (bt s i)) := by
  rw [bt255]
  have h := bt_range s i
  exact up40 (f := fun k => chars_Strong.f k (bt s i)) (chars_Strong.mono _) (strongP_some h.1 (by omega)) k hk
theorem base_l0 (s : ByteArray) (hs : s.size ≤ 1000) (a b : Nat) (hb : b ≤ s.size) : ∀ (d i k : Nat), i + d = b → d + 41 ≤ k → cluster_Base.l0 k s (i : Int) (a : Int) (b : Int) = some ((firstB s d i a : Nat) : Int)
  | 0, i, k + 1, h, hk => by
    rw [cluster_Base.l0, if_neg (by omega)]
    rfl
  | d + 1, i, k + 1, h, hk => by
    rw [cluster_Base.l0, if_pos (by omega), if_pos (by omega), if_pos (by omega), ext_k s i k (by omega), Option.bind_some, w64 _ (by omega) (by omega)]
    unfold firstB
    split
    · exact base_l0 s hs a b hb d (i + 1) k (by omega) (by omega)
    · rfl
  | d, i, 0, h, hk => by omega
theorem base_k (s : ByteArray) (hs : s.size ≤ 1000) (a b k : Nat) (hab : a < b) (hb : b ≤ s.size) (hk : (b - a) + 42 ≤ k) : cluster_Base.f k s (a : Int) (b : Int) = some ((firstB s (b - a) a a : Nat) : Int) := by
  obtain ⟨k, rfl⟩ : ∃ j, k = j + 1 := ⟨k - 1, by omega⟩
  rw [cluster_Base.f, if_neg (by omega), if_neg (by omega), decide_eq_false (by omega), cluster_Base.j0, if_neg (by decide)]
  exact base_l0 s hs a b hb (b - a) a k (by omega) (by omega)
def kindC (s : ByteArray) (a b : Nat) : Int := strongP (bt s ((firstB s (b - a) a a : Nat) : Int))
def kindsL (s : ByteArray) (l : List S51) : List Int := l.flatMap fun c => List.replicate (c.f1.toNat - c.f0.toNat) (kindC s c.f0.toNat c.f1.toNat)
/-- The kinds of a text's characters. -/
def kindsP (s : ByteArray) : List Int := kindsL s (spans s)
theorem kindsL_length (s : ByteArray) (N : Nat) : ∀ (l : List S51) (a : Nat), Cov s N a l → (kindsL s l).length + a = N
  | [], a, h => by
    have h : a = N := h
    simpa [kindsL] using h
  | sp :: t, a, ⟨b, e, h1, h2, _, _, _, h6⟩ => by
    have ih := kindsL_length s N t b h6
    rw [e]
    simp only [kindsL, List.flatMap_cons, List.length_append, List.length_replicate, Int.toNat_natCast] at ih ⊢
    omega
theorem kindsP_length (s : ByteArray) : (kindsP s).length = s.size := kindsL_length s s.size _ 0 (cov_spans s)
theorem kinds_l1 (s : ByteArray) (kd : Int) (L : List S51) (len i fr : Int) (b : Nat) (hb1 : b ≤ 1000) : ∀ (d j k : Nat) (xs : List Int), j + d = b → b ≤ xs.length → order_kinds.l1 (d + 1 + k) s xs kd (j : Int) L len i fr (b : Int) = order_kinds.l0 k s (fillR xs j b kd) L len (wrap64 (i + 1))
  | 0, j, k, xs, h, hb => by
    rw [show 0 + 1 + k = k + 1 by omega, order_kinds.l1, if_neg (by omega), show j = b by omega, fillR_self]
  | d + 1, j, k, xs, h, hb => by
    rw [show d + 1 + 1 + k = (d + 1 + k) + 1 by omega, order_kinds.l1, if_pos (by omega), if_pos (by omega), if_pos (by omega), w64 _ (by omega) (by omega), Int.toNat_natCast]
    have ih := kinds_l1 s kd L len i fr b hb1 d (j + 1) k (xs.set j kd) (by omega) (by rw [List.length_set]; exact hb)
    refine Eq.trans ih ?_
    congr 1
    unfold fillR
    rw [List.take_set, List.drop_set_of_lt (by omega), List.take_succ_eq_append_getElem (by omega), List.set_append_right _ _ (by rw [List.length_take]; omega), List.length_take, show j - min j xs.length = 0 by omega, show b - j = (b - (j + 1)) + 1 by omega, List.replicate_succ]
    simp
theorem kinds_l0 (s : ByteArray) (hs : s.size ≤ 250) (L : List S51) (hL : L.length ≤ 1000) : ∀ (rest pre : List S51) (a : Nat) (xs : List Int) (k : Nat), L = pre ++ rest → Cov s s.size a rest → xs.length = s.size → (s.size - a) * 3 + 50 ≤ k →
    order_kinds.l0 k s xs L (L.length : Int) (pre.length : Int) = some (xs.take a ++ kindsL s rest)
  | [], pre, a, xs, k, hLe, hc, hx, hk => by
    have hc : a = s.size := hc
    obtain ⟨k, rfl⟩ : ∃ j, k = j + 1 := ⟨k - 1, by omega⟩
    have hl : L.length = pre.length := by rw [hLe]; simp
    rw [order_kinds.l0, if_neg (by omega), List.take_of_length_le (by omega)]
    simp [kindsL]
  | sp :: rest, pre, a, xs, k, hLe, ⟨b, e, h1, h2, h3, _, _, h6⟩, hx, hk => by
    have hl : L.length = pre.length + (rest.length + 1) := by rw [hLe]; simp
    have hsp : rd_T51 L (pre.length : Int) = ⟨(a : Int), (b : Int)⟩ := by
      unfold rd_T51
      rw [Int.toNat_natCast, hLe, List.getD_eq_getElem?_getD, List.getElem?_append_right (Nat.le_refl _), Nat.sub_self, e]
      rfl
    obtain ⟨k', rfl⟩ : ∃ j, k = (b - a) + 1 + j + 1 := ⟨k - (b - a) - 2, by omega⟩
    have hf := firstB_lt s b a h1 (b - a) a (by omega)
    rw [order_kinds.l0, if_pos (by omega), if_pos (by omega), if_pos (by omega), hsp]
    dsimp only
    rw [base_k s (by omega) a b _ h1 h2 (by omega), Option.bind_some, if_pos (by omega), if_pos (by omega), strong_k s _ _ (by omega), Option.bind_some]
    have hi := kinds_l1 s (kindC s a b) L (L.length : Int) (pre.length : Int) (a : Int) b (by omega) (b - a) a k' xs (by omega) (by omega)
    refine Eq.trans hi ?_
    have e1 : wrap64 ((pre.length : Int) + 1) = ((pre ++ [sp]).length : Int) := by
      rw [w64 _ (by omega) (by omega)]
      simp
    rw [e1]
    refine Eq.trans (kinds_l0 s hs L hL rest (pre ++ [sp]) b (fillR xs a b (kindC s a b)) k' (by rw [hLe]; simp) h6 (by rw [fillR_length _ _ _ _ (by omega) (by omega)]; exact hx) (by omega)) ?_
    congr 1
    have e2 : (fillR xs a b (kindC s a b)).take b = xs.take a ++ List.replicate (b - a) (kindC s a b) := by
      unfold fillR
      rw [List.take_left' (by simp only [List.length_append, List.length_take, List.length_replicate]; omega)]
    rw [e2, List.append_assoc, e]
    simp only [kindsL, List.flatMap_cons, Int.toNat_natCast]
theorem kinds_f (s : ByteArray) (hs : s.size ≤ 250) : order_kinds.f 1000 s = some (kindsP s) := by
  have hl := spans_length s
  have h := kinds_l0 s hs (spans s) (by omega) (spans s) [] 0 (List.replicate s.size 0) 1000 rfl (cov_spans s) (by simp) (by omega)
  rw [order_kinds.f, if_pos (by omega), if_pos (by omega), split_spans s (by omega), Option.bind_some, Int.toNat_natCast]
  refine Eq.trans h ?_
  simp [kindsP]
theorem levels_f (s : ByteArray) (hs : s.size ≤ 250) : levelsO s = some (levF (bytesOf s) (kindsP s)) := by
  unfold levelsO
  rw [kinds_f s hs, Option.bind_some, if_pos ⟨(kindsP_length s).symm, by rw [kindsP_length]; omega⟩]
theorem levF_length (s : ByteArray) : (levF (bytesOf s) (kindsP s)).length = s.size := by
  unfold levF
  rw [List.length_zipWith, dirF_length, kindsP_length, Nat.min_self]
/-- A line's end is alone in its cluster. -/
theorem kindsL_line (s : ByteArray) (N : Nat) (i : Nat) (hi : i < N) (h10 : bt s (i : Int) = 10) : ∀ (l : List S51) (a : Nat), Cov s N a l → a ≤ i → (kindsL s l)[i - a]? = some 0
  | [], a, h, hai => by have h : a = N := h; omega
  | sp :: t, a, ⟨b, e, h1, h2, _, h4, h5, h6⟩, hai => by
    have ec : hcls 10 = 1 := by decide +kernel
    have ee : hext 10 = false := by decide +kernel
    have hlen : (List.replicate (b - a) (kindC s a b)).length = b - a := List.length_replicate
    simp only [kindsL, List.flatMap_cons]
    rw [e]
    simp only [Int.toNat_natCast]
    by_cases hib : i < b
    · have ha : a = i := by
        rcases Nat.lt_or_ge a i with h | h
        · have hb := h4 i h hib
          unfold hbegin at hb
          rw [h10, ec, ee] at hb
          simp at hb
        · omega
      subst ha
      have hb1 : b = a + 1 := by
        rcases Nat.lt_or_ge (a + 1) b with h | h
        · have hb := h4 (a + 1) (by omega) h
          unfold hbegin at hb
          rw [show ((a + 1 : Nat) : Int) - 1 = (a : Int) by omega, h10, ec] at hb
          simp at hb
        · omega
      subst hb1
      rw [Nat.sub_self, List.getElem?_append_left (by rw [hlen]; omega), List.getElem?_replicate, if_pos (by omega)]
      congr 1
      unfold kindC
      rw [show a + 1 - a = 1 by omega]
      have e3 : firstB s 1 a a = a := by
        unfold firstB
        split
        · rfl
        · rfl
      rw [e3, h10]
      decide +kernel
    · rw [List.getElem?_append_right (by rw [hlen]; omega), hlen, show i - a - (b - a) = i - b by omega]
      exact kindsL_line s N i hi h10 t b h6 (by omega)
end Go.Proofs.Ytacnckneiklgpaa.Plain
