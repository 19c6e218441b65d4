/- Plain laws on levels: texts with alike characters; texts of one direction. -/
import Derived.Test.YtacnckneiklgpaaKs
namespace Go.Proofs.Ytacnckneiklgpaa.Plain
open Go.RowKit Go.Proofs.Ytacnckneiklgpaa.Q Go.Proofs.YtacnckneiklgpaaW.PrintWords Go.Proofs.YtacnckneiklgpaaW.PrintLast
set_option linter.unusedVariables false
set_option linter.unusedSimpArgs false
theorem bytes_app (a b : ByteArray) : bytesOf (a ++ b) = bytesOf a ++ bytesOf b := by
  simp [bytesOf, ByteArray.data_append]
theorem bytes_get (s : ByteArray) (i : Nat) (h : i < s.size) : (bytesOf s)[i]? = some (bt s (i : Int)) := by
  have hl : i < (bytesOf s).length := by rw [bytesOf_length]; exact h
  rw [List.getElem?_eq_getElem hl]
  congr 1
  simp [bytesOf, bt, ByteArray.getElem_eq_getElem_data]
  intro h2
  omega
theorem baseL_12 : ∀ l : List Int, baseL l = 1 ∨ baseL l = 2
  | [] => .inl rfl
  | c :: l => by
    unfold baseL
    split
    · assumption
    · exact baseL_12 l
/-- What order looks at. -/
def feat (c : Int) : Int × Bool × Int := (hcls c, hext c, strongP c)
theorem baseL_feat : ∀ l r : List Int, l.map feat = r.map feat → baseL l = baseL r
  | [], [], _ => rfl
  | [], _ :: _, h => by simp at h
  | _ :: _, [], h => by simp at h
  | x :: l, y :: r, h => by
    simp only [List.map_cons, List.cons.injEq] at h
    have hs : strongP x = strongP y := congrArg (fun p => p.2.2) h.1
    unfold baseL
    rw [hs, baseL_feat l r h.2]
theorem lineL_feat (b : Int) : ∀ (l r ds : List Int), l.map feat = r.map feat → lineL b l ds = lineL b r ds
  | [], [], _, _ => rfl
  | [], _ :: _, _, h => by simp at h
  | _ :: _, [], _, h => by simp at h
  | x :: l, y :: r, [], h => rfl
  | x :: l, y :: r, d :: ds, h => by
    simp only [List.map_cons, List.cons.injEq] at h
    have hs : classP x = classP y := congrArg (fun p => p.1) h.1
    unfold lineL
    rw [hs, lineL_feat b l r ds h.2]
section
variable (s t : ByteArray) (hst : (bytesOf s).map feat = (bytesOf t).map feat)
include hst
theorem feat_size : s.size = t.size := by
  have := congrArg List.length hst
  simpa [bytesOf_length] using this
theorem feat_at (i : Nat) (hi : i < s.size) : feat (bt s (i : Int)) = feat (bt t (i : Int)) := by
  have h1 := bytes_get s i hi
  have h2 := bytes_get t i (by rw [← feat_size s t hst]; exact hi)
  have := congrArg (fun l => l[i]?) hst
  simp only [List.getElem?_map, h1, h2, Option.map_some, Option.some.injEq] at this
  exact this
theorem hbegin_feat (i frm : Nat) (hi : i < s.size) : hbegin s i frm = hbegin t i frm := by
  cases i with
  | zero => simp [hbegin]
  | succ i =>
    have h1 := feat_at s t hst (i + 1) hi
    have h2 := feat_at s t hst i (by omega)
    simp only [feat, Prod.mk.injEq] at h1 h2
    unfold hbegin
    rw [show ((i + 1 : Nat) : Int) - 1 = (i : Int) by omega, h1.1, h1.2.1, h2.1]
theorem hstarts_feat : ∀ (d i frm : Nat), i + d ≤ s.size → hstarts s d i frm = hstarts t d i frm
  | 0, _, _, _ => rfl
  | d + 1, i, frm, h => by
    unfold hstarts
    rw [hbegin_feat s t hst i frm (by omega), hstarts_feat d (i + 1) i (by omega), hstarts_feat d (i + 1) frm (by omega)]
theorem spans_feat : spans s = spans t := by
  unfold spans
  rw [hstarts_feat s t hst s.size 0 0 (by omega), feat_size s t hst]
theorem firstB_feat (a : Nat) : ∀ (d i : Nat), i + d ≤ s.size → firstB s d i a = firstB t d i a
  | 0, _, _ => rfl
  | d + 1, i, h => by
    have h1 := feat_at s t hst i (by omega)
    simp only [feat, Prod.mk.injEq] at h1
    unfold firstB
    rw [h1.2.1, firstB_feat a d (i + 1) (by omega)]
theorem kindC_feat (a b : Nat) (h1 : a < b) (h2 : b ≤ s.size) : kindC s a b = kindC t a b := by
  have hf := firstB_feat s t hst a (b - a) a (by omega)
  have hl := firstB_lt s b a h1 (b - a) a (by omega)
  have h3 := feat_at s t hst (firstB s (b - a) a a) (by omega)
  simp only [feat, Prod.mk.injEq] at h3
  unfold kindC
  rw [h3.2.2, ← hf]
omit hst in
theorem kindsL_congr (u : ByteArray) (N : Nat) (h : ∀ a b : Nat, a < b → b ≤ N → kindC s a b = kindC u a b) (l : List S51) : ∀ (a : Nat), Cov s N a l → kindsL s l = kindsL u l := by
  induction l with
  | nil => intro a hc; simp only [kindsL, List.flatMap_nil]
  | cons sp r ih =>
    intro a hc
    obtain ⟨b, e, h1, h2, _, _, _, h6⟩ := hc
    have hi := ih b h6
    have hk := h a b h1 h2
    subst e
    unfold kindsL at hi ⊢
    rw [List.flatMap_cons, List.flatMap_cons, hi]
    simp only [Int.toNat_natCast, hk]
theorem kindsL_feat (l : List S51) (a : Nat) (h : Cov s s.size a l) : kindsL s l = kindsL t l :=
  kindsL_congr s t s.size (kindC_feat s t hst) l a h
theorem levels_feat : levF (bytesOf s) (kindsP s) = levF (bytesOf t) (kindsP t) := by
  have hk : kindsP s = kindsP t := by
    unfold kindsP
    rw [kindsL_feat s t hst _ 0 (cov_spans s), spans_feat s t hst]
  unfold levF dirF
  rw [hk, baseL_feat _ _ hst, lineL_feat _ _ _ _ hst]
end
/-- A kind is that of a character. -/
theorem kindsL_mem (s : ByteArray) : ∀ (l : List S51) (a : Nat), Cov s s.size a l → ∀ k ∈ kindsL s l, ∃ i, i < s.size ∧ k = strongP (bt s (i : Int))
  | [], _, _, k, h => by simp [kindsL] at h
  | sp :: r, a, ⟨b, e, h1, h2, _, _, _, h6⟩, k, h => by
    simp only [kindsL, List.flatMap_cons] at h
    rcases List.mem_append.mp h with h | h
    · rw [e] at h
      simp only [Int.toNat_natCast] at h
      refine ⟨firstB s (b - a) a a, ?_, List.eq_of_mem_replicate h⟩
      have hl := firstB_lt s b a h1 (b - a) a (by omega)
      omega
    · exact kindsL_mem s r b h6 k h
theorem kindsP_mem (s : ByteArray) (k : Int) (h : k ∈ kindsP s) : ∃ c ∈ bytesOf s, k = strongP c := by
  obtain ⟨i, hi, he⟩ := kindsL_mem s (spans s) 0 (cov_spans s) k h
  exact ⟨_, List.mem_of_getElem? (bytes_get s i hi), he⟩
theorem lastL_one (b : Int) : ∀ ks : List Int, (∀ k ∈ ks, k = 1 ∨ k = 2 → k = b) → lastL b ks = List.replicate ks.length b
  | [], _ => rfl
  | k :: ks, h => by
    have hu : updL b k = b := by
      unfold updL
      split
      · rename_i h12; exact h k List.mem_cons_self h12
      · rfl
    simp only [lastL, hu, List.length_cons, List.replicate_succ]
    rw [lastL_one b ks (fun x hx => h x (List.mem_cons_of_mem _ hx))]
theorem fillR_one (n : Nat) (b : Int) (p q : Nat) (h1 : p ≤ q) (h2 : q ≤ n) : fillR (List.replicate n b) p q b = List.replicate n b := by
  unfold fillR
  rw [List.take_replicate, List.drop_replicate, List.replicate_append_replicate, List.replicate_append_replicate]
  congr 1
  omega
theorem dirP_one (b : Int) (n : Nat) (p : Nat × Nat × Bool) (h1 : p.1 < p.2.1) (h2 : p.2.1 ≤ n) : dirP b n (List.replicate n b) p = List.replicate n b := by
  unfold dirP
  split
  · have e1 : befD b (List.replicate n b) p.1 = b := by
      unfold befD
      split
      · rw [List.getD_eq_getElem?_getD, List.getElem?_replicate, if_pos (by omega)]; rfl
      · rfl
    rw [e1, ite_self]
    exact fillR_one n b _ _ (by omega) h2
  · rfl
theorem fold_one (b : Int) (n : Nat) : ∀ ps : List (Nat × Nat × Bool), (∀ p ∈ ps, p.1 < p.2.1 ∧ p.2.1 ≤ n) → ps.foldl (dirP b n) (List.replicate n b) = List.replicate n b
  | [], _ => rfl
  | p :: ps, h => by
    have := h p List.mem_cons_self
    rw [List.foldl_cons, dirP_one b n p this.1 this.2]
    exact fold_one b n ps (fun q hq => h q (List.mem_cons_of_mem _ hq))
theorem lineL_one (b : Int) : ∀ (cs : List Int) (n : Nat), cs.length ≤ n → lineL b cs (List.replicate n b) = List.replicate n b
  | [], n, _ => rfl
  | c :: cs, 0, h => by simp at h
  | c :: cs, n + 1, h => by
    rw [List.replicate_succ, lineL, lineL_one b cs n (by simpa using h), ite_self]
/-- A text of one direction. -/
theorem levels_one (s : ByteArray) (h : ∀ c ∈ bytesOf s, strongP c = 1 ∨ strongP c = 2 → strongP c = baseL (bytesOf s)) :
    ∀ x ∈ levF (bytesOf s) (kindsP s), ∃ k ∈ kindsP s, x = lev1 (baseL (bytesOf s)) (baseL (bytesOf s)) k := by
  have hd : dirF (bytesOf s) (kindsP s) = List.replicate (kindsP s).length (baseL (bytesOf s)) := by
    unfold dirF
    rw [lastL_one _ _ (fun k hk => by
      obtain ⟨c, hc, e⟩ := kindsP_mem s k hk
      rw [e]
      exact h c hc), fold_one _ _ _ (fun p hp => by
        have := pcs_mem _ _ _ p hp
        omega), lineL_one]
    rw [bytesOf_length, kindsP_length]
    exact Nat.le_refl _
  intro x hx
  unfold levF at hx
  rw [hd] at hx
  obtain ⟨j, hj, he⟩ := List.mem_iff_getElem.mp hx
  rw [List.getElem_zipWith, List.getElem_replicate] at he
  exact ⟨_, List.getElem_mem _, he.symm⟩
end Go.Proofs.Ytacnckneiklgpaa.Plain
