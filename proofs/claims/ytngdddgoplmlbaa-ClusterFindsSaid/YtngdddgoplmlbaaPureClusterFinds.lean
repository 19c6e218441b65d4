/- ClusterFinds: At and Base are those of the reference, for any places. For all numbers, every place and every piece. -/
import Derived.Test.YtngdddgoplmlbaaQx11
import Derived.Test.YtngdddgoplmlbaaMade
namespace Go.Proofs.Ytngdddgoplmlbaa.Pure
open Go.RowKit Go.Proofs.Ytngdddgoplmlbaa.Q Go.Proofs.Ytngdddgoplmlbaa.Plain Go.Proofs.YtngdddgoplmlbaaW.PrintWords Go.Proofs.YtngdddgoplmlbaaW.PrintLast

theorem rdF_pre (pre suf : List S30) (sp : S30) : rd_T30 (pre ++ sp :: suf) (pre.length : Int) = sp := by
  unfold rd_T30
  simp

theorem and7 (n : Int) : Go.bits .and .i64 n 7 = n % 8 := by
  have h127 : (BitVec.ofInt 64 7).toNat = 2 ^ 3 - 1 := by decide
  have key : (BitVec.ofInt 64 n &&& BitVec.ofInt 64 7).toNat = (n % ((2 ^ 64 : Nat) : Int)).toNat % 2 ^ 3 := by
    rw [BitVec.toNat_and, BitVec.toNat_ofInt, h127, Nat.and_two_pow_sub_one_eq_mod]
  show IntKind.i64.wrap ((BitVec.ofInt 64 n &&& BitVec.ofInt 64 7).toNat : Nat) = n % 8
  rw [key, IntKind.wrap_i64]
  omega

/-- What the reference's At finds from span n on. -/
def rat (i : Int) : List S30 → Nat → Int
  | [], _ => -1
  | sp :: t, n => if i ≥ sp.f0 ∧ i < sp.f1 then n else rat i t (n + 1)

theorem ev_rat (L : List S30) (hL : L.length ≤ 1000) (i : Int) : ∀ (suf pre : List S30), pre ++ suf = L → Ev (fun k => abugidaref06_At.l0 k i L (pre.length : Int)) (rat i suf pre.length)
  | [], pre, h => by
    rw [List.append_nil] at h
    refine Ev.step (fun k => by simp only [abugidaref06_At.l0, h, if_neg (show ¬ (L.length : Int) < (L.length : Int) by omega)]; rfl) ?_
    exact Ev.now _
  | sp :: suf, pre, h => by
    have hr : rd_T30 L (pre.length : Int) = sp := by rw [← h]; exact rdF_pre _ _ _
    have hlen : pre.length < L.length := by rw [← h, List.length_append, List.length_cons]; omega
    have hw : wrap64 ((pre.length : Int) + 1) = (((pre ++ [sp]).length : Nat) : Int) := by rw [w64 _ (by omega) (by omega), List.length_append, List.length_singleton]; omega
    have ih := ev_rat L hL i suf (pre ++ [sp]) (by rw [List.append_assoc]; exact h)
    have hpl : (pre ++ [sp]).length = pre.length + 1 := by rw [List.length_append, List.length_singleton]
    rw [hpl] at ih
    rw [hpl] at hw
    have c0 : (pre.length : Int) < (L.length : Int) := by omega
    have c1 : (0 : Int) ≤ pre.length := by omega
    unfold rat
    by_cases h0 : i ≥ sp.f0
    · by_cases h1 : i < sp.f1
      · rw [if_pos ⟨h0, h1⟩]
        refine Ev.step (fun k => by simp only [abugidaref06_At.l0, if_pos c0, if_pos c1, hr, if_pos h0, if_pos h1]; rfl) ?_
        exact Ev.now _
      · rw [if_neg (fun h => h1 h.2)]
        refine Ev.step (fun k => by simp only [abugidaref06_At.l0, if_pos c0, if_pos c1, hr, if_pos h0, if_neg h1, hw]; rfl) ?_
        exact ih
    · rw [if_neg (fun h => h0 h.1)]
      refine Ev.step (fun k => by simp only [abugidaref06_At.l0, if_pos c0, if_pos c1, hr, if_neg h0, hw]; rfl) ?_
      exact ih

theorem rat_is (s : ByteArray) (N : Nat) (i : Int) : ∀ (l : List S30) (a n : Nat), Cov s N a l → (i < a ∨ (N : Int) ≤ i → rat i l n = -1) ∧ ((a : Int) ≤ i → i < N → rat i l n = ((n + hfind i l : Nat) : Int))
  | [], a, n, h => by
    have h : a = N := h
    exact ⟨fun _ => rfl, fun h1 h2 => by omega⟩
  | sp :: l, a, n, ⟨b, e, h1, h2, h3, h4, h5, h6⟩ => by
    obtain ⟨i1, i2⟩ := rat_is s N i l b (n + 1) h6
    subst e
    constructor
    · intro h
      unfold rat
      rw [if_neg (show ¬ (i ≥ (a : Int) ∧ i < (b : Int)) by omega)]
      exact i1 (by omega)
    · intro g1 g2
      unfold rat hfind
      by_cases hb : i < (b : Int)
      · rw [if_pos (show i ≥ (a : Int) ∧ i < (b : Int) from ⟨g1, hb⟩), if_pos (show (b : Int) > i from hb)]
        rfl
      · rw [if_neg (show ¬ (i ≥ (a : Int) ∧ i < (b : Int)) from fun h => hb h.2), if_neg (show ¬ (b : Int) > i from hb), i2 (by omega) g2]
        omega

theorem ev_at (s : ByteArray) (hs : s.size ≤ 1000) (i : Int) : ∃ r, cluster_At.f s i = some r ∧ Ev (fun k => abugidaref06_At.f k s i) r := by
  have hll := spans_length s
  obtain ⟨r1, r2⟩ := rat_is s s.size i (spans s) 0 0 (cov_spans s)
  have hev : Ev (fun k => abugidaref06_At.f k s i) (rat i (spans s) 0) := by
    unfold abugidaref06_At.f
    exact Ev.bind (ev_split s hs) (ev_rat (spans s) (by omega) i (spans s) [] rfl)
  unfold cluster_At.f
  by_cases h0 : i < 0
  · rw [if_pos h0]
    exact ⟨_, rfl, by rw [← r1 (.inl h0)]; exact hev⟩
  · rw [if_neg h0]
    by_cases h1 : i ≥ (s.size : Int)
    · rw [if_pos h1]
      exact ⟨_, rfl, by rw [← r1 (.inr h1)]; exact hev⟩
    · rw [if_neg h1, split_spans s hs, Option.bind_some]
      exact ⟨_, rfl, by have e := r2 (by omega) (by omega); rw [Nat.zero_add] at e; rw [← e]; exact hev⟩

theorem ev_bases_l0 (s : ByteArray) (a b : Nat) (hb : b ≤ s.size) (hs : s.size ≤ 1000) (d : Nat) : ∀ i : Nat, i + d = b → ∃ r : Int, Ev (fun k => cluster_Base.l0 k s i a b) r ∧ Ev (fun k => abugidaref06_Base.l0 k s i a b) r := by
  induction d with
  | zero =>
    intro i hi
    refine ⟨a, ?_, ?_⟩
    · refine Ev.step (fun k => by simp only [cluster_Base.l0, if_neg (show ¬ (i : Int) < (b : Int) by omega)]; rfl) ?_
      exact Ev.now _
    · refine Ev.step (fun k => by simp only [abugidaref06_Base.l0, if_neg (show ¬ (i : Int) < (b : Int) by omega)]; rfl) ?_
      exact Ev.now _
  | succ d ih =>
    intro i hi
    have hw : wrap64 ((i : Int) + 1) = ((i + 1 : Nat) : Int) := by rw [w64 _ (by omega) (by omega)]; omega
    obtain ⟨r, h1, h2⟩ := ih (i + 1) (by omega)
    refine ⟨if hext (bt s i) = true then r else (i : Int), ?_, ?_⟩
    · refine Ev.step (fun k => by simp only [cluster_Base.l0, if_pos (show (i : Int) < (b : Int) by omega), if_pos (show (0 : Int) ≤ i by omega), if_pos (show (i : Int) < (s.size : Int) by omega), hw]; rfl) ?_
      refine Ev.bind (ev_ext s i) ?_
      cases hext (bt s i) with
      | true => simp only [if_true]; exact h1
      | false => simp only [Bool.false_eq_true, if_false]; exact Ev.now _
    · refine Ev.step (fun k => by simp only [abugidaref06_Base.l0, if_pos (show (i : Int) < (b : Int) by omega), if_pos (show (0 : Int) ≤ i by omega), if_pos (show (i : Int) < (s.size : Int) by omega), hw]; rfl) ?_
      refine Ev.bind (ev_rext s i) ?_
      cases hext (bt s i) with
      | true => simp only [if_true]; exact h2
      | false => simp only [Bool.false_eq_true, if_false]; exact Ev.now _

theorem ev_bases (s : ByteArray) (hs : s.size ≤ 1000) (x y : Int) : ∃ r : Int, Ev (fun k => cluster_Base.f k s x y) r ∧ Ev (fun k => abugidaref06_Base.f k s x y) r := by
  unfold cluster_Base.f abugidaref06_Base.f
  have no1 : Ev (fun k => cluster_Base.j0 k s true x y) (-1) := by
    refine Ev.step (fun k => by simp only [cluster_Base.j0, if_true]; rfl) ?_
    exact Ev.now _
  have no2 : Ev (fun k => abugidaref06_Base.j0 k s true x y) (-1) := by
    refine Ev.step (fun k => by simp only [abugidaref06_Base.j0, if_true]; rfl) ?_
    exact Ev.now _
  by_cases h0 : x < 0
  · simp only [if_pos h0]; exact ⟨_, no1, no2⟩
  · simp only [if_neg h0]
    by_cases h1 : x ≥ y
    · simp only [if_pos h1]; exact ⟨_, no1, no2⟩
    · simp only [if_neg h1]
      by_cases h2 : y > (s.size : Int)
      · simp only [decide_eq_true h2]; exact ⟨_, no1, no2⟩
      · simp only [decide_eq_false h2]
        obtain ⟨a, rfl⟩ : ∃ a : Nat, x = (a : Int) := ⟨x.toNat, by omega⟩
        obtain ⟨b, rfl⟩ : ∃ b : Nat, y = (b : Int) := ⟨y.toNat, by omega⟩
        obtain ⟨r, g1, g2⟩ := ev_bases_l0 s a b (by omega) hs (b - a) a (by omega)
        refine ⟨r, ?_, ?_⟩
        · refine Ev.step (fun k => by simp only [cluster_Base.j0, Bool.false_eq_true, if_false]; rfl) ?_
          exact g1
        · refine Ev.step (fun k => by simp only [abugidaref06_Base.j0, Bool.false_eq_true, if_false]; rfl) ?_
          exact g2

theorem finds_l0 (s : ByteArray) (hs : s.size ≤ 100) (i x y : Int) (d : Nat) : ∀ k0 : Int, -1 ≤ k0 → k0 + d = (s.size : Int) + 1 → Ev (fun k => abugidalaw06_ClusterFinds.l0 k i true s k0 x y) true := by
  induction d with
  | zero =>
    intro k0 h0 h1
    refine Ev.step (fun k => by simp only [abugidalaw06_ClusterFinds.l0, if_neg (show ¬ k0 ≤ (s.size : Int) by omega), if_true]; rfl) ?_
    obtain ⟨r, e1, e2⟩ := ev_at s (by omega) i
    obtain ⟨q, g1, g2⟩ := ev_bases s (by omega) x y
    simp only [e1, Option.bind_some]
    refine Ev.bind e2 ?_
    simp only [if_true]
    refine Ev.bind g1 ?_
    refine Ev.bind g2 ?_
    simp only [beq_self_eq_true]
    exact Ev.now _
  | succ d ih =>
    intro k0 h0 h1
    have hw : wrap64 (k0 + 1) = k0 + 1 := w64 _ (by omega) (by omega)
    obtain ⟨r, e1, e2⟩ := ev_at s (by omega) k0
    obtain ⟨q, g1, g2⟩ := ev_bases s (by omega) k0 (wrap64 (k0 + Go.bits .and .i64 y 7))
    refine Ev.step (fun k => by simp only [abugidalaw06_ClusterFinds.l0, if_pos (show k0 ≤ (s.size : Int) by omega), e1, Option.bind_some, hw]; rfl) ?_
    refine Ev.bind e2 ?_
    simp only [if_true]
    refine Ev.bind g1 ?_
    refine Ev.bind g2 ?_
    simp only [if_true]
    exact ih (k0 + 1) (by omega) (by omega)

theorem ClusterFinds : abugidalaw06_ClusterFinds.Pure := by
  intro l i x y _ _ _ _ _ _
  obtain ⟨t, ht, h40⟩ := ev_made l 40 (by omega)
  refine Ev.rounds ?_
  unfold abugidalaw06_ClusterFinds.f
  refine Ev.bind ev_sanity ?_
  refine Ev.bind ht ?_
  exact finds_l0 t (by omega) i x y (t.size + 2) (-1) (by omega) (by omega)

end Go.Proofs.Ytngdddgoplmlbaa.Pure
