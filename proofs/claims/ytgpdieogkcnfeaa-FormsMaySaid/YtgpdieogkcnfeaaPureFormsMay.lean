/- FormsMay: for which clusters a lookup may act is what the reference says. For every list of forms, every feature, all wanted features. -/
import Derived.Test.YtgpdieogkcnfeaaQx17
import Derived.Test.YtgpdieogkcnfeaaMade
namespace Go.Proofs.Ytgpdieogkcnfeaa.Pure
open Go.RowKit Go.Proofs.Ytgpdieogkcnfeaa.Q Go.Proofs.Ytgpdieogkcnfeaa.Plain Go.Proofs.YtgpdieogkcnfeaaW.PrintWords Go.Proofs.YtgpdieogkcnfeaaW.PrintLast

theorem and_two_pow (m i : Nat) : m &&& 2 ^ i = (m.testBit i).toNat * 2 ^ i := by
  apply Nat.eq_of_testBit_eq
  intro j
  rw [Nat.testBit_and, Nat.testBit_two_pow]
  by_cases hj : i = j
  · subst hj
    cases m.testBit i <;> simp
  · cases m.testBit i <;> simp [hj]

theorem and_one (n : Int) : Go.bits .and .i64 n 1 = n % 2 := by
  have h1 : (BitVec.ofInt 64 1).toNat = 2 ^ 1 - 1 := by decide
  have key : (BitVec.ofInt 64 n &&& BitVec.ofInt 64 1).toNat = (n % ((2 ^ 64 : Nat) : Int)).toNat % 2 ^ 1 := by
    rw [BitVec.toNat_and, BitVec.toNat_ofInt, h1, Nat.and_two_pow_sub_one_eq_mod]
  show IntKind.i64.wrap ((BitVec.ofInt 64 n &&& BitVec.ofInt 64 1).toNat : Nat) = n % 2
  rw [key, IntKind.wrap_i64]
  omega

theorem bit_5 (n : Int) : ((Go.bits .and .i64 n 32) != 0) = ((Go.bits .and .i64 (n / 32) 1) == 1) := by
  have h1 : (BitVec.ofInt 64 32).toNat = 2 ^ 5 := by decide
  have key : (BitVec.ofInt 64 n &&& BitVec.ofInt 64 32).toNat = ((n % ((2 ^ 64 : Nat) : Int)).toNat.testBit 5).toNat * 2 ^ 5 := by
    rw [BitVec.toNat_and, BitVec.toNat_ofInt, h1, and_two_pow]
  have e : Go.bits .and .i64 n 32 = IntKind.i64.wrap ((BitVec.ofInt 64 n &&& BitVec.ofInt 64 32).toNat : Nat) := rfl
  rw [and_one, e, key, IntKind.wrap_i64]
  cases ht : (n % ((2 ^ 64 : Nat) : Int)).toNat.testBit 5 with
  | true =>
    rw [Nat.testBit_eq_decide_div_mod_eq, decide_eq_true_eq] at ht
    have : n / 32 % 2 = 1 := by omega
    rw [this]
    rfl
  | false =>
    rw [Nat.testBit_eq_decide_div_mod_eq, decide_eq_false_iff_not] at ht
    have : n / 32 % 2 = 0 := by omega
    rw [this]
    rfl

theorem bit_6 (n : Int) : ((Go.bits .and .i64 n 64) != 0) = ((Go.bits .and .i64 (n / 64) 1) == 1) := by
  have h1 : (BitVec.ofInt 64 64).toNat = 2 ^ 6 := by decide
  have key : (BitVec.ofInt 64 n &&& BitVec.ofInt 64 64).toNat = ((n % ((2 ^ 64 : Nat) : Int)).toNat.testBit 6).toNat * 2 ^ 6 := by
    rw [BitVec.toNat_and, BitVec.toNat_ofInt, h1, and_two_pow]
  have e : Go.bits .and .i64 n 64 = IntKind.i64.wrap ((BitVec.ofInt 64 n &&& BitVec.ofInt 64 64).toNat : Nat) := rfl
  rw [and_one, e, key, IntKind.wrap_i64]
  cases ht : (n % ((2 ^ 64 : Nat) : Int)).toNat.testBit 6 with
  | true =>
    rw [Nat.testBit_eq_decide_div_mod_eq, decide_eq_true_eq] at ht
    have : n / 64 % 2 = 1 := by omega
    rw [this]
    rfl
  | false =>
    rw [Nat.testBit_eq_decide_div_mod_eq, decide_eq_false_iff_not] at ht
    have : n / 64 % 2 = 0 := by omega
    rw [this]
    rfl

theorem bit_7 (n : Int) : ((Go.bits .and .i64 n 128) != 0) = ((Go.bits .and .i64 (n / 128) 1) == 1) := by
  have h1 : (BitVec.ofInt 64 128).toNat = 2 ^ 7 := by decide
  have key : (BitVec.ofInt 64 n &&& BitVec.ofInt 64 128).toNat = ((n % ((2 ^ 64 : Nat) : Int)).toNat.testBit 7).toNat * 2 ^ 7 := by
    rw [BitVec.toNat_and, BitVec.toNat_ofInt, h1, and_two_pow]
  have e : Go.bits .and .i64 n 128 = IntKind.i64.wrap ((BitVec.ofInt 64 n &&& BitVec.ofInt 64 128).toNat : Nat) := rfl
  rw [and_one, e, key, IntKind.wrap_i64]
  cases ht : (n % ((2 ^ 64 : Nat) : Int)).toNat.testBit 7 with
  | true =>
    rw [Nat.testBit_eq_decide_div_mod_eq, decide_eq_true_eq] at ht
    have : n / 128 % 2 = 1 := by omega
    rw [this]
    rfl
  | false =>
    rw [Nat.testBit_eq_decide_div_mod_eq, decide_eq_false_iff_not] at ht
    have : n / 128 % 2 = 0 := by omega
    rw [this]
    rfl

theorem bit_8 (n : Int) : ((Go.bits .and .i64 n 256) != 0) = ((Go.bits .and .i64 (n / 256) 1) == 1) := by
  have h1 : (BitVec.ofInt 64 256).toNat = 2 ^ 8 := by decide
  have key : (BitVec.ofInt 64 n &&& BitVec.ofInt 64 256).toNat = ((n % ((2 ^ 64 : Nat) : Int)).toNat.testBit 8).toNat * 2 ^ 8 := by
    rw [BitVec.toNat_and, BitVec.toNat_ofInt, h1, and_two_pow]
  have e : Go.bits .and .i64 n 256 = IntKind.i64.wrap ((BitVec.ofInt 64 n &&& BitVec.ofInt 64 256).toNat : Nat) := rfl
  rw [and_one, e, key, IntKind.wrap_i64]
  cases ht : (n % ((2 ^ 64 : Nat) : Int)).toNat.testBit 8 with
  | true =>
    rw [Nat.testBit_eq_decide_div_mod_eq, decide_eq_true_eq] at ht
    have : n / 256 % 2 = 1 := by omega
    rw [this]
    rfl
  | false =>
    rw [Nat.testBit_eq_decide_div_mod_eq, decide_eq_false_iff_not] at ht
    have : n / 256 % 2 = 0 := by omega
    rw [this]
    rfl

theorem bit_9 (n : Int) : ((Go.bits .and .i64 n 512) != 0) = ((Go.bits .and .i64 (n / 512) 1) == 1) := by
  have h1 : (BitVec.ofInt 64 512).toNat = 2 ^ 9 := by decide
  have key : (BitVec.ofInt 64 n &&& BitVec.ofInt 64 512).toNat = ((n % ((2 ^ 64 : Nat) : Int)).toNat.testBit 9).toNat * 2 ^ 9 := by
    rw [BitVec.toNat_and, BitVec.toNat_ofInt, h1, and_two_pow]
  have e : Go.bits .and .i64 n 512 = IntKind.i64.wrap ((BitVec.ofInt 64 n &&& BitVec.ofInt 64 512).toNat : Nat) := rfl
  rw [and_one, e, key, IntKind.wrap_i64]
  cases ht : (n % ((2 ^ 64 : Nat) : Int)).toNat.testBit 9 with
  | true =>
    rw [Nat.testBit_eq_decide_div_mod_eq, decide_eq_true_eq] at ht
    have : n / 512 % 2 = 1 := by omega
    rw [this]
    rfl
  | false =>
    rw [Nat.testBit_eq_decide_div_mod_eq, decide_eq_false_iff_not] at ht
    have : n / 512 % 2 = 0 := by omega
    rw [this]
    rfl

/-- May a lookup with feature f act on a cluster of form x? -/
def mayv (f w x : Int) : Bool := if f < 0 ∨ f ≥ 10 then false else if f ≥ 5 then (Go.bits .and .i64 w (shl .i64 1 f)) != 0 else if f = 0 then true else (x == f)

theorem may_bit (f w : Int) (h0 : 5 ≤ f) (h1 : f < 10) : ((Go.bits .and .i64 (shr .i64 w f) 1) == 1) = ((Go.bits .and .i64 w (shl .i64 1 f)) != 0) := by
  have hf : f = 5 ∨ f = 6 ∨ f = 7 ∨ f = 8 ∨ f = 9 := by omega
  rcases hf with rfl | rfl | rfl | rfl | rfl
  · exact (bit_5 w).symm
  · exact (bit_6 w).symm
  · exact (bit_7 w).symm
  · exact (bit_8 w).symm
  · exact (bit_9 w).symm

theorem ev_may_l0 (l : List Int) (hl : l.length ≤ 1000) (f w : Int) : ∀ (suf pre : List Int) (out : List Bool), pre ++ suf = l → out.length = pre.length →
    Ev (fun k => forms_May.l0 k f w out l (l.length : Int) (pre.length : Int)) (out ++ suf.map (mayv f w))
  | [], pre, out, h, ho => by
    rw [List.append_nil] at h
    refine Ev.step (fun k => by simp only [forms_May.l0, h, if_neg (show ¬ (l.length : Int) < (l.length : Int) by omega)]; rfl) ?_
    simp only [List.map_nil, List.append_nil]
    exact Ev.now _
  | x :: suf, pre, out, h, ho => by
    have hlen : pre.length < l.length := by rw [← h, List.length_append, List.length_cons]; omega
    have hr : rd l (pre.length : Int) = x := by
      unfold rd
      rw [← h]
      simp
    have hw : wrap64 ((pre.length : Int) + 1) = (((pre ++ [x]).length : Nat) : Int) := by rw [w64 _ (by omega) (by omega), List.length_append, List.length_singleton]; omega
    have ih := ev_may_l0 l hl f w suf (pre ++ [x]) (out ++ [mayv f w x]) (by rw [List.append_assoc]; exact h) (by simp [ho])
    rw [List.append_assoc] at ih
    have c0 : (pre.length : Int) < (l.length : Int) := by omega
    have c1 : (0 : Int) ≤ pre.length := by omega
    have c2 : out.length < 140737488355328 := by omega
    by_cases h0 : f < 0
    · have e : mayv f w x = false := by unfold mayv; rw [if_pos (.inl h0)]
      rw [e] at ih
      refine Ev.step (fun k => by simp only [forms_May.l0, if_pos c0, if_pos c1, if_pos h0, hr]; rfl) ?_
      refine Ev.step (fun k => by simp only [forms_May.j1, if_true, if_pos c2, hw]; rfl) ?_
      rw [List.map_cons, e]
      exact ih
    · refine Ev.step (fun k => by simp only [forms_May.l0, if_pos c0, if_pos c1, if_neg h0, hr]; rfl) ?_
      by_cases h1 : f ≥ 10
      · have e : mayv f w x = false := by unfold mayv; rw [if_pos (.inr h1)]
        rw [e] at ih
        refine Ev.step (fun k => by simp only [forms_May.j1, decide_eq_true h1, if_true, if_pos c2, hw]; rfl) ?_
        rw [List.map_cons, e]
        exact ih
      · by_cases h2 : f ≥ 5
        · have e : mayv f w x = ((Go.bits .and .i64 w (shl .i64 1 f)) != 0) := by unfold mayv; rw [if_neg (by omega), if_pos h2]
          rw [e] at ih
          refine Ev.step (fun k => by simp only [forms_May.j1, decide_eq_false h1, Bool.false_eq_true, if_false, if_pos h2, if_pos (show 0 ≤ f by omega), if_pos c2, hw]; rfl) ?_
          rw [List.map_cons, e]
          exact ih
        · by_cases h3 : f = 0
          · have e : mayv f w x = true := by unfold mayv; rw [if_neg (by omega), if_neg h2, if_pos h3]
            rw [e] at ih
            refine Ev.step (fun k => by simp only [forms_May.j1, decide_eq_false h1, Bool.false_eq_true, if_false, if_neg h2, if_pos h3, if_pos c2, hw]; rfl) ?_
            rw [List.map_cons, e]
            exact ih
          · have e : mayv f w x = (x == f) := by unfold mayv; rw [if_neg (by omega), if_neg h2, if_neg h3]
            rw [e] at ih
            refine Ev.step (fun k => by simp only [forms_May.j1, decide_eq_false h1, Bool.false_eq_true, if_false, if_neg h2, if_neg h3, if_pos c2, hw]; rfl) ?_
            rw [List.map_cons, e]
            exact ih

theorem ev_rmay_l0 (l : List Int) (hl : l.length ≤ 1000) (f w : Int) : ∀ (suf pre : List Int) (out : List Bool), pre ++ suf = l → out.length = pre.length →
    Ev (fun k => abugidaref17_May.l0 k l f w out (pre.length : Int)) (out ++ suf.map (mayv f w))
  | [], pre, out, h, ho => by
    rw [List.append_nil] at h
    refine Ev.step (fun k => by simp only [abugidaref17_May.l0, h, if_neg (show ¬ (l.length : Int) < (l.length : Int) by omega)]; rfl) ?_
    simp only [List.map_nil, List.append_nil]
    exact Ev.now _
  | x :: suf, pre, out, h, ho => by
    have hlen : pre.length < l.length := by rw [← h, List.length_append, List.length_cons]; omega
    have hr : rd l (pre.length : Int) = x := by
      unfold rd
      rw [← h]
      simp
    have hw : wrap64 ((pre.length : Int) + 1) = (((pre ++ [x]).length : Nat) : Int) := by rw [w64 _ (by omega) (by omega), List.length_append, List.length_singleton]; omega
    have ih := ev_rmay_l0 l hl f w suf (pre ++ [x]) (out ++ [mayv f w x]) (by rw [List.append_assoc]; exact h) (by simp [ho])
    rw [List.append_assoc] at ih
    have c0 : (pre.length : Int) < (l.length : Int) := by omega
    have c1 : (0 : Int) ≤ pre.length := by omega
    have c2 : out.length < 140737488355328 := by omega
    rw [List.map_cons]
    by_cases h1 : f ≥ 1
    · refine Ev.step (fun k => by simp only [abugidaref17_May.l0, if_pos c0, if_pos h1]; rfl) ?_
      by_cases h4 : f ≤ 4
      · have e : mayv f w x = (x == f) := by unfold mayv; rw [if_neg (by omega), if_neg (by omega), if_neg (by omega)]
        rw [e] at ih ⊢
        refine Ev.step (fun k => by simp only [abugidaref17_May.j1, decide_eq_true h4, if_true, if_pos c0, if_pos c1, if_neg (show ¬ f ≥ 5 by omega), if_pos c2, hr, hw]; rfl) ?_
        exact ih
      · by_cases h10 : f < 10
        · have e : mayv f w x = ((Go.bits .and .i64 (shr .i64 w f) 1) == 1) := by unfold mayv; rw [if_neg (by omega), if_pos (by omega), may_bit f w (by omega) h10]
          rw [e] at ih ⊢
          refine Ev.step (fun k => by simp only [abugidaref17_May.j1, decide_eq_false h4, Bool.false_eq_true, if_false, if_pos (show f ≥ 5 by omega), if_pos h10, if_pos (show 0 ≤ f by omega), if_pos c2, hw]; rfl) ?_
          exact ih
        · have e : mayv f w x = false := by unfold mayv; rw [if_pos (by omega)]
          have e0 : (f == 0) = false := beq_eq_false_iff_ne.mpr (by omega)
          rw [e] at ih ⊢
          refine Ev.step (fun k => by simp only [abugidaref17_May.j1, decide_eq_false h4, Bool.false_eq_true, if_false, if_pos (show f ≥ 5 by omega), if_neg h10, if_pos c2, hw, e0]; rfl) ?_
          exact ih
    · refine Ev.step (fun k => by simp only [abugidaref17_May.l0, if_pos c0, if_neg h1]; rfl) ?_
      have e : mayv f w x = (f == 0) := by
        unfold mayv
        by_cases h0 : f = 0
        · rw [if_neg (by omega), if_neg (by omega), if_pos h0, h0]; rfl
        · rw [if_pos (by omega)]; exact (beq_eq_false_iff_ne.mpr h0).symm
      rw [e] at ih ⊢
      refine Ev.step (fun k => by simp only [abugidaref17_May.j1, Bool.false_eq_true, if_false, if_neg (show ¬ f ≥ 5 by omega), if_pos c2, hw]; rfl) ?_
      exact ih

theorem ev_bools_l0 (L : List Bool) (hL : L.length ≤ 1000) (d : Nat) : ∀ i : Nat, i + d = L.length → Ev (fun k => abugidaref17_Same.l0 k L L i) true := by
  induction d with
  | zero =>
    intro i hi
    refine Ev.step (fun k => by simp only [abugidaref17_Same.l0, if_neg (show ¬ (i : Int) < (L.length : Int) by omega)]; rfl) ?_
    exact Ev.now _
  | succ d ih =>
    intro i hi
    have hw : wrap64 ((i : Int) + 1) = ((i + 1 : Nat) : Int) := by rw [w64 _ (by omega) (by omega)]; omega
    refine Ev.step (fun k => by simp only [abugidaref17_Same.l0, if_pos (show (i : Int) < (L.length : Int) by omega), if_pos (show (0 : Int) ≤ i by omega), bne_self_eq_false, Bool.false_eq_true, if_false, hw]; rfl) ?_
    exact ih (i + 1) (by omega)

theorem ev_bools (L : List Bool) (hL : L.length ≤ 1000) : Ev (fun k => abugidaref17_Same.f k L L) true := by
  unfold abugidaref17_Same.f
  simp only [if_true]
  exact ev_bools_l0 L hL L.length 0 (Nat.zero_add _)

theorem ev_may_both (l : List Int) (hl : l.length ≤ 1000) (f w : Int) {β : Type} (g : Nat → Bool → Option β) (r : β) (h : Ev (fun k => g k true) r) :
    Ev (fun k => (forms_May.f k l f w).bind fun a => (abugidaref17_May.f k l f w).bind fun b => (abugidaref17_Same.f k a b).bind fun t => g k t) r := by
  refine Ev.bind (ev_may_l0 l hl f w l [] [] rfl rfl) ?_
  refine Ev.bind (ev_rmay_l0 l hl f w l [] [] rfl rfl) ?_
  exact Ev.bind (ev_bools _ (by simpa using hl)) h

theorem FormsMay : abugidalaw17_FormsMay.Pure := by
  intro l f w _ _ _ _ _
  refine Ev.rounds ?_
  unfold abugidalaw17_FormsMay.f
  have hmn : mn (l.length : Int) 100 = min (l.length : Int) 100 := by unfold mn; omega
  obtain ⟨u, hu⟩ : ∃ u, u = l.take ((mn (l.length : Int) 100 : Int).toNat) := ⟨_, rfl⟩
  have hul : u.length ≤ 100 := by rw [hu, List.length_take, hmn]; omega
  refine Ev.bind ev_sanity ?_
  simp only [← hu]
  simp only [if_pos (show 0 ≤ mn (l.length : Int) 100 by omega), if_pos (show mn (l.length : Int) 100 ≤ (l.length : Int) by omega), if_true]
  refine ev_may_both u (by omega) f w _ _ ?_
  simp only [if_true]
  exact ev_may_both u (by omega) (Int.tmod f 12) w _ _ (Ev.now _)

end Go.Proofs.Ytgpdieogkcnfeaa.Pure
