/- rules.context, checkRule, Check. -/
import Derived.Test.YtlgkeaildncojaaCc
import Derived.Test.YtlgkeaildncojaaQx2
namespace Go.Proofs.Ytlgkeaildncojaa.Q
open Go.RowKit Go.Shelf Go.Proofs.YtlgkeaildncojaaW.PrintWords Go.Proofs.YtlgkeaildncojaaW.PrintLast Go.Proofs.YtlgkeaildncojaaW.PrintMore
set_option linter.unusedSimpArgs false
set_option linter.unusedVariables false
attribute [local go_sem] Oper.semAt_some
theorem rdN (l : List Int) (i : Nat) : rd l (i : Int) = l.getD i 0 := by
  unfold rd
  rw [Int.toNat_natCast]
theorem dropC (ks : List Int) (off : Nat) (h : off < ks.length) : ks.drop off = ks.getD off 0 :: ks.drop (off + 1) := by
  rw [List.drop_eq_getElem_cons h, List.getD_eq_getElem?_getD, List.getElem?_eq_getElem h]
  rfl
theorem wr64 (x : Int) (h0 : -9223372036854775808 ≤ x) (h1 : x ≤ 9223372036854775807) : wrap64 x = x := by unfold wrap64; omega
/-- Strictly increasing. -/
def rightP : List Int → Bool
  | [] => true
  | [_] => true
  | x :: y :: r => if x ≥ y then false else rightP (y :: r)
theorem right_l0 (l : List Int) (hl : l.length ≤ 9223372036854775807) : ∀ (d i : Nat), i + 1 + d = l.length → Ev (fun k => sets_Right.l0 k l ((i + 1 : Nat) : Int)) (rightP (l.drop i)) := by
  intro d
  induction d with
  | zero =>
    intro i h
    rw [dropC l i (by omega), List.drop_of_length_le (by omega)]
    refine Ev.step (fun k => by rw [sets_Right.l0, if_neg (by omega)]) ?_
    exact Ev.now _
  | succ d ih =>
    intro i h
    have h2 := ih (i + 1) (by omega)
    have e1 := dropC l i (by omega)
    have e2 := dropC l (i + 1) (by omega)
    have r1 := rdN l i
    have r2 := rdN l (i + 1)
    rw [e1, e2, rightP]
    rw [e2] at h2
    have q0 : ((i + 1 : Nat) : Int) < (l.length : Int) := by omega
    have hw : wrap64 (((i + 1 : Nat) : Int) - 1) = (i : Int) := by rw [wr64 _ (by omega) (by omega)]; omega
    have q1 : (0 : Int) ≤ (i : Int) := by omega
    have q2 : (i : Int) < (l.length : Int) := by omega
    have q3 : (0 : Int) ≤ ((i + 1 : Nat) : Int) := by omega
    have hw2 : wrap64 (((i + 1 : Nat) : Int) + 1) = ((i + 1 + 1 : Nat) : Int) := by rw [wr64 _ (by omega) (by omega)]; omega
    refine Ev.step (fun k => by rw [sets_Right.l0, if_pos q0, hw, if_pos q1, if_pos q2, if_pos q3, r1, r2, hw2]) ?_
    by_cases hc : l.getD i 0 ≥ l.getD (i + 1) 0
    · rw [if_pos hc]
      exact Ev.congr (fun k => by rw [if_pos hc]) (Ev.now _)
    · rw [if_neg hc]
      exact Ev.congr (fun k => by rw [if_neg hc]) h2
theorem right_ev (l : List Int) (hl : l.length ≤ 9223372036854775807) : Ev (fun k => sets_Right.f k l) (rightP l) := by
  unfold sets_Right.f
  cases l with
  | nil =>
    refine Ev.step (fun k => by rw [sets_Right.l0, if_neg (by simp)]) ?_
    exact Ev.now _
  | cons x r => exact right_l0 (x :: r) hl r.length 0 (by simp; omega)
def wrongP (l : List Int) : Bool := l.isEmpty || !rightP l
theorem wrong_ev (l : List Int) (hl : l.length ≤ 9223372036854775807) : Ev (fun k => rules_wrongSet.f k l) (wrongP l) := by
  unfold rules_wrongSet.f
  cases l with
  | nil => exact Ev.congr (fun k => by rw [if_pos (by simp)]; rfl) (Ev.now _)
  | cons x r =>
    refine Ev.congr (fun k => by rw [if_neg (by simp; omega)]) ?_
    exact Ev.bind (g := fun k => sets_Right.f k (x :: r)) (right_ev _ hl) (Ev.now _)
def unkP (G g : Int) : Bool := decide (g < 0) || decide (g ≥ G)
theorem unk_f (G g : Int) : rules_checkRule_1_1.f g G = some (unkP G g) := by
  unfold rules_checkRule_1_1.f unkP
  split
  · rename_i h; rw [decide_eq_true h]; rfl
  · rename_i h; rw [decide_eq_false h]; rfl
def callP (n : Nat) (k L : Int) (c : S60) : Bool := decide (c.f0 < 0) || decide (c.f0 ≥ (n : Int)) || decide (c.f1 ≤ k) || decide (c.f1 ≥ L)
/-- The error of a rule. -/
def ruleP (r : S49) (k L G : Int) : Int :=
  if r.f1.length = 0 ∨ r.f1.length > 4 ∨ r.f0.length > 3 ∨ r.f2.length > 3 then 31
  else if r.f3.length > 4 ∨ r.f4.length > 3 ∨ (r.f3.length > 0 ∧ r.f4.length > 0) then 31
  else if (r.f1 ++ r.f0 ++ r.f2).any wrongP = true then 31
  else if (r.f1 ++ r.f0 ++ r.f2).any (fun l => l.any (unkP G)) = true ∨ r.f3.any (unkP G) = true then 30
  else if r.f4.any (callP r.f1.length k L) = true then 32 else 0
def rulesP (k L G : Int) : List S49 → Int
  | [] => 0
  | r :: rs => if ruleP r k L G = 0 then rulesP k L G rs else ruleP r k L G
/-- The error of a lookup. -/
def checkP (rs : List S49) (k L G : Int) : Int :=
  if L < 1 ∨ L > 12 ∨ k < 0 ∨ k ≥ L ∨ G < 1 ∨ G > 100 then 1 else if rs.length > 8 then 2 else rulesP k L G rs
/-- A literal row of elements that lead to old memory. -/
theorem litOld {α : Type} (d : Kd α) (w0 : World) (e base : Nat) (W : World) (xs : List α) (inner : List Value) (hb : base ≤ W.heap.size) (hm : xs.length ≤ maxLen) (hrep : Reps (d.K w0) d.sz xs inner) : (Kd.old d w0).R e (W.alloc (.cells inner.toArray e)) base (fun k => W.heap.size ≤ k) (.slice (some ⟨W.heap.size, 0, none⟩) xs.length xs.length) xs := by
  have hl := hrep.1
  refine ⟨fun k hk => ?_, inner, ⟨hl, .inr ⟨W.heap.size, xs.length, inner.toArray, rfl, hb, blk_new W _, Nat.le_refl _, hm, ?_, ?_⟩⟩, hrep⟩
  · injection hk with hk
    rw [← hk]
    exact Nat.le_refl _
  · rw [List.size_toArray]
    exact hl
  · rw [List.take_of_length_le]
    exact Nat.le_of_eq hl
theorem c49 {w : World} {A : Option Addr} {f : List (List Int)} {c : Nat} (hc : f.length ≤ c) (h : (Kd.slice 3 (Kd.int .i64)).C w A f.length f) : (Kd.slice 26 (Kd.slice 3 (Kd.int .i64))).K w f [.slice A f.length c] := ⟨A, c, rfl, hc, h⟩
set_option maxRecDepth 100000 in
set_option maxHeartbeats 4000000 in
theorem context_calls (f0 f1 f2 : List (List Int)) (A0 A1 A2 : Option Addr) (c0 c1 c2 : Nat) (v3 v4 : Value) (o3 : v3.oneCell' = true) (o4 : v4.oneCell' = true) (w : World) (h0 : (Kd.slice 3 (Kd.int .i64)).C w A0 f0.length f0) (h1 : (Kd.slice 3 (Kd.int .i64)).C w A1 f1.length f1) (h2 : (Kd.slice 3 (Kd.int .i64)).C w A2 f2.length f2) (hc0 : f0.length ≤ c0) (hc1 : f1.length ≤ c1) (hc2 : f2.length ≤ c2) (b0 : f0.length ≤ 4) (b1 : f1.length ≤ 4) (b2 : f2.length ≤ 4) :
    Calls Try.prog 49 #[.agg #[.slice A0 f0.length c0, .slice A1 f1.length c1, .slice A2 f2.length c2, v3, v4]] w fun e w' => ∃ A c, e = .returned (.slice A (f1 ++ f0 ++ f2).length c) ∧ (Kd.slice 3 (Kd.int .i64)).C w' A (f1 ++ f0 ++ f2).length (f1 ++ f0 ++ f2) ∧ Below w.heap.size w w' := by
  have hfl : [f1, f0, f2].flatten = f1 ++ f0 ++ f2 := by simp
  have hfb : [f1, f0, f2].flatten.length ≤ 1000000 := by rw [hfl, List.length_append, List.length_append]; omega
  generalize f1 ++ f0 ++ f2 = fl at hfl ⊢
  have HFL := Aside0.mk hfl
  have HFB := Aside0.mk hfb
  have HL3 : Aside0 ([f1, f0, f2].length ≤ 1000) := ⟨by simp⟩
  have HREP : Aside0 (Reps ((Kd.slice 26 (Kd.slice 3 (Kd.int .i64))).K w) 1 [f1, f0, f2] [.slice A1 f1.length c1, .slice A0 f0.length c0, .slice A2 f2.length c2]) := ⟨(((Reps.none _ 1).snoc (c49 hc1 h1) rfl).snoc (c49 hc0 h0) rfl).snoc (c49 hc2 h2) rfl⟩
  have HO := Own.start w
  clear h0 h1 h2 hc0 hc1 hc2 b0 b1 b2 hfl hfb
  go_enter Try.func49, Try.ntmps49
  go_wp2_with (first
    | ((with_reducible refine gate_dst (N := 1) rfl ?_); refine ev_box (N := 1) (cs := #[.slice A0 f0.length c0, .slice A1 f1.length c1, .slice A2 f2.length c2, v3, v4]) (t := 49) HO rfl rfl ?hr ?_; (case hr => first | (go_simp; done) | (go_simp; rfl)); intro g1 W1 HO1 hb1; clear HO hb1; have z0 := HO1.box_cell 0 rfl 0 rfl; have z1 := HO1.box_cell 0 rfl 1 rfl; have z2 := HO1.box_cell 0 rfl 2 rfl)
    | (go_at_call 64; go_loud (have HO2 := HO1.add (r := .row (Kd.old (Kd.slice 26 (Kd.slice 3 (Kd.int .i64))) w) 25 w.heap.size (.slice (some ⟨W1.heap.size, 0, none⟩) 3 3) [f1, f0, f2]) (below_alloc (Below.refl _ _) _) (litOld (Kd.slice 26 (Kd.slice 3 (Kd.int .i64))) w 25 w.heap.size W1 [f1, f0, f2] [.slice A1 f1.length c1, .slice A0 f0.length c0, .slice A2 f2.length c2] HO1.le (show (3 : Nat) ≤ maxLen by unfold maxLen; decide) HREP.out); have hC2 := Kd.C_old (HO2.row_sl 1 rfl).2.2 HO2.below; (refine (concatL_calls _ 3 [f1, f0, f2] _ hC2 HL3.out HFB.out).mono ?_); rintro e W3 ⟨v9, rfl, hR3, hb3⟩; have HO3 := HO2.called hb3 hR3; obtain ⟨A9, c9, he9, hl9, hC9⟩ := HO3.row_at 2 rfl; have hC := Kd.C_old hC9 hb3; rw [HFL.out] at he9 hC; subst he9; have HC := Aside0.mk hC; have HOB := Aside0.mk HO3.below; clear HO1 HO2 hC2 hR3 hb3 HO3 hl9 hC9 hC z0 z1 z2)))
  go_ret
  exact ⟨_, _, rfl, HC.out, HOB.out⟩

theorem box_below {w w' : World} {g t : Nat} {cs : Array Value} (h : w.heap[g]? = some (.cells cs t (0, 0))) (hb : Below w.heap.size w w') : w'.heap[g]? = some (.cells cs t (0, 0)) := (hb.block g (blk_lt h)).trans h
set_option maxHeartbeats 1000000 in
theorem unknown_calls (G : Int) (g : Nat) (A : Option Addr) (c : Nat) (l : List Int) (w : World) (hr : (Kd.int .i64).C w A l.length l) (hb0 : w.heap[g]? = some (.cells #[.int .i64 G] 3 (0, 0))) :
    Calls Try.prog 44 #[.slice A l.length c, .pointer (some ⟨g, 0, none⟩)] w fun e w' => e = .returned (.bool (l.any (unkP G))) ∧ Below w.heap.size w w' := by
  have hmf : ∀ (fn : Fn) (first cap : Array Value) (w : World), (Instr.makeFunc fn first cap).run Try.prog w = .ok (.func fn first cap) w := fun _ _ _ _ => rfl
  have HI := Aside0.mk (conI (unkP G) 46 #[.pointer (some ⟨g, 0, none⟩)] (enters_ (P := Try.prog) Try.func46 (by kernel_rfl) rfl) A c l w hr (fun x _ W hb => rules_checkRule_1_1.calls x G _ W (box_below hb0 hb) (unk_f G x)))
  clear hr hb0
  go_enter Try.func44, Try.ntmps44
  go_wp2_with (first
    | (go_at_call 45; refine HI.out.mono ?_; rintro e w' ⟨rfl, hb⟩))
  go_ret
  exact ⟨rfl, hb⟩
theorem call_f (n : Nat) (k L : Int) (f0 f1 f2 : List (List Int)) (f3 : List Int) (f4 : List S60) (x : S60) (h : f1.length = n) : rules_checkRule_2.f x.f0 x.f1 f0 f1 f2 f3 f4 k L = some (callP n k L x) := by
  unfold rules_checkRule_2.f callP
  rw [h]
  split
  · rename_i h; rw [decide_eq_true h]; rfl
  · rename_i h
    rw [decide_eq_false h]
    split
    · rename_i h; rw [decide_eq_true h]; rfl
    · rename_i h
      rw [decide_eq_false h]
      split
      · rename_i h; rw [decide_eq_true h]; rfl
      · rename_i h; rw [decide_eq_false h]; rfl
set_option maxRecDepth 100000 in
set_option maxHeartbeats 8000000 in
theorem checkRule_calls (f0 f1 f2 : List (List Int)) (f3 : List Int) (f4 : List S60) (A0 A1 A2 A3 A4 : Option Addr) (c0 c1 c2 c3 c4 : Nat) (k L G : Int) (w : World)
    (h0 : (Kd.slice 3 (Kd.int .i64)).C w A0 f0.length f0) (h1 : (Kd.slice 3 (Kd.int .i64)).C w A1 f1.length f1) (h2 : (Kd.slice 3 (Kd.int .i64)).C w A2 f2.length f2) (h3 : (Kd.int .i64).C w A3 f3.length f3) (h4 : k60.C w A4 f4.length f4)
    (hc0 : f0.length ≤ c0) (hc1 : f1.length ≤ c1) (hc2 : f2.length ≤ c2) (hc3 : f3.length ≤ c3) (hc4 : f4.length ≤ c4) :
    Calls Try.prog 34 #[.agg #[.slice A0 f0.length c0, .slice A1 f1.length c1, .slice A2 f2.length c2, .slice A3 f3.length c3, .slice A4 f4.length c4], .int .i64 k, .int .i64 L, .int .i64 G] w fun e w' => e = .returned (.int .i64 (ruleP ⟨f0, f1, f2, f3, f4⟩ k L G)) ∧ Below w.heap.size w w' := by
  have hmf : ∀ (fn : Fn) (first cap : Array Value) (w : World), (Instr.makeFunc fn first cap).run Try.prog w = .ok (.func fn first cap) w := fun _ _ _ _ => rfl
  have H0 := Aside0.mk h0
  have H1 := Aside0.mk h1
  have H2 := Aside0.mk h2
  have H3 := Aside0.mk h3
  have H4 := Aside0.mk h4
  have D0 := Aside0.mk hc0
  have D1 := Aside0.mk hc1
  have D2 := Aside0.mk hc2
  have D3 := Aside0.mk hc3
  have D4 := Aside0.mk hc4
  have HO := Own.start w
  clear h0 h1 h2 h3 h4 hc0 hc1 hc2 hc3 hc4
  go_enter Try.func34, Try.ntmps34
  by_cases a1 : f1.length = 0
  case pos =>
    have ea1 : ((f1.length : Int) == 0) = true := beq_iff_eq.mpr (by omega)
    have HV : Aside0 (ruleP ⟨f0, f1, f2, f3, f4⟩ k L G = 31) := ⟨by unfold ruleP; dsimp only; rw [if_pos (by omega)]⟩
    clear a1
    go_wp2_with (first
      | ((with_reducible refine gate_dst (N := 4) rfl ?_); refine ev_box (N := 4) (cs := #[.slice A0 f0.length c0, .slice A1 f1.length c1, .slice A2 f2.length c2, .slice A3 f3.length c3, .slice A4 f4.length c4]) (t := 49) HO rfl rfl ?hr ?_; (case hr => first | (go_simp; done) | (go_simp; rfl)); intro g4 W4 HO4 hb4; clear HO hb4; have z0 := HO4.box_cell 0 rfl 0 rfl; have z1 := HO4.box_cell 0 rfl 1 rfl; have z2 := HO4.box_cell 0 rfl 2 rfl; have z3 := HO4.box_cell 0 rfl 3 rfl; have z4 := HO4.box_cell 0 rfl 4 rfl)
      | ((with_reducible refine gate_dst (N := 5) rfl ?_); refine ev_box (N := 5) (cs := #[.int .i64 k]) (t := 3) HO4 rfl rfl ?hr ?_; (case hr => first | (go_simp; done) | (go_simp; rfl)); intro g5 W5 HO5 hb5; clear HO4 hb5; clear z0 z1 z2 z3 z4; have z0 := HO5.box_cell 0 rfl 0 rfl; have z1 := HO5.box_cell 0 rfl 1 rfl; have z2 := HO5.box_cell 0 rfl 2 rfl; have z3 := HO5.box_cell 0 rfl 3 rfl; have z4 := HO5.box_cell 0 rfl 4 rfl)
      | ((with_reducible refine gate_dst (N := 6) rfl ?_); refine ev_box (N := 6) (cs := #[.int .i64 L]) (t := 3) HO5 rfl rfl ?hr ?_; (case hr => first | (go_simp; done) | (go_simp; rfl)); intro g6 W6 HO6 hb6; clear HO5 hb6; clear z0 z1 z2 z3 z4; have z0 := HO6.box_cell 0 rfl 0 rfl; have z1 := HO6.box_cell 0 rfl 1 rfl; have z2 := HO6.box_cell 0 rfl 2 rfl; have z3 := HO6.box_cell 0 rfl 3 rfl; have z4 := HO6.box_cell 0 rfl 4 rfl)
      | ((with_reducible refine gate_dst (N := 7) rfl ?_); refine ev_box (N := 7) (cs := #[.int .i64 G]) (t := 3) HO6 rfl rfl ?hr ?_; (case hr => first | (go_simp; done) | (go_simp; rfl)); intro g7 W7 HO7 hb7; clear HO6 hb7; clear z0 z1 z2 z3 z4; have z0 := HO7.box_cell 0 rfl 0 rfl; have z1 := HO7.box_cell 0 rfl 1 rfl; have z2 := HO7.box_cell 0 rfl 2 rfl; have z3 := HO7.box_cell 0 rfl 3 rfl; have z4 := HO7.box_cell 0 rfl 4 rfl))
    go_ret
    exact ⟨by rw [HV.out]; rfl, HO7.below⟩
  case neg =>
    have ea1 : ((f1.length : Int) == 0) = false := beq_eq_false_iff_ne.mpr (by omega)
    by_cases a2 : f1.length > 4
    case pos =>
      have ea2 : ((f1.length : Int) > 4) = True := eq_true (by omega)
      have da2 : decide ((f1.length : Int) > 4) = true := decide_eq_true (by omega)
      have HV : Aside0 (ruleP ⟨f0, f1, f2, f3, f4⟩ k L G = 31) := ⟨by unfold ruleP; dsimp only; rw [if_pos (by omega)]⟩
      clear a1 a2
      go_wp2_with (first
        | ((with_reducible refine gate_dst (N := 4) rfl ?_); refine ev_box (N := 4) (cs := #[.slice A0 f0.length c0, .slice A1 f1.length c1, .slice A2 f2.length c2, .slice A3 f3.length c3, .slice A4 f4.length c4]) (t := 49) HO rfl rfl ?hr ?_; (case hr => first | (go_simp; done) | (go_simp; rfl)); intro g4 W4 HO4 hb4; clear HO hb4; have z0 := HO4.box_cell 0 rfl 0 rfl; have z1 := HO4.box_cell 0 rfl 1 rfl; have z2 := HO4.box_cell 0 rfl 2 rfl; have z3 := HO4.box_cell 0 rfl 3 rfl; have z4 := HO4.box_cell 0 rfl 4 rfl)
        | ((with_reducible refine gate_dst (N := 5) rfl ?_); refine ev_box (N := 5) (cs := #[.int .i64 k]) (t := 3) HO4 rfl rfl ?hr ?_; (case hr => first | (go_simp; done) | (go_simp; rfl)); intro g5 W5 HO5 hb5; clear HO4 hb5; clear z0 z1 z2 z3 z4; have z0 := HO5.box_cell 0 rfl 0 rfl; have z1 := HO5.box_cell 0 rfl 1 rfl; have z2 := HO5.box_cell 0 rfl 2 rfl; have z3 := HO5.box_cell 0 rfl 3 rfl; have z4 := HO5.box_cell 0 rfl 4 rfl)
        | ((with_reducible refine gate_dst (N := 6) rfl ?_); refine ev_box (N := 6) (cs := #[.int .i64 L]) (t := 3) HO5 rfl rfl ?hr ?_; (case hr => first | (go_simp; done) | (go_simp; rfl)); intro g6 W6 HO6 hb6; clear HO5 hb6; clear z0 z1 z2 z3 z4; have z0 := HO6.box_cell 0 rfl 0 rfl; have z1 := HO6.box_cell 0 rfl 1 rfl; have z2 := HO6.box_cell 0 rfl 2 rfl; have z3 := HO6.box_cell 0 rfl 3 rfl; have z4 := HO6.box_cell 0 rfl 4 rfl)
        | ((with_reducible refine gate_dst (N := 7) rfl ?_); refine ev_box (N := 7) (cs := #[.int .i64 G]) (t := 3) HO6 rfl rfl ?hr ?_; (case hr => first | (go_simp; done) | (go_simp; rfl)); intro g7 W7 HO7 hb7; clear HO6 hb7; clear z0 z1 z2 z3 z4; have z0 := HO7.box_cell 0 rfl 0 rfl; have z1 := HO7.box_cell 0 rfl 1 rfl; have z2 := HO7.box_cell 0 rfl 2 rfl; have z3 := HO7.box_cell 0 rfl 3 rfl; have z4 := HO7.box_cell 0 rfl 4 rfl))
      go_ret
      exact ⟨by rw [HV.out]; rfl, HO7.below⟩
    case neg =>
      have ea2 : ((f1.length : Int) > 4) = False := eq_false (by omega)
      have da2 : decide ((f1.length : Int) > 4) = false := decide_eq_false (by omega)
      by_cases a3 : f0.length > 3
      case pos =>
        have ea3 : ((f0.length : Int) > 3) = True := eq_true (by omega)
        have da3 : decide ((f0.length : Int) > 3) = true := decide_eq_true (by omega)
        have HV : Aside0 (ruleP ⟨f0, f1, f2, f3, f4⟩ k L G = 31) := ⟨by unfold ruleP; dsimp only; rw [if_pos (by omega)]⟩
        clear a1 a2 a3
        go_wp2_with (first
          | ((with_reducible refine gate_dst (N := 4) rfl ?_); refine ev_box (N := 4) (cs := #[.slice A0 f0.length c0, .slice A1 f1.length c1, .slice A2 f2.length c2, .slice A3 f3.length c3, .slice A4 f4.length c4]) (t := 49) HO rfl rfl ?hr ?_; (case hr => first | (go_simp; done) | (go_simp; rfl)); intro g4 W4 HO4 hb4; clear HO hb4; have z0 := HO4.box_cell 0 rfl 0 rfl; have z1 := HO4.box_cell 0 rfl 1 rfl; have z2 := HO4.box_cell 0 rfl 2 rfl; have z3 := HO4.box_cell 0 rfl 3 rfl; have z4 := HO4.box_cell 0 rfl 4 rfl)
          | ((with_reducible refine gate_dst (N := 5) rfl ?_); refine ev_box (N := 5) (cs := #[.int .i64 k]) (t := 3) HO4 rfl rfl ?hr ?_; (case hr => first | (go_simp; done) | (go_simp; rfl)); intro g5 W5 HO5 hb5; clear HO4 hb5; clear z0 z1 z2 z3 z4; have z0 := HO5.box_cell 0 rfl 0 rfl; have z1 := HO5.box_cell 0 rfl 1 rfl; have z2 := HO5.box_cell 0 rfl 2 rfl; have z3 := HO5.box_cell 0 rfl 3 rfl; have z4 := HO5.box_cell 0 rfl 4 rfl)
          | ((with_reducible refine gate_dst (N := 6) rfl ?_); refine ev_box (N := 6) (cs := #[.int .i64 L]) (t := 3) HO5 rfl rfl ?hr ?_; (case hr => first | (go_simp; done) | (go_simp; rfl)); intro g6 W6 HO6 hb6; clear HO5 hb6; clear z0 z1 z2 z3 z4; have z0 := HO6.box_cell 0 rfl 0 rfl; have z1 := HO6.box_cell 0 rfl 1 rfl; have z2 := HO6.box_cell 0 rfl 2 rfl; have z3 := HO6.box_cell 0 rfl 3 rfl; have z4 := HO6.box_cell 0 rfl 4 rfl)
          | ((with_reducible refine gate_dst (N := 7) rfl ?_); refine ev_box (N := 7) (cs := #[.int .i64 G]) (t := 3) HO6 rfl rfl ?hr ?_; (case hr => first | (go_simp; done) | (go_simp; rfl)); intro g7 W7 HO7 hb7; clear HO6 hb7; clear z0 z1 z2 z3 z4; have z0 := HO7.box_cell 0 rfl 0 rfl; have z1 := HO7.box_cell 0 rfl 1 rfl; have z2 := HO7.box_cell 0 rfl 2 rfl; have z3 := HO7.box_cell 0 rfl 3 rfl; have z4 := HO7.box_cell 0 rfl 4 rfl))
        go_ret
        exact ⟨by rw [HV.out]; rfl, HO7.below⟩
      case neg =>
        have ea3 : ((f0.length : Int) > 3) = False := eq_false (by omega)
        have da3 : decide ((f0.length : Int) > 3) = false := decide_eq_false (by omega)
        by_cases a4 : f2.length > 3
        case pos =>
          have ea4 : ((f2.length : Int) > 3) = True := eq_true (by omega)
          have da4 : decide ((f2.length : Int) > 3) = true := decide_eq_true (by omega)
          have HV : Aside0 (ruleP ⟨f0, f1, f2, f3, f4⟩ k L G = 31) := ⟨by unfold ruleP; dsimp only; rw [if_pos (by omega)]⟩
          clear a1 a2 a3 a4
          go_wp2_with (first
            | ((with_reducible refine gate_dst (N := 4) rfl ?_); refine ev_box (N := 4) (cs := #[.slice A0 f0.length c0, .slice A1 f1.length c1, .slice A2 f2.length c2, .slice A3 f3.length c3, .slice A4 f4.length c4]) (t := 49) HO rfl rfl ?hr ?_; (case hr => first | (go_simp; done) | (go_simp; rfl)); intro g4 W4 HO4 hb4; clear HO hb4; have z0 := HO4.box_cell 0 rfl 0 rfl; have z1 := HO4.box_cell 0 rfl 1 rfl; have z2 := HO4.box_cell 0 rfl 2 rfl; have z3 := HO4.box_cell 0 rfl 3 rfl; have z4 := HO4.box_cell 0 rfl 4 rfl)
            | ((with_reducible refine gate_dst (N := 5) rfl ?_); refine ev_box (N := 5) (cs := #[.int .i64 k]) (t := 3) HO4 rfl rfl ?hr ?_; (case hr => first | (go_simp; done) | (go_simp; rfl)); intro g5 W5 HO5 hb5; clear HO4 hb5; clear z0 z1 z2 z3 z4; have z0 := HO5.box_cell 0 rfl 0 rfl; have z1 := HO5.box_cell 0 rfl 1 rfl; have z2 := HO5.box_cell 0 rfl 2 rfl; have z3 := HO5.box_cell 0 rfl 3 rfl; have z4 := HO5.box_cell 0 rfl 4 rfl)
            | ((with_reducible refine gate_dst (N := 6) rfl ?_); refine ev_box (N := 6) (cs := #[.int .i64 L]) (t := 3) HO5 rfl rfl ?hr ?_; (case hr => first | (go_simp; done) | (go_simp; rfl)); intro g6 W6 HO6 hb6; clear HO5 hb6; clear z0 z1 z2 z3 z4; have z0 := HO6.box_cell 0 rfl 0 rfl; have z1 := HO6.box_cell 0 rfl 1 rfl; have z2 := HO6.box_cell 0 rfl 2 rfl; have z3 := HO6.box_cell 0 rfl 3 rfl; have z4 := HO6.box_cell 0 rfl 4 rfl)
            | ((with_reducible refine gate_dst (N := 7) rfl ?_); refine ev_box (N := 7) (cs := #[.int .i64 G]) (t := 3) HO6 rfl rfl ?hr ?_; (case hr => first | (go_simp; done) | (go_simp; rfl)); intro g7 W7 HO7 hb7; clear HO6 hb7; clear z0 z1 z2 z3 z4; have z0 := HO7.box_cell 0 rfl 0 rfl; have z1 := HO7.box_cell 0 rfl 1 rfl; have z2 := HO7.box_cell 0 rfl 2 rfl; have z3 := HO7.box_cell 0 rfl 3 rfl; have z4 := HO7.box_cell 0 rfl 4 rfl))
          go_ret
          exact ⟨by rw [HV.out]; rfl, HO7.below⟩
        case neg =>
          have ea4 : ((f2.length : Int) > 3) = False := eq_false (by omega)
          have da4 : decide ((f2.length : Int) > 3) = false := decide_eq_false (by omega)
          by_cases b1 : f3.length > 4
          case pos =>
            have eb1 : ((f3.length : Int) > 4) = True := eq_true (by omega)
            have db1 : decide ((f3.length : Int) > 4) = true := decide_eq_true (by omega)
            have HV : Aside0 (ruleP ⟨f0, f1, f2, f3, f4⟩ k L G = 31) := ⟨by unfold ruleP; dsimp only; rw [if_neg (by omega), if_pos (by omega)]⟩
            clear a1 a2 a3 a4 b1
            go_wp2_with (first
              | ((with_reducible refine gate_dst (N := 4) rfl ?_); refine ev_box (N := 4) (cs := #[.slice A0 f0.length c0, .slice A1 f1.length c1, .slice A2 f2.length c2, .slice A3 f3.length c3, .slice A4 f4.length c4]) (t := 49) HO rfl rfl ?hr ?_; (case hr => first | (go_simp; done) | (go_simp; rfl)); intro g4 W4 HO4 hb4; clear HO hb4; have z0 := HO4.box_cell 0 rfl 0 rfl; have z1 := HO4.box_cell 0 rfl 1 rfl; have z2 := HO4.box_cell 0 rfl 2 rfl; have z3 := HO4.box_cell 0 rfl 3 rfl; have z4 := HO4.box_cell 0 rfl 4 rfl)
              | ((with_reducible refine gate_dst (N := 5) rfl ?_); refine ev_box (N := 5) (cs := #[.int .i64 k]) (t := 3) HO4 rfl rfl ?hr ?_; (case hr => first | (go_simp; done) | (go_simp; rfl)); intro g5 W5 HO5 hb5; clear HO4 hb5; clear z0 z1 z2 z3 z4; have z0 := HO5.box_cell 0 rfl 0 rfl; have z1 := HO5.box_cell 0 rfl 1 rfl; have z2 := HO5.box_cell 0 rfl 2 rfl; have z3 := HO5.box_cell 0 rfl 3 rfl; have z4 := HO5.box_cell 0 rfl 4 rfl)
              | ((with_reducible refine gate_dst (N := 6) rfl ?_); refine ev_box (N := 6) (cs := #[.int .i64 L]) (t := 3) HO5 rfl rfl ?hr ?_; (case hr => first | (go_simp; done) | (go_simp; rfl)); intro g6 W6 HO6 hb6; clear HO5 hb6; clear z0 z1 z2 z3 z4; have z0 := HO6.box_cell 0 rfl 0 rfl; have z1 := HO6.box_cell 0 rfl 1 rfl; have z2 := HO6.box_cell 0 rfl 2 rfl; have z3 := HO6.box_cell 0 rfl 3 rfl; have z4 := HO6.box_cell 0 rfl 4 rfl)
              | ((with_reducible refine gate_dst (N := 7) rfl ?_); refine ev_box (N := 7) (cs := #[.int .i64 G]) (t := 3) HO6 rfl rfl ?hr ?_; (case hr => first | (go_simp; done) | (go_simp; rfl)); intro g7 W7 HO7 hb7; clear HO6 hb7; clear z0 z1 z2 z3 z4; have z0 := HO7.box_cell 0 rfl 0 rfl; have z1 := HO7.box_cell 0 rfl 1 rfl; have z2 := HO7.box_cell 0 rfl 2 rfl; have z3 := HO7.box_cell 0 rfl 3 rfl; have z4 := HO7.box_cell 0 rfl 4 rfl))
            go_ret
            exact ⟨by rw [HV.out]; rfl, HO7.below⟩
          case neg =>
            have eb1 : ((f3.length : Int) > 4) = False := eq_false (by omega)
            have db1 : decide ((f3.length : Int) > 4) = false := decide_eq_false (by omega)
            by_cases b2 : f4.length > 3
            case pos =>
              have eb2 : ((f4.length : Int) > 3) = True := eq_true (by omega)
              have db2 : decide ((f4.length : Int) > 3) = true := decide_eq_true (by omega)
              have HV : Aside0 (ruleP ⟨f0, f1, f2, f3, f4⟩ k L G = 31) := ⟨by unfold ruleP; dsimp only; rw [if_neg (by omega), if_pos (by omega)]⟩
              clear a1 a2 a3 a4 b1 b2
              go_wp2_with (first
                | ((with_reducible refine gate_dst (N := 4) rfl ?_); refine ev_box (N := 4) (cs := #[.slice A0 f0.length c0, .slice A1 f1.length c1, .slice A2 f2.length c2, .slice A3 f3.length c3, .slice A4 f4.length c4]) (t := 49) HO rfl rfl ?hr ?_; (case hr => first | (go_simp; done) | (go_simp; rfl)); intro g4 W4 HO4 hb4; clear HO hb4; have z0 := HO4.box_cell 0 rfl 0 rfl; have z1 := HO4.box_cell 0 rfl 1 rfl; have z2 := HO4.box_cell 0 rfl 2 rfl; have z3 := HO4.box_cell 0 rfl 3 rfl; have z4 := HO4.box_cell 0 rfl 4 rfl)
                | ((with_reducible refine gate_dst (N := 5) rfl ?_); refine ev_box (N := 5) (cs := #[.int .i64 k]) (t := 3) HO4 rfl rfl ?hr ?_; (case hr => first | (go_simp; done) | (go_simp; rfl)); intro g5 W5 HO5 hb5; clear HO4 hb5; clear z0 z1 z2 z3 z4; have z0 := HO5.box_cell 0 rfl 0 rfl; have z1 := HO5.box_cell 0 rfl 1 rfl; have z2 := HO5.box_cell 0 rfl 2 rfl; have z3 := HO5.box_cell 0 rfl 3 rfl; have z4 := HO5.box_cell 0 rfl 4 rfl)
                | ((with_reducible refine gate_dst (N := 6) rfl ?_); refine ev_box (N := 6) (cs := #[.int .i64 L]) (t := 3) HO5 rfl rfl ?hr ?_; (case hr => first | (go_simp; done) | (go_simp; rfl)); intro g6 W6 HO6 hb6; clear HO5 hb6; clear z0 z1 z2 z3 z4; have z0 := HO6.box_cell 0 rfl 0 rfl; have z1 := HO6.box_cell 0 rfl 1 rfl; have z2 := HO6.box_cell 0 rfl 2 rfl; have z3 := HO6.box_cell 0 rfl 3 rfl; have z4 := HO6.box_cell 0 rfl 4 rfl)
                | ((with_reducible refine gate_dst (N := 7) rfl ?_); refine ev_box (N := 7) (cs := #[.int .i64 G]) (t := 3) HO6 rfl rfl ?hr ?_; (case hr => first | (go_simp; done) | (go_simp; rfl)); intro g7 W7 HO7 hb7; clear HO6 hb7; clear z0 z1 z2 z3 z4; have z0 := HO7.box_cell 0 rfl 0 rfl; have z1 := HO7.box_cell 0 rfl 1 rfl; have z2 := HO7.box_cell 0 rfl 2 rfl; have z3 := HO7.box_cell 0 rfl 3 rfl; have z4 := HO7.box_cell 0 rfl 4 rfl))
              go_ret
              exact ⟨by rw [HV.out]; rfl, HO7.below⟩
            case neg =>
              have eb2 : ((f4.length : Int) > 3) = False := eq_false (by omega)
              have db2 : decide ((f4.length : Int) > 3) = false := decide_eq_false (by omega)
              by_cases b3 : f3.length > 0
              case pos =>
                have eb3 : ((f3.length : Int) > 0) = True := eq_true (by omega)
                have db3 : decide ((f3.length : Int) > 0) = true := decide_eq_true (by omega)
                have pb3 : (0 < f3.length) = True := eq_true (by omega)
                have qb3 : decide (0 < f3.length) = true := decide_eq_true (by omega)
                have nb3 : (f3 = []) = False := eq_false (by intro h; rw [h] at b3; exact absurd b3 (Nat.lt_irrefl _))
                by_cases b4 : f4.length > 0
                case pos =>
                  have eb4 : ((f4.length : Int) > 0) = True := eq_true (by omega)
                  have db4 : decide ((f4.length : Int) > 0) = true := decide_eq_true (by omega)
                  have pb4 : (0 < f4.length) = True := eq_true (by omega)
                  have qb4 : decide (0 < f4.length) = true := decide_eq_true (by omega)
                  have nb4 : (f4 = []) = False := eq_false (by intro h; rw [h] at b4; exact absurd b4 (Nat.lt_irrefl _))
                  have HV : Aside0 (ruleP ⟨f0, f1, f2, f3, f4⟩ k L G = 31) := ⟨by unfold ruleP; dsimp only; rw [if_neg (by omega), if_pos (by omega)]⟩
                  clear a1 a2 a3 a4 b1 b2 b3 b4
                  go_wp2_with (first
                    | ((with_reducible refine gate_dst (N := 4) rfl ?_); refine ev_box (N := 4) (cs := #[.slice A0 f0.length c0, .slice A1 f1.length c1, .slice A2 f2.length c2, .slice A3 f3.length c3, .slice A4 f4.length c4]) (t := 49) HO rfl rfl ?hr ?_; (case hr => first | (go_simp; done) | (go_simp; rfl)); intro g4 W4 HO4 hb4; clear HO hb4; have z0 := HO4.box_cell 0 rfl 0 rfl; have z1 := HO4.box_cell 0 rfl 1 rfl; have z2 := HO4.box_cell 0 rfl 2 rfl; have z3 := HO4.box_cell 0 rfl 3 rfl; have z4 := HO4.box_cell 0 rfl 4 rfl)
                    | ((with_reducible refine gate_dst (N := 5) rfl ?_); refine ev_box (N := 5) (cs := #[.int .i64 k]) (t := 3) HO4 rfl rfl ?hr ?_; (case hr => first | (go_simp; done) | (go_simp; rfl)); intro g5 W5 HO5 hb5; clear HO4 hb5; clear z0 z1 z2 z3 z4; have z0 := HO5.box_cell 0 rfl 0 rfl; have z1 := HO5.box_cell 0 rfl 1 rfl; have z2 := HO5.box_cell 0 rfl 2 rfl; have z3 := HO5.box_cell 0 rfl 3 rfl; have z4 := HO5.box_cell 0 rfl 4 rfl)
                    | ((with_reducible refine gate_dst (N := 6) rfl ?_); refine ev_box (N := 6) (cs := #[.int .i64 L]) (t := 3) HO5 rfl rfl ?hr ?_; (case hr => first | (go_simp; done) | (go_simp; rfl)); intro g6 W6 HO6 hb6; clear HO5 hb6; clear z0 z1 z2 z3 z4; have z0 := HO6.box_cell 0 rfl 0 rfl; have z1 := HO6.box_cell 0 rfl 1 rfl; have z2 := HO6.box_cell 0 rfl 2 rfl; have z3 := HO6.box_cell 0 rfl 3 rfl; have z4 := HO6.box_cell 0 rfl 4 rfl)
                    | ((with_reducible refine gate_dst (N := 7) rfl ?_); refine ev_box (N := 7) (cs := #[.int .i64 G]) (t := 3) HO6 rfl rfl ?hr ?_; (case hr => first | (go_simp; done) | (go_simp; rfl)); intro g7 W7 HO7 hb7; clear HO6 hb7; clear z0 z1 z2 z3 z4; have z0 := HO7.box_cell 0 rfl 0 rfl; have z1 := HO7.box_cell 0 rfl 1 rfl; have z2 := HO7.box_cell 0 rfl 2 rfl; have z3 := HO7.box_cell 0 rfl 3 rfl; have z4 := HO7.box_cell 0 rfl 4 rfl))
                  go_ret
                  exact ⟨by rw [HV.out]; rfl, HO7.below⟩
                case neg =>
                  have eb4 : ((f4.length : Int) > 0) = False := eq_false (by omega)
                  have db4 : decide ((f4.length : Int) > 0) = false := decide_eq_false (by omega)
                  have pb4 : (0 < f4.length) = False := eq_false (by omega)
                  have qb4 : decide (0 < f4.length) = false := decide_eq_false (by omega)
                  have nb4 : (f4 = []) = True := eq_true (List.eq_nil_of_length_eq_zero (by omega))
                  have HN0 := Aside0.mk (show f0.length ≤ 3 by omega)
                  have HN1 := Aside0.mk (show f1.length ≤ 4 by omega)
                  have HN2 := Aside0.mk (show f2.length ≤ 3 by omega)
                  have k1 := Aside0.mk (show ¬ (f1.length = 0 ∨ f1.length > 4 ∨ f0.length > 3 ∨ f2.length > 3) by omega)
                  have k2 := Aside0.mk (show ¬ (f3.length > 4 ∨ f4.length > 3 ∨ (f3.length > 0 ∧ f4.length > 0)) by omega)
                  obtain ⟨fl, hfl⟩ : ∃ fl, f1 ++ f0 ++ f2 = fl := ⟨_, rfl⟩
                  have HFL := Aside0.mk hfl
                  cases hw : fl.any wrongP
                  case true =>
                    have HW := Aside0.mk hw
                    have HV : Aside0 (ruleP ⟨f0, f1, f2, f3, f4⟩ k L G = 31) := ⟨by unfold ruleP; dsimp only; rw [if_neg k1.out, if_neg k2.out, hfl, if_pos hw]⟩
                    clear a1 a2 a3 a4 b1 b2 b3 b4 hfl hw
                    go_wp2_with (first
                      | ((with_reducible refine gate_dst (N := 4) rfl ?_); refine ev_box (N := 4) (cs := #[.slice A0 f0.length c0, .slice A1 f1.length c1, .slice A2 f2.length c2, .slice A3 f3.length c3, .slice A4 f4.length c4]) (t := 49) HO rfl rfl ?hr ?_; (case hr => first | (go_simp; done) | (go_simp; rfl)); intro g4 W4 HO4 hb4; clear HO hb4; have z0 := HO4.box_cell 0 rfl 0 rfl; have z1 := HO4.box_cell 0 rfl 1 rfl; have z2 := HO4.box_cell 0 rfl 2 rfl; have z3 := HO4.box_cell 0 rfl 3 rfl; have z4 := HO4.box_cell 0 rfl 4 rfl)
                      | ((with_reducible refine gate_dst (N := 5) rfl ?_); refine ev_box (N := 5) (cs := #[.int .i64 k]) (t := 3) HO4 rfl rfl ?hr ?_; (case hr => first | (go_simp; done) | (go_simp; rfl)); intro g5 W5 HO5 hb5; clear HO4 hb5; clear z0 z1 z2 z3 z4; have z0 := HO5.box_cell 0 rfl 0 rfl; have z1 := HO5.box_cell 0 rfl 1 rfl; have z2 := HO5.box_cell 0 rfl 2 rfl; have z3 := HO5.box_cell 0 rfl 3 rfl; have z4 := HO5.box_cell 0 rfl 4 rfl)
                      | ((with_reducible refine gate_dst (N := 6) rfl ?_); refine ev_box (N := 6) (cs := #[.int .i64 L]) (t := 3) HO5 rfl rfl ?hr ?_; (case hr => first | (go_simp; done) | (go_simp; rfl)); intro g6 W6 HO6 hb6; clear HO5 hb6; clear z0 z1 z2 z3 z4; have z0 := HO6.box_cell 0 rfl 0 rfl; have z1 := HO6.box_cell 0 rfl 1 rfl; have z2 := HO6.box_cell 0 rfl 2 rfl; have z3 := HO6.box_cell 0 rfl 3 rfl; have z4 := HO6.box_cell 0 rfl 4 rfl)
                      | ((with_reducible refine gate_dst (N := 7) rfl ?_); refine ev_box (N := 7) (cs := #[.int .i64 G]) (t := 3) HO6 rfl rfl ?hr ?_; (case hr => first | (go_simp; done) | (go_simp; rfl)); intro g7 W7 HO7 hb7; clear HO6 hb7; clear z0 z1 z2 z3 z4; have z0 := HO7.box_cell 0 rfl 0 rfl; have z1 := HO7.box_cell 0 rfl 1 rfl; have z2 := HO7.box_cell 0 rfl 2 rfl; have z3 := HO7.box_cell 0 rfl 3 rfl; have z4 := HO7.box_cell 0 rfl 4 rfl)
                      | (go_at_call 49; go_loud (refine (context_calls f0 f1 f2 A0 A1 A2 c0 c1 c2 _ _ rfl rfl _ (HO7.old H0.out) (HO7.old H1.out) (HO7.old H2.out) D0.out D1.out D2.out (by have := HN0.out; omega) (by have := HN1.out; omega) (by have := HN2.out; omega)).mono ?_; rintro e W8 ⟨Ac, cc, rfl, hCc, hb⟩; rw [HFL.out] at hCc ⊢; have HO8 := HO7.grow hb; clear HO7 hb; clear z0 z1 z2 z3 z4; have z0 := HO8.box_cell 0 rfl 0 rfl; have z1 := HO8.box_cell 0 rfl 1 rfl; have z2 := HO8.box_cell 0 rfl 2 rfl; have z3 := HO8.box_cell 0 rfl 3 rfl; have z4 := HO8.box_cell 0 rfl 4 rfl))
                      | (go_at_call 48; refine (conL wrongP 50 #[] (enters_ (P := Try.prog) Try.func50 (by kernel_rfl) rfl) Ac cc fl _ hCc (fun x hx A' c' W hb hc hC => (rules_wrongSet.calls _ A' c' x _ W hC hc (Ev.rounds (wrong_ev x (Kd.C_max hC))).choose_spec).mono (fun e w' h => ⟨h.1, h.2.below⟩))).mono ?_; rintro e W9 ⟨rfl, hb⟩; rw [HW.out]; have HO9 := HO8.grow hb; clear HO8 hb hCc; clear z0 z1 z2 z3 z4; have z0 := HO9.box_cell 0 rfl 0 rfl; have z1 := HO9.box_cell 0 rfl 1 rfl; have z2 := HO9.box_cell 0 rfl 2 rfl; have z3 := HO9.box_cell 0 rfl 3 rfl; have z4 := HO9.box_cell 0 rfl 4 rfl))
                    go_ret
                    exact ⟨by rw [HV.out]; rfl, HO9.below⟩
                  case false =>
                    have HW := Aside0.mk hw
                    cases hu : fl.any (fun l => l.any (unkP G))
                    case true =>
                      have HU := Aside0.mk hu
                      have HV : Aside0 (ruleP ⟨f0, f1, f2, f3, f4⟩ k L G = 30) := ⟨by unfold ruleP; dsimp only; rw [if_neg k1.out, if_neg k2.out, hfl, if_neg (by rw [hw]; decide), if_pos (.inl hu)]⟩
                      clear a1 a2 a3 a4 b1 b2 b3 b4 hfl hw hu
                      go_wp2_with (first
                        | ((with_reducible refine gate_dst (N := 4) rfl ?_); refine ev_box (N := 4) (cs := #[.slice A0 f0.length c0, .slice A1 f1.length c1, .slice A2 f2.length c2, .slice A3 f3.length c3, .slice A4 f4.length c4]) (t := 49) HO rfl rfl ?hr ?_; (case hr => first | (go_simp; done) | (go_simp; rfl)); intro g4 W4 HO4 hb4; clear HO hb4; have z0 := HO4.box_cell 0 rfl 0 rfl; have z1 := HO4.box_cell 0 rfl 1 rfl; have z2 := HO4.box_cell 0 rfl 2 rfl; have z3 := HO4.box_cell 0 rfl 3 rfl; have z4 := HO4.box_cell 0 rfl 4 rfl)
                        | ((with_reducible refine gate_dst (N := 5) rfl ?_); refine ev_box (N := 5) (cs := #[.int .i64 k]) (t := 3) HO4 rfl rfl ?hr ?_; (case hr => first | (go_simp; done) | (go_simp; rfl)); intro g5 W5 HO5 hb5; clear HO4 hb5; clear z0 z1 z2 z3 z4; have z0 := HO5.box_cell 0 rfl 0 rfl; have z1 := HO5.box_cell 0 rfl 1 rfl; have z2 := HO5.box_cell 0 rfl 2 rfl; have z3 := HO5.box_cell 0 rfl 3 rfl; have z4 := HO5.box_cell 0 rfl 4 rfl)
                        | ((with_reducible refine gate_dst (N := 6) rfl ?_); refine ev_box (N := 6) (cs := #[.int .i64 L]) (t := 3) HO5 rfl rfl ?hr ?_; (case hr => first | (go_simp; done) | (go_simp; rfl)); intro g6 W6 HO6 hb6; clear HO5 hb6; clear z0 z1 z2 z3 z4; have z0 := HO6.box_cell 0 rfl 0 rfl; have z1 := HO6.box_cell 0 rfl 1 rfl; have z2 := HO6.box_cell 0 rfl 2 rfl; have z3 := HO6.box_cell 0 rfl 3 rfl; have z4 := HO6.box_cell 0 rfl 4 rfl)
                        | ((with_reducible refine gate_dst (N := 7) rfl ?_); refine ev_box (N := 7) (cs := #[.int .i64 G]) (t := 3) HO6 rfl rfl ?hr ?_; (case hr => first | (go_simp; done) | (go_simp; rfl)); intro g7 W7 HO7 hb7; clear HO6 hb7; clear z0 z1 z2 z3 z4; have z0 := HO7.box_cell 0 rfl 0 rfl; have z1 := HO7.box_cell 0 rfl 1 rfl; have z2 := HO7.box_cell 0 rfl 2 rfl; have z3 := HO7.box_cell 0 rfl 3 rfl; have z4 := HO7.box_cell 0 rfl 4 rfl)
                        | (go_at_call 49; go_loud (refine (context_calls f0 f1 f2 A0 A1 A2 c0 c1 c2 _ _ rfl rfl _ (HO7.old H0.out) (HO7.old H1.out) (HO7.old H2.out) D0.out D1.out D2.out (by have := HN0.out; omega) (by have := HN1.out; omega) (by have := HN2.out; omega)).mono ?_; rintro e W8 ⟨Ac, cc, rfl, hCc, hb⟩; rw [HFL.out] at hCc ⊢; have HO8 := HO7.grow hb; clear HO7 hb; clear z0 z1 z2 z3 z4; have z0 := HO8.box_cell 0 rfl 0 rfl; have z1 := HO8.box_cell 0 rfl 1 rfl; have z2 := HO8.box_cell 0 rfl 2 rfl; have z3 := HO8.box_cell 0 rfl 3 rfl; have z4 := HO8.box_cell 0 rfl 4 rfl))
                        | (go_at_call 48; refine (conL wrongP 50 #[] (enters_ (P := Try.prog) Try.func50 (by kernel_rfl) rfl) Ac cc fl _ hCc (fun x hx A' c' W hb hc hC => (rules_wrongSet.calls _ A' c' x _ W hC hc (Ev.rounds (wrong_ev x (Kd.C_max hC))).choose_spec).mono (fun e w' h => ⟨h.1, h.2.below⟩))).mono ?_; rintro e W9 ⟨rfl, hb⟩; rw [HW.out]; have HO9 := HO8.grow hb; clear HO8 hb hCc; clear z0 z1 z2 z3 z4; have z0 := HO9.box_cell 0 rfl 0 rfl; have z1 := HO9.box_cell 0 rfl 1 rfl; have z2 := HO9.box_cell 0 rfl 2 rfl; have z3 := HO9.box_cell 0 rfl 3 rfl; have z4 := HO9.box_cell 0 rfl 4 rfl)
                        | (go_at_call 49; go_loud (refine (context_calls f0 f1 f2 A0 A1 A2 c0 c1 c2 _ _ rfl rfl _ (HO9.old H0.out) (HO9.old H1.out) (HO9.old H2.out) D0.out D1.out D2.out (by have := HN0.out; omega) (by have := HN1.out; omega) (by have := HN2.out; omega)).mono ?_; rintro e W10 ⟨Ac, cc, rfl, hCc, hb⟩; rw [HFL.out] at hCc ⊢; have HO10 := HO9.grow hb; clear HO9 hb; clear z0 z1 z2 z3 z4; have z0 := HO10.box_cell 0 rfl 0 rfl; have z1 := HO10.box_cell 0 rfl 1 rfl; have z2 := HO10.box_cell 0 rfl 2 rfl; have z3 := HO10.box_cell 0 rfl 3 rfl; have z4 := HO10.box_cell 0 rfl 4 rfl))
                        | (go_at_call 48; refine (conL (fun l => l.any (unkP G)) 44 #[.pointer (some ⟨g7, 0, none⟩)] (enters_ (P := Try.prog) Try.func44 (by kernel_rfl) rfl) Ac cc fl _ hCc (fun x hx A' c' W hb hc hC => unknown_calls G g7 A' c' x W hC (box_below (HO10.box_at 3 rfl).1 hb))).mono ?_; rintro e W11 ⟨rfl, hb⟩; rw [HU.out]; have HO11 := HO10.grow hb; clear HO10 hb hCc; clear z0 z1 z2 z3 z4; have z0 := HO11.box_cell 0 rfl 0 rfl; have z1 := HO11.box_cell 0 rfl 1 rfl; have z2 := HO11.box_cell 0 rfl 2 rfl; have z3 := HO11.box_cell 0 rfl 3 rfl; have z4 := HO11.box_cell 0 rfl 4 rfl))
                      go_ret
                      exact ⟨by rw [HV.out]; rfl, HO11.below⟩
                    case false =>
                      have HU := Aside0.mk hu
                      cases hv : f3.any (unkP G)
                      case true =>
                        have HV3 := Aside0.mk hv
                        have HV : Aside0 (ruleP ⟨f0, f1, f2, f3, f4⟩ k L G = 30) := ⟨by unfold ruleP; dsimp only; rw [if_neg k1.out, if_neg k2.out, hfl, if_neg (by rw [hw]; decide), if_pos (.inr hv)]⟩
                        clear a1 a2 a3 a4 b1 b2 b3 b4 hfl hw hu hv
                        go_wp2_with (first
                          | ((with_reducible refine gate_dst (N := 4) rfl ?_); refine ev_box (N := 4) (cs := #[.slice A0 f0.length c0, .slice A1 f1.length c1, .slice A2 f2.length c2, .slice A3 f3.length c3, .slice A4 f4.length c4]) (t := 49) HO rfl rfl ?hr ?_; (case hr => first | (go_simp; done) | (go_simp; rfl)); intro g4 W4 HO4 hb4; clear HO hb4; have z0 := HO4.box_cell 0 rfl 0 rfl; have z1 := HO4.box_cell 0 rfl 1 rfl; have z2 := HO4.box_cell 0 rfl 2 rfl; have z3 := HO4.box_cell 0 rfl 3 rfl; have z4 := HO4.box_cell 0 rfl 4 rfl)
                          | ((with_reducible refine gate_dst (N := 5) rfl ?_); refine ev_box (N := 5) (cs := #[.int .i64 k]) (t := 3) HO4 rfl rfl ?hr ?_; (case hr => first | (go_simp; done) | (go_simp; rfl)); intro g5 W5 HO5 hb5; clear HO4 hb5; clear z0 z1 z2 z3 z4; have z0 := HO5.box_cell 0 rfl 0 rfl; have z1 := HO5.box_cell 0 rfl 1 rfl; have z2 := HO5.box_cell 0 rfl 2 rfl; have z3 := HO5.box_cell 0 rfl 3 rfl; have z4 := HO5.box_cell 0 rfl 4 rfl)
                          | ((with_reducible refine gate_dst (N := 6) rfl ?_); refine ev_box (N := 6) (cs := #[.int .i64 L]) (t := 3) HO5 rfl rfl ?hr ?_; (case hr => first | (go_simp; done) | (go_simp; rfl)); intro g6 W6 HO6 hb6; clear HO5 hb6; clear z0 z1 z2 z3 z4; have z0 := HO6.box_cell 0 rfl 0 rfl; have z1 := HO6.box_cell 0 rfl 1 rfl; have z2 := HO6.box_cell 0 rfl 2 rfl; have z3 := HO6.box_cell 0 rfl 3 rfl; have z4 := HO6.box_cell 0 rfl 4 rfl)
                          | ((with_reducible refine gate_dst (N := 7) rfl ?_); refine ev_box (N := 7) (cs := #[.int .i64 G]) (t := 3) HO6 rfl rfl ?hr ?_; (case hr => first | (go_simp; done) | (go_simp; rfl)); intro g7 W7 HO7 hb7; clear HO6 hb7; clear z0 z1 z2 z3 z4; have z0 := HO7.box_cell 0 rfl 0 rfl; have z1 := HO7.box_cell 0 rfl 1 rfl; have z2 := HO7.box_cell 0 rfl 2 rfl; have z3 := HO7.box_cell 0 rfl 3 rfl; have z4 := HO7.box_cell 0 rfl 4 rfl)
                          | (go_at_call 49; go_loud (refine (context_calls f0 f1 f2 A0 A1 A2 c0 c1 c2 _ _ rfl rfl _ (HO7.old H0.out) (HO7.old H1.out) (HO7.old H2.out) D0.out D1.out D2.out (by have := HN0.out; omega) (by have := HN1.out; omega) (by have := HN2.out; omega)).mono ?_; rintro e W8 ⟨Ac, cc, rfl, hCc, hb⟩; rw [HFL.out] at hCc ⊢; have HO8 := HO7.grow hb; clear HO7 hb; clear z0 z1 z2 z3 z4; have z0 := HO8.box_cell 0 rfl 0 rfl; have z1 := HO8.box_cell 0 rfl 1 rfl; have z2 := HO8.box_cell 0 rfl 2 rfl; have z3 := HO8.box_cell 0 rfl 3 rfl; have z4 := HO8.box_cell 0 rfl 4 rfl))
                          | (go_at_call 48; refine (conL wrongP 50 #[] (enters_ (P := Try.prog) Try.func50 (by kernel_rfl) rfl) Ac cc fl _ hCc (fun x hx A' c' W hb hc hC => (rules_wrongSet.calls _ A' c' x _ W hC hc (Ev.rounds (wrong_ev x (Kd.C_max hC))).choose_spec).mono (fun e w' h => ⟨h.1, h.2.below⟩))).mono ?_; rintro e W9 ⟨rfl, hb⟩; rw [HW.out]; have HO9 := HO8.grow hb; clear HO8 hb hCc; clear z0 z1 z2 z3 z4; have z0 := HO9.box_cell 0 rfl 0 rfl; have z1 := HO9.box_cell 0 rfl 1 rfl; have z2 := HO9.box_cell 0 rfl 2 rfl; have z3 := HO9.box_cell 0 rfl 3 rfl; have z4 := HO9.box_cell 0 rfl 4 rfl)
                          | (go_at_call 49; go_loud (refine (context_calls f0 f1 f2 A0 A1 A2 c0 c1 c2 _ _ rfl rfl _ (HO9.old H0.out) (HO9.old H1.out) (HO9.old H2.out) D0.out D1.out D2.out (by have := HN0.out; omega) (by have := HN1.out; omega) (by have := HN2.out; omega)).mono ?_; rintro e W10 ⟨Ac, cc, rfl, hCc, hb⟩; rw [HFL.out] at hCc ⊢; have HO10 := HO9.grow hb; clear HO9 hb; clear z0 z1 z2 z3 z4; have z0 := HO10.box_cell 0 rfl 0 rfl; have z1 := HO10.box_cell 0 rfl 1 rfl; have z2 := HO10.box_cell 0 rfl 2 rfl; have z3 := HO10.box_cell 0 rfl 3 rfl; have z4 := HO10.box_cell 0 rfl 4 rfl))
                          | (go_at_call 48; refine (conL (fun l => l.any (unkP G)) 44 #[.pointer (some ⟨g7, 0, none⟩)] (enters_ (P := Try.prog) Try.func44 (by kernel_rfl) rfl) Ac cc fl _ hCc (fun x hx A' c' W hb hc hC => unknown_calls G g7 A' c' x W hC (box_below (HO10.box_at 3 rfl).1 hb))).mono ?_; rintro e W11 ⟨rfl, hb⟩; rw [HU.out]; have HO11 := HO10.grow hb; clear HO10 hb hCc; clear z0 z1 z2 z3 z4; have z0 := HO11.box_cell 0 rfl 0 rfl; have z1 := HO11.box_cell 0 rfl 1 rfl; have z2 := HO11.box_cell 0 rfl 2 rfl; have z3 := HO11.box_cell 0 rfl 3 rfl; have z4 := HO11.box_cell 0 rfl 4 rfl)
                          | (go_at_call 44; refine (unknown_calls G g7 A3 c3 f3 _ (HO11.old H3.out) (HO11.box_at 3 rfl).1).mono ?_; rintro e W12 ⟨rfl, hb⟩; rw [HV3.out]; have HO12 := HO11.grow hb; clear HO11 hb; clear z0 z1 z2 z3 z4; have z0 := HO12.box_cell 0 rfl 0 rfl; have z1 := HO12.box_cell 0 rfl 1 rfl; have z2 := HO12.box_cell 0 rfl 2 rfl; have z3 := HO12.box_cell 0 rfl 3 rfl; have z4 := HO12.box_cell 0 rfl 4 rfl))
                        go_ret
                        exact ⟨by rw [HV.out]; rfl, HO12.below⟩
                      case false =>
                        have HV3 := Aside0.mk hv
                        cases h5 : f4.any (callP f1.length k L)
                        case true =>
                          have HC5 := Aside0.mk h5
                          have HV : Aside0 (ruleP ⟨f0, f1, f2, f3, f4⟩ k L G = 32) := ⟨by unfold ruleP; dsimp only; rw [if_neg k1.out, if_neg k2.out, hfl, if_neg (by rw [hw]; decide), if_neg (by rw [hu, hv]; decide), if_pos h5]⟩
                          clear a1 a2 a3 a4 b1 b2 b3 b4 hfl hw hu hv h5
                          go_wp2_with (first
                            | ((with_reducible refine gate_dst (N := 4) rfl ?_); refine ev_box (N := 4) (cs := #[.slice A0 f0.length c0, .slice A1 f1.length c1, .slice A2 f2.length c2, .slice A3 f3.length c3, .slice A4 f4.length c4]) (t := 49) HO rfl rfl ?hr ?_; (case hr => first | (go_simp; done) | (go_simp; rfl)); intro g4 W4 HO4 hb4; clear HO hb4; have z0 := HO4.box_cell 0 rfl 0 rfl; have z1 := HO4.box_cell 0 rfl 1 rfl; have z2 := HO4.box_cell 0 rfl 2 rfl; have z3 := HO4.box_cell 0 rfl 3 rfl; have z4 := HO4.box_cell 0 rfl 4 rfl)
                            | ((with_reducible refine gate_dst (N := 5) rfl ?_); refine ev_box (N := 5) (cs := #[.int .i64 k]) (t := 3) HO4 rfl rfl ?hr ?_; (case hr => first | (go_simp; done) | (go_simp; rfl)); intro g5 W5 HO5 hb5; clear HO4 hb5; clear z0 z1 z2 z3 z4; have z0 := HO5.box_cell 0 rfl 0 rfl; have z1 := HO5.box_cell 0 rfl 1 rfl; have z2 := HO5.box_cell 0 rfl 2 rfl; have z3 := HO5.box_cell 0 rfl 3 rfl; have z4 := HO5.box_cell 0 rfl 4 rfl)
                            | ((with_reducible refine gate_dst (N := 6) rfl ?_); refine ev_box (N := 6) (cs := #[.int .i64 L]) (t := 3) HO5 rfl rfl ?hr ?_; (case hr => first | (go_simp; done) | (go_simp; rfl)); intro g6 W6 HO6 hb6; clear HO5 hb6; clear z0 z1 z2 z3 z4; have z0 := HO6.box_cell 0 rfl 0 rfl; have z1 := HO6.box_cell 0 rfl 1 rfl; have z2 := HO6.box_cell 0 rfl 2 rfl; have z3 := HO6.box_cell 0 rfl 3 rfl; have z4 := HO6.box_cell 0 rfl 4 rfl)
                            | ((with_reducible refine gate_dst (N := 7) rfl ?_); refine ev_box (N := 7) (cs := #[.int .i64 G]) (t := 3) HO6 rfl rfl ?hr ?_; (case hr => first | (go_simp; done) | (go_simp; rfl)); intro g7 W7 HO7 hb7; clear HO6 hb7; clear z0 z1 z2 z3 z4; have z0 := HO7.box_cell 0 rfl 0 rfl; have z1 := HO7.box_cell 0 rfl 1 rfl; have z2 := HO7.box_cell 0 rfl 2 rfl; have z3 := HO7.box_cell 0 rfl 3 rfl; have z4 := HO7.box_cell 0 rfl 4 rfl)
                            | (go_at_call 49; go_loud (refine (context_calls f0 f1 f2 A0 A1 A2 c0 c1 c2 _ _ rfl rfl _ (HO7.old H0.out) (HO7.old H1.out) (HO7.old H2.out) D0.out D1.out D2.out (by have := HN0.out; omega) (by have := HN1.out; omega) (by have := HN2.out; omega)).mono ?_; rintro e W8 ⟨Ac, cc, rfl, hCc, hb⟩; rw [HFL.out] at hCc ⊢; have HO8 := HO7.grow hb; clear HO7 hb; clear z0 z1 z2 z3 z4; have z0 := HO8.box_cell 0 rfl 0 rfl; have z1 := HO8.box_cell 0 rfl 1 rfl; have z2 := HO8.box_cell 0 rfl 2 rfl; have z3 := HO8.box_cell 0 rfl 3 rfl; have z4 := HO8.box_cell 0 rfl 4 rfl))
                            | (go_at_call 48; refine (conL wrongP 50 #[] (enters_ (P := Try.prog) Try.func50 (by kernel_rfl) rfl) Ac cc fl _ hCc (fun x hx A' c' W hb hc hC => (rules_wrongSet.calls _ A' c' x _ W hC hc (Ev.rounds (wrong_ev x (Kd.C_max hC))).choose_spec).mono (fun e w' h => ⟨h.1, h.2.below⟩))).mono ?_; rintro e W9 ⟨rfl, hb⟩; rw [HW.out]; have HO9 := HO8.grow hb; clear HO8 hb hCc; clear z0 z1 z2 z3 z4; have z0 := HO9.box_cell 0 rfl 0 rfl; have z1 := HO9.box_cell 0 rfl 1 rfl; have z2 := HO9.box_cell 0 rfl 2 rfl; have z3 := HO9.box_cell 0 rfl 3 rfl; have z4 := HO9.box_cell 0 rfl 4 rfl)
                            | (go_at_call 49; go_loud (refine (context_calls f0 f1 f2 A0 A1 A2 c0 c1 c2 _ _ rfl rfl _ (HO9.old H0.out) (HO9.old H1.out) (HO9.old H2.out) D0.out D1.out D2.out (by have := HN0.out; omega) (by have := HN1.out; omega) (by have := HN2.out; omega)).mono ?_; rintro e W10 ⟨Ac, cc, rfl, hCc, hb⟩; rw [HFL.out] at hCc ⊢; have HO10 := HO9.grow hb; clear HO9 hb; clear z0 z1 z2 z3 z4; have z0 := HO10.box_cell 0 rfl 0 rfl; have z1 := HO10.box_cell 0 rfl 1 rfl; have z2 := HO10.box_cell 0 rfl 2 rfl; have z3 := HO10.box_cell 0 rfl 3 rfl; have z4 := HO10.box_cell 0 rfl 4 rfl))
                            | (go_at_call 48; refine (conL (fun l => l.any (unkP G)) 44 #[.pointer (some ⟨g7, 0, none⟩)] (enters_ (P := Try.prog) Try.func44 (by kernel_rfl) rfl) Ac cc fl _ hCc (fun x hx A' c' W hb hc hC => unknown_calls G g7 A' c' x W hC (box_below (HO10.box_at 3 rfl).1 hb))).mono ?_; rintro e W11 ⟨rfl, hb⟩; rw [HU.out]; have HO11 := HO10.grow hb; clear HO10 hb hCc; clear z0 z1 z2 z3 z4; have z0 := HO11.box_cell 0 rfl 0 rfl; have z1 := HO11.box_cell 0 rfl 1 rfl; have z2 := HO11.box_cell 0 rfl 2 rfl; have z3 := HO11.box_cell 0 rfl 3 rfl; have z4 := HO11.box_cell 0 rfl 4 rfl)
                            | (go_at_call 44; refine (unknown_calls G g7 A3 c3 f3 _ (HO11.old H3.out) (HO11.box_at 3 rfl).1).mono ?_; rintro e W12 ⟨rfl, hb⟩; rw [HV3.out]; have HO12 := HO11.grow hb; clear HO11 hb; clear z0 z1 z2 z3 z4; have z0 := HO12.box_cell 0 rfl 0 rfl; have z1 := HO12.box_cell 0 rfl 1 rfl; have z2 := HO12.box_cell 0 rfl 2 rfl; have z3 := HO12.box_cell 0 rfl 3 rfl; have z4 := HO12.box_cell 0 rfl 4 rfl)
                            | (go_at_call 51; refine (conC (callP f1.length k L) 47 #[.pointer (some ⟨g4, 0, none⟩), .pointer (some ⟨g5, 0, none⟩), .pointer (some ⟨g6, 0, none⟩)] (enters_ (P := Try.prog) Try.func47 (by kernel_rfl) rfl) A4 c4 f4 _ (HO12.old H4.out) (fun x hx W hb => rules_checkRule_2.calls x.f0 x.f1 A0 c0 f0 A1 c1 f1 A2 c2 f2 A3 c3 f3 A4 c4 f4 k L _ W (Kd.C_below (HO12.old H0.out) hb) D0.out (Kd.C_below (HO12.old H1.out) hb) D1.out (Kd.C_below (HO12.old H2.out) hb) D2.out (Kd.C_below (HO12.old H3.out) hb) D3.out (Kd.C_below (HO12.old H4.out) hb) D4.out (box_below (HO12.box_at 0 rfl).1 hb) (box_below (HO12.box_at 1 rfl).1 hb) (box_below (HO12.box_at 2 rfl).1 hb) (HO12.box_ne 0 1 (by decide) rfl rfl) (HO12.box_ne 0 2 (by decide) rfl rfl) (HO12.box_ne 1 2 (by decide) rfl rfl) (call_f _ k L f0 f1 f2 f3 f4 x rfl))).mono ?_; rintro e W13 ⟨rfl, hb⟩; rw [HC5.out]; have HO13 := HO12.grow hb; clear HO12 hb))
                          go_ret
                          exact ⟨by rw [HV.out]; rfl, HO13.below⟩
                        case false =>
                          have HC5 := Aside0.mk h5
                          have HV : Aside0 (ruleP ⟨f0, f1, f2, f3, f4⟩ k L G = 0) := ⟨by unfold ruleP; dsimp only; rw [if_neg k1.out, if_neg k2.out, hfl, if_neg (by rw [hw]; decide), if_neg (by rw [hu, hv]; decide), if_neg (by rw [h5]; decide)]⟩
                          clear a1 a2 a3 a4 b1 b2 b3 b4 hfl hw hu hv h5
                          go_wp2_with (first
                            | ((with_reducible refine gate_dst (N := 4) rfl ?_); refine ev_box (N := 4) (cs := #[.slice A0 f0.length c0, .slice A1 f1.length c1, .slice A2 f2.length c2, .slice A3 f3.length c3, .slice A4 f4.length c4]) (t := 49) HO rfl rfl ?hr ?_; (case hr => first | (go_simp; done) | (go_simp; rfl)); intro g4 W4 HO4 hb4; clear HO hb4; have z0 := HO4.box_cell 0 rfl 0 rfl; have z1 := HO4.box_cell 0 rfl 1 rfl; have z2 := HO4.box_cell 0 rfl 2 rfl; have z3 := HO4.box_cell 0 rfl 3 rfl; have z4 := HO4.box_cell 0 rfl 4 rfl)
                            | ((with_reducible refine gate_dst (N := 5) rfl ?_); refine ev_box (N := 5) (cs := #[.int .i64 k]) (t := 3) HO4 rfl rfl ?hr ?_; (case hr => first | (go_simp; done) | (go_simp; rfl)); intro g5 W5 HO5 hb5; clear HO4 hb5; clear z0 z1 z2 z3 z4; have z0 := HO5.box_cell 0 rfl 0 rfl; have z1 := HO5.box_cell 0 rfl 1 rfl; have z2 := HO5.box_cell 0 rfl 2 rfl; have z3 := HO5.box_cell 0 rfl 3 rfl; have z4 := HO5.box_cell 0 rfl 4 rfl)
                            | ((with_reducible refine gate_dst (N := 6) rfl ?_); refine ev_box (N := 6) (cs := #[.int .i64 L]) (t := 3) HO5 rfl rfl ?hr ?_; (case hr => first | (go_simp; done) | (go_simp; rfl)); intro g6 W6 HO6 hb6; clear HO5 hb6; clear z0 z1 z2 z3 z4; have z0 := HO6.box_cell 0 rfl 0 rfl; have z1 := HO6.box_cell 0 rfl 1 rfl; have z2 := HO6.box_cell 0 rfl 2 rfl; have z3 := HO6.box_cell 0 rfl 3 rfl; have z4 := HO6.box_cell 0 rfl 4 rfl)
                            | ((with_reducible refine gate_dst (N := 7) rfl ?_); refine ev_box (N := 7) (cs := #[.int .i64 G]) (t := 3) HO6 rfl rfl ?hr ?_; (case hr => first | (go_simp; done) | (go_simp; rfl)); intro g7 W7 HO7 hb7; clear HO6 hb7; clear z0 z1 z2 z3 z4; have z0 := HO7.box_cell 0 rfl 0 rfl; have z1 := HO7.box_cell 0 rfl 1 rfl; have z2 := HO7.box_cell 0 rfl 2 rfl; have z3 := HO7.box_cell 0 rfl 3 rfl; have z4 := HO7.box_cell 0 rfl 4 rfl)
                            | (go_at_call 49; go_loud (refine (context_calls f0 f1 f2 A0 A1 A2 c0 c1 c2 _ _ rfl rfl _ (HO7.old H0.out) (HO7.old H1.out) (HO7.old H2.out) D0.out D1.out D2.out (by have := HN0.out; omega) (by have := HN1.out; omega) (by have := HN2.out; omega)).mono ?_; rintro e W8 ⟨Ac, cc, rfl, hCc, hb⟩; rw [HFL.out] at hCc ⊢; have HO8 := HO7.grow hb; clear HO7 hb; clear z0 z1 z2 z3 z4; have z0 := HO8.box_cell 0 rfl 0 rfl; have z1 := HO8.box_cell 0 rfl 1 rfl; have z2 := HO8.box_cell 0 rfl 2 rfl; have z3 := HO8.box_cell 0 rfl 3 rfl; have z4 := HO8.box_cell 0 rfl 4 rfl))
                            | (go_at_call 48; refine (conL wrongP 50 #[] (enters_ (P := Try.prog) Try.func50 (by kernel_rfl) rfl) Ac cc fl _ hCc (fun x hx A' c' W hb hc hC => (rules_wrongSet.calls _ A' c' x _ W hC hc (Ev.rounds (wrong_ev x (Kd.C_max hC))).choose_spec).mono (fun e w' h => ⟨h.1, h.2.below⟩))).mono ?_; rintro e W9 ⟨rfl, hb⟩; rw [HW.out]; have HO9 := HO8.grow hb; clear HO8 hb hCc; clear z0 z1 z2 z3 z4; have z0 := HO9.box_cell 0 rfl 0 rfl; have z1 := HO9.box_cell 0 rfl 1 rfl; have z2 := HO9.box_cell 0 rfl 2 rfl; have z3 := HO9.box_cell 0 rfl 3 rfl; have z4 := HO9.box_cell 0 rfl 4 rfl)
                            | (go_at_call 49; go_loud (refine (context_calls f0 f1 f2 A0 A1 A2 c0 c1 c2 _ _ rfl rfl _ (HO9.old H0.out) (HO9.old H1.out) (HO9.old H2.out) D0.out D1.out D2.out (by have := HN0.out; omega) (by have := HN1.out; omega) (by have := HN2.out; omega)).mono ?_; rintro e W10 ⟨Ac, cc, rfl, hCc, hb⟩; rw [HFL.out] at hCc ⊢; have HO10 := HO9.grow hb; clear HO9 hb; clear z0 z1 z2 z3 z4; have z0 := HO10.box_cell 0 rfl 0 rfl; have z1 := HO10.box_cell 0 rfl 1 rfl; have z2 := HO10.box_cell 0 rfl 2 rfl; have z3 := HO10.box_cell 0 rfl 3 rfl; have z4 := HO10.box_cell 0 rfl 4 rfl))
                            | (go_at_call 48; refine (conL (fun l => l.any (unkP G)) 44 #[.pointer (some ⟨g7, 0, none⟩)] (enters_ (P := Try.prog) Try.func44 (by kernel_rfl) rfl) Ac cc fl _ hCc (fun x hx A' c' W hb hc hC => unknown_calls G g7 A' c' x W hC (box_below (HO10.box_at 3 rfl).1 hb))).mono ?_; rintro e W11 ⟨rfl, hb⟩; rw [HU.out]; have HO11 := HO10.grow hb; clear HO10 hb hCc; clear z0 z1 z2 z3 z4; have z0 := HO11.box_cell 0 rfl 0 rfl; have z1 := HO11.box_cell 0 rfl 1 rfl; have z2 := HO11.box_cell 0 rfl 2 rfl; have z3 := HO11.box_cell 0 rfl 3 rfl; have z4 := HO11.box_cell 0 rfl 4 rfl)
                            | (go_at_call 44; refine (unknown_calls G g7 A3 c3 f3 _ (HO11.old H3.out) (HO11.box_at 3 rfl).1).mono ?_; rintro e W12 ⟨rfl, hb⟩; rw [HV3.out]; have HO12 := HO11.grow hb; clear HO11 hb; clear z0 z1 z2 z3 z4; have z0 := HO12.box_cell 0 rfl 0 rfl; have z1 := HO12.box_cell 0 rfl 1 rfl; have z2 := HO12.box_cell 0 rfl 2 rfl; have z3 := HO12.box_cell 0 rfl 3 rfl; have z4 := HO12.box_cell 0 rfl 4 rfl)
                            | (go_at_call 51; refine (conC (callP f1.length k L) 47 #[.pointer (some ⟨g4, 0, none⟩), .pointer (some ⟨g5, 0, none⟩), .pointer (some ⟨g6, 0, none⟩)] (enters_ (P := Try.prog) Try.func47 (by kernel_rfl) rfl) A4 c4 f4 _ (HO12.old H4.out) (fun x hx W hb => rules_checkRule_2.calls x.f0 x.f1 A0 c0 f0 A1 c1 f1 A2 c2 f2 A3 c3 f3 A4 c4 f4 k L _ W (Kd.C_below (HO12.old H0.out) hb) D0.out (Kd.C_below (HO12.old H1.out) hb) D1.out (Kd.C_below (HO12.old H2.out) hb) D2.out (Kd.C_below (HO12.old H3.out) hb) D3.out (Kd.C_below (HO12.old H4.out) hb) D4.out (box_below (HO12.box_at 0 rfl).1 hb) (box_below (HO12.box_at 1 rfl).1 hb) (box_below (HO12.box_at 2 rfl).1 hb) (HO12.box_ne 0 1 (by decide) rfl rfl) (HO12.box_ne 0 2 (by decide) rfl rfl) (HO12.box_ne 1 2 (by decide) rfl rfl) (call_f _ k L f0 f1 f2 f3 f4 x rfl))).mono ?_; rintro e W13 ⟨rfl, hb⟩; rw [HC5.out]; have HO13 := HO12.grow hb; clear HO12 hb))
                          go_ret
                          exact ⟨by rw [HV.out]; rfl, HO13.below⟩
              case neg =>
                have eb3 : ((f3.length : Int) > 0) = False := eq_false (by omega)
                have db3 : decide ((f3.length : Int) > 0) = false := decide_eq_false (by omega)
                have pb3 : (0 < f3.length) = False := eq_false (by omega)
                have qb3 : decide (0 < f3.length) = false := decide_eq_false (by omega)
                have nb3 : (f3 = []) = True := eq_true (List.eq_nil_of_length_eq_zero (by omega))
                have HN0 := Aside0.mk (show f0.length ≤ 3 by omega)
                have HN1 := Aside0.mk (show f1.length ≤ 4 by omega)
                have HN2 := Aside0.mk (show f2.length ≤ 3 by omega)
                have k1 := Aside0.mk (show ¬ (f1.length = 0 ∨ f1.length > 4 ∨ f0.length > 3 ∨ f2.length > 3) by omega)
                have k2 := Aside0.mk (show ¬ (f3.length > 4 ∨ f4.length > 3 ∨ (f3.length > 0 ∧ f4.length > 0)) by omega)
                obtain ⟨fl, hfl⟩ : ∃ fl, f1 ++ f0 ++ f2 = fl := ⟨_, rfl⟩
                have HFL := Aside0.mk hfl
                cases hw : fl.any wrongP
                case true =>
                  have HW := Aside0.mk hw
                  have HV : Aside0 (ruleP ⟨f0, f1, f2, f3, f4⟩ k L G = 31) := ⟨by unfold ruleP; dsimp only; rw [if_neg k1.out, if_neg k2.out, hfl, if_pos hw]⟩
                  clear a1 a2 a3 a4 b1 b2 b3 hfl hw
                  go_wp2_with (first
                    | ((with_reducible refine gate_dst (N := 4) rfl ?_); refine ev_box (N := 4) (cs := #[.slice A0 f0.length c0, .slice A1 f1.length c1, .slice A2 f2.length c2, .slice A3 f3.length c3, .slice A4 f4.length c4]) (t := 49) HO rfl rfl ?hr ?_; (case hr => first | (go_simp; done) | (go_simp; rfl)); intro g4 W4 HO4 hb4; clear HO hb4; have z0 := HO4.box_cell 0 rfl 0 rfl; have z1 := HO4.box_cell 0 rfl 1 rfl; have z2 := HO4.box_cell 0 rfl 2 rfl; have z3 := HO4.box_cell 0 rfl 3 rfl; have z4 := HO4.box_cell 0 rfl 4 rfl)
                    | ((with_reducible refine gate_dst (N := 5) rfl ?_); refine ev_box (N := 5) (cs := #[.int .i64 k]) (t := 3) HO4 rfl rfl ?hr ?_; (case hr => first | (go_simp; done) | (go_simp; rfl)); intro g5 W5 HO5 hb5; clear HO4 hb5; clear z0 z1 z2 z3 z4; have z0 := HO5.box_cell 0 rfl 0 rfl; have z1 := HO5.box_cell 0 rfl 1 rfl; have z2 := HO5.box_cell 0 rfl 2 rfl; have z3 := HO5.box_cell 0 rfl 3 rfl; have z4 := HO5.box_cell 0 rfl 4 rfl)
                    | ((with_reducible refine gate_dst (N := 6) rfl ?_); refine ev_box (N := 6) (cs := #[.int .i64 L]) (t := 3) HO5 rfl rfl ?hr ?_; (case hr => first | (go_simp; done) | (go_simp; rfl)); intro g6 W6 HO6 hb6; clear HO5 hb6; clear z0 z1 z2 z3 z4; have z0 := HO6.box_cell 0 rfl 0 rfl; have z1 := HO6.box_cell 0 rfl 1 rfl; have z2 := HO6.box_cell 0 rfl 2 rfl; have z3 := HO6.box_cell 0 rfl 3 rfl; have z4 := HO6.box_cell 0 rfl 4 rfl)
                    | ((with_reducible refine gate_dst (N := 7) rfl ?_); refine ev_box (N := 7) (cs := #[.int .i64 G]) (t := 3) HO6 rfl rfl ?hr ?_; (case hr => first | (go_simp; done) | (go_simp; rfl)); intro g7 W7 HO7 hb7; clear HO6 hb7; clear z0 z1 z2 z3 z4; have z0 := HO7.box_cell 0 rfl 0 rfl; have z1 := HO7.box_cell 0 rfl 1 rfl; have z2 := HO7.box_cell 0 rfl 2 rfl; have z3 := HO7.box_cell 0 rfl 3 rfl; have z4 := HO7.box_cell 0 rfl 4 rfl)
                    | (go_at_call 49; go_loud (refine (context_calls f0 f1 f2 A0 A1 A2 c0 c1 c2 _ _ rfl rfl _ (HO7.old H0.out) (HO7.old H1.out) (HO7.old H2.out) D0.out D1.out D2.out (by have := HN0.out; omega) (by have := HN1.out; omega) (by have := HN2.out; omega)).mono ?_; rintro e W8 ⟨Ac, cc, rfl, hCc, hb⟩; rw [HFL.out] at hCc ⊢; have HO8 := HO7.grow hb; clear HO7 hb; clear z0 z1 z2 z3 z4; have z0 := HO8.box_cell 0 rfl 0 rfl; have z1 := HO8.box_cell 0 rfl 1 rfl; have z2 := HO8.box_cell 0 rfl 2 rfl; have z3 := HO8.box_cell 0 rfl 3 rfl; have z4 := HO8.box_cell 0 rfl 4 rfl))
                    | (go_at_call 48; refine (conL wrongP 50 #[] (enters_ (P := Try.prog) Try.func50 (by kernel_rfl) rfl) Ac cc fl _ hCc (fun x hx A' c' W hb hc hC => (rules_wrongSet.calls _ A' c' x _ W hC hc (Ev.rounds (wrong_ev x (Kd.C_max hC))).choose_spec).mono (fun e w' h => ⟨h.1, h.2.below⟩))).mono ?_; rintro e W9 ⟨rfl, hb⟩; rw [HW.out]; have HO9 := HO8.grow hb; clear HO8 hb hCc; clear z0 z1 z2 z3 z4; have z0 := HO9.box_cell 0 rfl 0 rfl; have z1 := HO9.box_cell 0 rfl 1 rfl; have z2 := HO9.box_cell 0 rfl 2 rfl; have z3 := HO9.box_cell 0 rfl 3 rfl; have z4 := HO9.box_cell 0 rfl 4 rfl))
                  go_ret
                  exact ⟨by rw [HV.out]; rfl, HO9.below⟩
                case false =>
                  have HW := Aside0.mk hw
                  cases hu : fl.any (fun l => l.any (unkP G))
                  case true =>
                    have HU := Aside0.mk hu
                    have HV : Aside0 (ruleP ⟨f0, f1, f2, f3, f4⟩ k L G = 30) := ⟨by unfold ruleP; dsimp only; rw [if_neg k1.out, if_neg k2.out, hfl, if_neg (by rw [hw]; decide), if_pos (.inl hu)]⟩
                    clear a1 a2 a3 a4 b1 b2 b3 hfl hw hu
                    go_wp2_with (first
                      | ((with_reducible refine gate_dst (N := 4) rfl ?_); refine ev_box (N := 4) (cs := #[.slice A0 f0.length c0, .slice A1 f1.length c1, .slice A2 f2.length c2, .slice A3 f3.length c3, .slice A4 f4.length c4]) (t := 49) HO rfl rfl ?hr ?_; (case hr => first | (go_simp; done) | (go_simp; rfl)); intro g4 W4 HO4 hb4; clear HO hb4; have z0 := HO4.box_cell 0 rfl 0 rfl; have z1 := HO4.box_cell 0 rfl 1 rfl; have z2 := HO4.box_cell 0 rfl 2 rfl; have z3 := HO4.box_cell 0 rfl 3 rfl; have z4 := HO4.box_cell 0 rfl 4 rfl)
                      | ((with_reducible refine gate_dst (N := 5) rfl ?_); refine ev_box (N := 5) (cs := #[.int .i64 k]) (t := 3) HO4 rfl rfl ?hr ?_; (case hr => first | (go_simp; done) | (go_simp; rfl)); intro g5 W5 HO5 hb5; clear HO4 hb5; clear z0 z1 z2 z3 z4; have z0 := HO5.box_cell 0 rfl 0 rfl; have z1 := HO5.box_cell 0 rfl 1 rfl; have z2 := HO5.box_cell 0 rfl 2 rfl; have z3 := HO5.box_cell 0 rfl 3 rfl; have z4 := HO5.box_cell 0 rfl 4 rfl)
                      | ((with_reducible refine gate_dst (N := 6) rfl ?_); refine ev_box (N := 6) (cs := #[.int .i64 L]) (t := 3) HO5 rfl rfl ?hr ?_; (case hr => first | (go_simp; done) | (go_simp; rfl)); intro g6 W6 HO6 hb6; clear HO5 hb6; clear z0 z1 z2 z3 z4; have z0 := HO6.box_cell 0 rfl 0 rfl; have z1 := HO6.box_cell 0 rfl 1 rfl; have z2 := HO6.box_cell 0 rfl 2 rfl; have z3 := HO6.box_cell 0 rfl 3 rfl; have z4 := HO6.box_cell 0 rfl 4 rfl)
                      | ((with_reducible refine gate_dst (N := 7) rfl ?_); refine ev_box (N := 7) (cs := #[.int .i64 G]) (t := 3) HO6 rfl rfl ?hr ?_; (case hr => first | (go_simp; done) | (go_simp; rfl)); intro g7 W7 HO7 hb7; clear HO6 hb7; clear z0 z1 z2 z3 z4; have z0 := HO7.box_cell 0 rfl 0 rfl; have z1 := HO7.box_cell 0 rfl 1 rfl; have z2 := HO7.box_cell 0 rfl 2 rfl; have z3 := HO7.box_cell 0 rfl 3 rfl; have z4 := HO7.box_cell 0 rfl 4 rfl)
                      | (go_at_call 49; go_loud (refine (context_calls f0 f1 f2 A0 A1 A2 c0 c1 c2 _ _ rfl rfl _ (HO7.old H0.out) (HO7.old H1.out) (HO7.old H2.out) D0.out D1.out D2.out (by have := HN0.out; omega) (by have := HN1.out; omega) (by have := HN2.out; omega)).mono ?_; rintro e W8 ⟨Ac, cc, rfl, hCc, hb⟩; rw [HFL.out] at hCc ⊢; have HO8 := HO7.grow hb; clear HO7 hb; clear z0 z1 z2 z3 z4; have z0 := HO8.box_cell 0 rfl 0 rfl; have z1 := HO8.box_cell 0 rfl 1 rfl; have z2 := HO8.box_cell 0 rfl 2 rfl; have z3 := HO8.box_cell 0 rfl 3 rfl; have z4 := HO8.box_cell 0 rfl 4 rfl))
                      | (go_at_call 48; refine (conL wrongP 50 #[] (enters_ (P := Try.prog) Try.func50 (by kernel_rfl) rfl) Ac cc fl _ hCc (fun x hx A' c' W hb hc hC => (rules_wrongSet.calls _ A' c' x _ W hC hc (Ev.rounds (wrong_ev x (Kd.C_max hC))).choose_spec).mono (fun e w' h => ⟨h.1, h.2.below⟩))).mono ?_; rintro e W9 ⟨rfl, hb⟩; rw [HW.out]; have HO9 := HO8.grow hb; clear HO8 hb hCc; clear z0 z1 z2 z3 z4; have z0 := HO9.box_cell 0 rfl 0 rfl; have z1 := HO9.box_cell 0 rfl 1 rfl; have z2 := HO9.box_cell 0 rfl 2 rfl; have z3 := HO9.box_cell 0 rfl 3 rfl; have z4 := HO9.box_cell 0 rfl 4 rfl)
                      | (go_at_call 49; go_loud (refine (context_calls f0 f1 f2 A0 A1 A2 c0 c1 c2 _ _ rfl rfl _ (HO9.old H0.out) (HO9.old H1.out) (HO9.old H2.out) D0.out D1.out D2.out (by have := HN0.out; omega) (by have := HN1.out; omega) (by have := HN2.out; omega)).mono ?_; rintro e W10 ⟨Ac, cc, rfl, hCc, hb⟩; rw [HFL.out] at hCc ⊢; have HO10 := HO9.grow hb; clear HO9 hb; clear z0 z1 z2 z3 z4; have z0 := HO10.box_cell 0 rfl 0 rfl; have z1 := HO10.box_cell 0 rfl 1 rfl; have z2 := HO10.box_cell 0 rfl 2 rfl; have z3 := HO10.box_cell 0 rfl 3 rfl; have z4 := HO10.box_cell 0 rfl 4 rfl))
                      | (go_at_call 48; refine (conL (fun l => l.any (unkP G)) 44 #[.pointer (some ⟨g7, 0, none⟩)] (enters_ (P := Try.prog) Try.func44 (by kernel_rfl) rfl) Ac cc fl _ hCc (fun x hx A' c' W hb hc hC => unknown_calls G g7 A' c' x W hC (box_below (HO10.box_at 3 rfl).1 hb))).mono ?_; rintro e W11 ⟨rfl, hb⟩; rw [HU.out]; have HO11 := HO10.grow hb; clear HO10 hb hCc; clear z0 z1 z2 z3 z4; have z0 := HO11.box_cell 0 rfl 0 rfl; have z1 := HO11.box_cell 0 rfl 1 rfl; have z2 := HO11.box_cell 0 rfl 2 rfl; have z3 := HO11.box_cell 0 rfl 3 rfl; have z4 := HO11.box_cell 0 rfl 4 rfl))
                    go_ret
                    exact ⟨by rw [HV.out]; rfl, HO11.below⟩
                  case false =>
                    have HU := Aside0.mk hu
                    cases hv : f3.any (unkP G)
                    case true =>
                      have HV3 := Aside0.mk hv
                      have HV : Aside0 (ruleP ⟨f0, f1, f2, f3, f4⟩ k L G = 30) := ⟨by unfold ruleP; dsimp only; rw [if_neg k1.out, if_neg k2.out, hfl, if_neg (by rw [hw]; decide), if_pos (.inr hv)]⟩
                      clear a1 a2 a3 a4 b1 b2 b3 hfl hw hu hv
                      go_wp2_with (first
                        | ((with_reducible refine gate_dst (N := 4) rfl ?_); refine ev_box (N := 4) (cs := #[.slice A0 f0.length c0, .slice A1 f1.length c1, .slice A2 f2.length c2, .slice A3 f3.length c3, .slice A4 f4.length c4]) (t := 49) HO rfl rfl ?hr ?_; (case hr => first | (go_simp; done) | (go_simp; rfl)); intro g4 W4 HO4 hb4; clear HO hb4; have z0 := HO4.box_cell 0 rfl 0 rfl; have z1 := HO4.box_cell 0 rfl 1 rfl; have z2 := HO4.box_cell 0 rfl 2 rfl; have z3 := HO4.box_cell 0 rfl 3 rfl; have z4 := HO4.box_cell 0 rfl 4 rfl)
                        | ((with_reducible refine gate_dst (N := 5) rfl ?_); refine ev_box (N := 5) (cs := #[.int .i64 k]) (t := 3) HO4 rfl rfl ?hr ?_; (case hr => first | (go_simp; done) | (go_simp; rfl)); intro g5 W5 HO5 hb5; clear HO4 hb5; clear z0 z1 z2 z3 z4; have z0 := HO5.box_cell 0 rfl 0 rfl; have z1 := HO5.box_cell 0 rfl 1 rfl; have z2 := HO5.box_cell 0 rfl 2 rfl; have z3 := HO5.box_cell 0 rfl 3 rfl; have z4 := HO5.box_cell 0 rfl 4 rfl)
                        | ((with_reducible refine gate_dst (N := 6) rfl ?_); refine ev_box (N := 6) (cs := #[.int .i64 L]) (t := 3) HO5 rfl rfl ?hr ?_; (case hr => first | (go_simp; done) | (go_simp; rfl)); intro g6 W6 HO6 hb6; clear HO5 hb6; clear z0 z1 z2 z3 z4; have z0 := HO6.box_cell 0 rfl 0 rfl; have z1 := HO6.box_cell 0 rfl 1 rfl; have z2 := HO6.box_cell 0 rfl 2 rfl; have z3 := HO6.box_cell 0 rfl 3 rfl; have z4 := HO6.box_cell 0 rfl 4 rfl)
                        | ((with_reducible refine gate_dst (N := 7) rfl ?_); refine ev_box (N := 7) (cs := #[.int .i64 G]) (t := 3) HO6 rfl rfl ?hr ?_; (case hr => first | (go_simp; done) | (go_simp; rfl)); intro g7 W7 HO7 hb7; clear HO6 hb7; clear z0 z1 z2 z3 z4; have z0 := HO7.box_cell 0 rfl 0 rfl; have z1 := HO7.box_cell 0 rfl 1 rfl; have z2 := HO7.box_cell 0 rfl 2 rfl; have z3 := HO7.box_cell 0 rfl 3 rfl; have z4 := HO7.box_cell 0 rfl 4 rfl)
                        | (go_at_call 49; go_loud (refine (context_calls f0 f1 f2 A0 A1 A2 c0 c1 c2 _ _ rfl rfl _ (HO7.old H0.out) (HO7.old H1.out) (HO7.old H2.out) D0.out D1.out D2.out (by have := HN0.out; omega) (by have := HN1.out; omega) (by have := HN2.out; omega)).mono ?_; rintro e W8 ⟨Ac, cc, rfl, hCc, hb⟩; rw [HFL.out] at hCc ⊢; have HO8 := HO7.grow hb; clear HO7 hb; clear z0 z1 z2 z3 z4; have z0 := HO8.box_cell 0 rfl 0 rfl; have z1 := HO8.box_cell 0 rfl 1 rfl; have z2 := HO8.box_cell 0 rfl 2 rfl; have z3 := HO8.box_cell 0 rfl 3 rfl; have z4 := HO8.box_cell 0 rfl 4 rfl))
                        | (go_at_call 48; refine (conL wrongP 50 #[] (enters_ (P := Try.prog) Try.func50 (by kernel_rfl) rfl) Ac cc fl _ hCc (fun x hx A' c' W hb hc hC => (rules_wrongSet.calls _ A' c' x _ W hC hc (Ev.rounds (wrong_ev x (Kd.C_max hC))).choose_spec).mono (fun e w' h => ⟨h.1, h.2.below⟩))).mono ?_; rintro e W9 ⟨rfl, hb⟩; rw [HW.out]; have HO9 := HO8.grow hb; clear HO8 hb hCc; clear z0 z1 z2 z3 z4; have z0 := HO9.box_cell 0 rfl 0 rfl; have z1 := HO9.box_cell 0 rfl 1 rfl; have z2 := HO9.box_cell 0 rfl 2 rfl; have z3 := HO9.box_cell 0 rfl 3 rfl; have z4 := HO9.box_cell 0 rfl 4 rfl)
                        | (go_at_call 49; go_loud (refine (context_calls f0 f1 f2 A0 A1 A2 c0 c1 c2 _ _ rfl rfl _ (HO9.old H0.out) (HO9.old H1.out) (HO9.old H2.out) D0.out D1.out D2.out (by have := HN0.out; omega) (by have := HN1.out; omega) (by have := HN2.out; omega)).mono ?_; rintro e W10 ⟨Ac, cc, rfl, hCc, hb⟩; rw [HFL.out] at hCc ⊢; have HO10 := HO9.grow hb; clear HO9 hb; clear z0 z1 z2 z3 z4; have z0 := HO10.box_cell 0 rfl 0 rfl; have z1 := HO10.box_cell 0 rfl 1 rfl; have z2 := HO10.box_cell 0 rfl 2 rfl; have z3 := HO10.box_cell 0 rfl 3 rfl; have z4 := HO10.box_cell 0 rfl 4 rfl))
                        | (go_at_call 48; refine (conL (fun l => l.any (unkP G)) 44 #[.pointer (some ⟨g7, 0, none⟩)] (enters_ (P := Try.prog) Try.func44 (by kernel_rfl) rfl) Ac cc fl _ hCc (fun x hx A' c' W hb hc hC => unknown_calls G g7 A' c' x W hC (box_below (HO10.box_at 3 rfl).1 hb))).mono ?_; rintro e W11 ⟨rfl, hb⟩; rw [HU.out]; have HO11 := HO10.grow hb; clear HO10 hb hCc; clear z0 z1 z2 z3 z4; have z0 := HO11.box_cell 0 rfl 0 rfl; have z1 := HO11.box_cell 0 rfl 1 rfl; have z2 := HO11.box_cell 0 rfl 2 rfl; have z3 := HO11.box_cell 0 rfl 3 rfl; have z4 := HO11.box_cell 0 rfl 4 rfl)
                        | (go_at_call 44; refine (unknown_calls G g7 A3 c3 f3 _ (HO11.old H3.out) (HO11.box_at 3 rfl).1).mono ?_; rintro e W12 ⟨rfl, hb⟩; rw [HV3.out]; have HO12 := HO11.grow hb; clear HO11 hb; clear z0 z1 z2 z3 z4; have z0 := HO12.box_cell 0 rfl 0 rfl; have z1 := HO12.box_cell 0 rfl 1 rfl; have z2 := HO12.box_cell 0 rfl 2 rfl; have z3 := HO12.box_cell 0 rfl 3 rfl; have z4 := HO12.box_cell 0 rfl 4 rfl))
                      go_ret
                      exact ⟨by rw [HV.out]; rfl, HO12.below⟩
                    case false =>
                      have HV3 := Aside0.mk hv
                      cases h5 : f4.any (callP f1.length k L)
                      case true =>
                        have HC5 := Aside0.mk h5
                        have HV : Aside0 (ruleP ⟨f0, f1, f2, f3, f4⟩ k L G = 32) := ⟨by unfold ruleP; dsimp only; rw [if_neg k1.out, if_neg k2.out, hfl, if_neg (by rw [hw]; decide), if_neg (by rw [hu, hv]; decide), if_pos h5]⟩
                        clear a1 a2 a3 a4 b1 b2 b3 hfl hw hu hv h5
                        go_wp2_with (first
                          | ((with_reducible refine gate_dst (N := 4) rfl ?_); refine ev_box (N := 4) (cs := #[.slice A0 f0.length c0, .slice A1 f1.length c1, .slice A2 f2.length c2, .slice A3 f3.length c3, .slice A4 f4.length c4]) (t := 49) HO rfl rfl ?hr ?_; (case hr => first | (go_simp; done) | (go_simp; rfl)); intro g4 W4 HO4 hb4; clear HO hb4; have z0 := HO4.box_cell 0 rfl 0 rfl; have z1 := HO4.box_cell 0 rfl 1 rfl; have z2 := HO4.box_cell 0 rfl 2 rfl; have z3 := HO4.box_cell 0 rfl 3 rfl; have z4 := HO4.box_cell 0 rfl 4 rfl)
                          | ((with_reducible refine gate_dst (N := 5) rfl ?_); refine ev_box (N := 5) (cs := #[.int .i64 k]) (t := 3) HO4 rfl rfl ?hr ?_; (case hr => first | (go_simp; done) | (go_simp; rfl)); intro g5 W5 HO5 hb5; clear HO4 hb5; clear z0 z1 z2 z3 z4; have z0 := HO5.box_cell 0 rfl 0 rfl; have z1 := HO5.box_cell 0 rfl 1 rfl; have z2 := HO5.box_cell 0 rfl 2 rfl; have z3 := HO5.box_cell 0 rfl 3 rfl; have z4 := HO5.box_cell 0 rfl 4 rfl)
                          | ((with_reducible refine gate_dst (N := 6) rfl ?_); refine ev_box (N := 6) (cs := #[.int .i64 L]) (t := 3) HO5 rfl rfl ?hr ?_; (case hr => first | (go_simp; done) | (go_simp; rfl)); intro g6 W6 HO6 hb6; clear HO5 hb6; clear z0 z1 z2 z3 z4; have z0 := HO6.box_cell 0 rfl 0 rfl; have z1 := HO6.box_cell 0 rfl 1 rfl; have z2 := HO6.box_cell 0 rfl 2 rfl; have z3 := HO6.box_cell 0 rfl 3 rfl; have z4 := HO6.box_cell 0 rfl 4 rfl)
                          | ((with_reducible refine gate_dst (N := 7) rfl ?_); refine ev_box (N := 7) (cs := #[.int .i64 G]) (t := 3) HO6 rfl rfl ?hr ?_; (case hr => first | (go_simp; done) | (go_simp; rfl)); intro g7 W7 HO7 hb7; clear HO6 hb7; clear z0 z1 z2 z3 z4; have z0 := HO7.box_cell 0 rfl 0 rfl; have z1 := HO7.box_cell 0 rfl 1 rfl; have z2 := HO7.box_cell 0 rfl 2 rfl; have z3 := HO7.box_cell 0 rfl 3 rfl; have z4 := HO7.box_cell 0 rfl 4 rfl)
                          | (go_at_call 49; go_loud (refine (context_calls f0 f1 f2 A0 A1 A2 c0 c1 c2 _ _ rfl rfl _ (HO7.old H0.out) (HO7.old H1.out) (HO7.old H2.out) D0.out D1.out D2.out (by have := HN0.out; omega) (by have := HN1.out; omega) (by have := HN2.out; omega)).mono ?_; rintro e W8 ⟨Ac, cc, rfl, hCc, hb⟩; rw [HFL.out] at hCc ⊢; have HO8 := HO7.grow hb; clear HO7 hb; clear z0 z1 z2 z3 z4; have z0 := HO8.box_cell 0 rfl 0 rfl; have z1 := HO8.box_cell 0 rfl 1 rfl; have z2 := HO8.box_cell 0 rfl 2 rfl; have z3 := HO8.box_cell 0 rfl 3 rfl; have z4 := HO8.box_cell 0 rfl 4 rfl))
                          | (go_at_call 48; refine (conL wrongP 50 #[] (enters_ (P := Try.prog) Try.func50 (by kernel_rfl) rfl) Ac cc fl _ hCc (fun x hx A' c' W hb hc hC => (rules_wrongSet.calls _ A' c' x _ W hC hc (Ev.rounds (wrong_ev x (Kd.C_max hC))).choose_spec).mono (fun e w' h => ⟨h.1, h.2.below⟩))).mono ?_; rintro e W9 ⟨rfl, hb⟩; rw [HW.out]; have HO9 := HO8.grow hb; clear HO8 hb hCc; clear z0 z1 z2 z3 z4; have z0 := HO9.box_cell 0 rfl 0 rfl; have z1 := HO9.box_cell 0 rfl 1 rfl; have z2 := HO9.box_cell 0 rfl 2 rfl; have z3 := HO9.box_cell 0 rfl 3 rfl; have z4 := HO9.box_cell 0 rfl 4 rfl)
                          | (go_at_call 49; go_loud (refine (context_calls f0 f1 f2 A0 A1 A2 c0 c1 c2 _ _ rfl rfl _ (HO9.old H0.out) (HO9.old H1.out) (HO9.old H2.out) D0.out D1.out D2.out (by have := HN0.out; omega) (by have := HN1.out; omega) (by have := HN2.out; omega)).mono ?_; rintro e W10 ⟨Ac, cc, rfl, hCc, hb⟩; rw [HFL.out] at hCc ⊢; have HO10 := HO9.grow hb; clear HO9 hb; clear z0 z1 z2 z3 z4; have z0 := HO10.box_cell 0 rfl 0 rfl; have z1 := HO10.box_cell 0 rfl 1 rfl; have z2 := HO10.box_cell 0 rfl 2 rfl; have z3 := HO10.box_cell 0 rfl 3 rfl; have z4 := HO10.box_cell 0 rfl 4 rfl))
                          | (go_at_call 48; refine (conL (fun l => l.any (unkP G)) 44 #[.pointer (some ⟨g7, 0, none⟩)] (enters_ (P := Try.prog) Try.func44 (by kernel_rfl) rfl) Ac cc fl _ hCc (fun x hx A' c' W hb hc hC => unknown_calls G g7 A' c' x W hC (box_below (HO10.box_at 3 rfl).1 hb))).mono ?_; rintro e W11 ⟨rfl, hb⟩; rw [HU.out]; have HO11 := HO10.grow hb; clear HO10 hb hCc; clear z0 z1 z2 z3 z4; have z0 := HO11.box_cell 0 rfl 0 rfl; have z1 := HO11.box_cell 0 rfl 1 rfl; have z2 := HO11.box_cell 0 rfl 2 rfl; have z3 := HO11.box_cell 0 rfl 3 rfl; have z4 := HO11.box_cell 0 rfl 4 rfl)
                          | (go_at_call 44; refine (unknown_calls G g7 A3 c3 f3 _ (HO11.old H3.out) (HO11.box_at 3 rfl).1).mono ?_; rintro e W12 ⟨rfl, hb⟩; rw [HV3.out]; have HO12 := HO11.grow hb; clear HO11 hb; clear z0 z1 z2 z3 z4; have z0 := HO12.box_cell 0 rfl 0 rfl; have z1 := HO12.box_cell 0 rfl 1 rfl; have z2 := HO12.box_cell 0 rfl 2 rfl; have z3 := HO12.box_cell 0 rfl 3 rfl; have z4 := HO12.box_cell 0 rfl 4 rfl)
                          | (go_at_call 51; refine (conC (callP f1.length k L) 47 #[.pointer (some ⟨g4, 0, none⟩), .pointer (some ⟨g5, 0, none⟩), .pointer (some ⟨g6, 0, none⟩)] (enters_ (P := Try.prog) Try.func47 (by kernel_rfl) rfl) A4 c4 f4 _ (HO12.old H4.out) (fun x hx W hb => rules_checkRule_2.calls x.f0 x.f1 A0 c0 f0 A1 c1 f1 A2 c2 f2 A3 c3 f3 A4 c4 f4 k L _ W (Kd.C_below (HO12.old H0.out) hb) D0.out (Kd.C_below (HO12.old H1.out) hb) D1.out (Kd.C_below (HO12.old H2.out) hb) D2.out (Kd.C_below (HO12.old H3.out) hb) D3.out (Kd.C_below (HO12.old H4.out) hb) D4.out (box_below (HO12.box_at 0 rfl).1 hb) (box_below (HO12.box_at 1 rfl).1 hb) (box_below (HO12.box_at 2 rfl).1 hb) (HO12.box_ne 0 1 (by decide) rfl rfl) (HO12.box_ne 0 2 (by decide) rfl rfl) (HO12.box_ne 1 2 (by decide) rfl rfl) (call_f _ k L f0 f1 f2 f3 f4 x rfl))).mono ?_; rintro e W13 ⟨rfl, hb⟩; rw [HC5.out]; have HO13 := HO12.grow hb; clear HO12 hb))
                        go_ret
                        exact ⟨by rw [HV.out]; rfl, HO13.below⟩
                      case false =>
                        have HC5 := Aside0.mk h5
                        have HV : Aside0 (ruleP ⟨f0, f1, f2, f3, f4⟩ k L G = 0) := ⟨by unfold ruleP; dsimp only; rw [if_neg k1.out, if_neg k2.out, hfl, if_neg (by rw [hw]; decide), if_neg (by rw [hu, hv]; decide), if_neg (by rw [h5]; decide)]⟩
                        clear a1 a2 a3 a4 b1 b2 b3 hfl hw hu hv h5
                        go_wp2_with (first
                          | ((with_reducible refine gate_dst (N := 4) rfl ?_); refine ev_box (N := 4) (cs := #[.slice A0 f0.length c0, .slice A1 f1.length c1, .slice A2 f2.length c2, .slice A3 f3.length c3, .slice A4 f4.length c4]) (t := 49) HO rfl rfl ?hr ?_; (case hr => first | (go_simp; done) | (go_simp; rfl)); intro g4 W4 HO4 hb4; clear HO hb4; have z0 := HO4.box_cell 0 rfl 0 rfl; have z1 := HO4.box_cell 0 rfl 1 rfl; have z2 := HO4.box_cell 0 rfl 2 rfl; have z3 := HO4.box_cell 0 rfl 3 rfl; have z4 := HO4.box_cell 0 rfl 4 rfl)
                          | ((with_reducible refine gate_dst (N := 5) rfl ?_); refine ev_box (N := 5) (cs := #[.int .i64 k]) (t := 3) HO4 rfl rfl ?hr ?_; (case hr => first | (go_simp; done) | (go_simp; rfl)); intro g5 W5 HO5 hb5; clear HO4 hb5; clear z0 z1 z2 z3 z4; have z0 := HO5.box_cell 0 rfl 0 rfl; have z1 := HO5.box_cell 0 rfl 1 rfl; have z2 := HO5.box_cell 0 rfl 2 rfl; have z3 := HO5.box_cell 0 rfl 3 rfl; have z4 := HO5.box_cell 0 rfl 4 rfl)
                          | ((with_reducible refine gate_dst (N := 6) rfl ?_); refine ev_box (N := 6) (cs := #[.int .i64 L]) (t := 3) HO5 rfl rfl ?hr ?_; (case hr => first | (go_simp; done) | (go_simp; rfl)); intro g6 W6 HO6 hb6; clear HO5 hb6; clear z0 z1 z2 z3 z4; have z0 := HO6.box_cell 0 rfl 0 rfl; have z1 := HO6.box_cell 0 rfl 1 rfl; have z2 := HO6.box_cell 0 rfl 2 rfl; have z3 := HO6.box_cell 0 rfl 3 rfl; have z4 := HO6.box_cell 0 rfl 4 rfl)
                          | ((with_reducible refine gate_dst (N := 7) rfl ?_); refine ev_box (N := 7) (cs := #[.int .i64 G]) (t := 3) HO6 rfl rfl ?hr ?_; (case hr => first | (go_simp; done) | (go_simp; rfl)); intro g7 W7 HO7 hb7; clear HO6 hb7; clear z0 z1 z2 z3 z4; have z0 := HO7.box_cell 0 rfl 0 rfl; have z1 := HO7.box_cell 0 rfl 1 rfl; have z2 := HO7.box_cell 0 rfl 2 rfl; have z3 := HO7.box_cell 0 rfl 3 rfl; have z4 := HO7.box_cell 0 rfl 4 rfl)
                          | (go_at_call 49; go_loud (refine (context_calls f0 f1 f2 A0 A1 A2 c0 c1 c2 _ _ rfl rfl _ (HO7.old H0.out) (HO7.old H1.out) (HO7.old H2.out) D0.out D1.out D2.out (by have := HN0.out; omega) (by have := HN1.out; omega) (by have := HN2.out; omega)).mono ?_; rintro e W8 ⟨Ac, cc, rfl, hCc, hb⟩; rw [HFL.out] at hCc ⊢; have HO8 := HO7.grow hb; clear HO7 hb; clear z0 z1 z2 z3 z4; have z0 := HO8.box_cell 0 rfl 0 rfl; have z1 := HO8.box_cell 0 rfl 1 rfl; have z2 := HO8.box_cell 0 rfl 2 rfl; have z3 := HO8.box_cell 0 rfl 3 rfl; have z4 := HO8.box_cell 0 rfl 4 rfl))
                          | (go_at_call 48; refine (conL wrongP 50 #[] (enters_ (P := Try.prog) Try.func50 (by kernel_rfl) rfl) Ac cc fl _ hCc (fun x hx A' c' W hb hc hC => (rules_wrongSet.calls _ A' c' x _ W hC hc (Ev.rounds (wrong_ev x (Kd.C_max hC))).choose_spec).mono (fun e w' h => ⟨h.1, h.2.below⟩))).mono ?_; rintro e W9 ⟨rfl, hb⟩; rw [HW.out]; have HO9 := HO8.grow hb; clear HO8 hb hCc; clear z0 z1 z2 z3 z4; have z0 := HO9.box_cell 0 rfl 0 rfl; have z1 := HO9.box_cell 0 rfl 1 rfl; have z2 := HO9.box_cell 0 rfl 2 rfl; have z3 := HO9.box_cell 0 rfl 3 rfl; have z4 := HO9.box_cell 0 rfl 4 rfl)
                          | (go_at_call 49; go_loud (refine (context_calls f0 f1 f2 A0 A1 A2 c0 c1 c2 _ _ rfl rfl _ (HO9.old H0.out) (HO9.old H1.out) (HO9.old H2.out) D0.out D1.out D2.out (by have := HN0.out; omega) (by have := HN1.out; omega) (by have := HN2.out; omega)).mono ?_; rintro e W10 ⟨Ac, cc, rfl, hCc, hb⟩; rw [HFL.out] at hCc ⊢; have HO10 := HO9.grow hb; clear HO9 hb; clear z0 z1 z2 z3 z4; have z0 := HO10.box_cell 0 rfl 0 rfl; have z1 := HO10.box_cell 0 rfl 1 rfl; have z2 := HO10.box_cell 0 rfl 2 rfl; have z3 := HO10.box_cell 0 rfl 3 rfl; have z4 := HO10.box_cell 0 rfl 4 rfl))
                          | (go_at_call 48; refine (conL (fun l => l.any (unkP G)) 44 #[.pointer (some ⟨g7, 0, none⟩)] (enters_ (P := Try.prog) Try.func44 (by kernel_rfl) rfl) Ac cc fl _ hCc (fun x hx A' c' W hb hc hC => unknown_calls G g7 A' c' x W hC (box_below (HO10.box_at 3 rfl).1 hb))).mono ?_; rintro e W11 ⟨rfl, hb⟩; rw [HU.out]; have HO11 := HO10.grow hb; clear HO10 hb hCc; clear z0 z1 z2 z3 z4; have z0 := HO11.box_cell 0 rfl 0 rfl; have z1 := HO11.box_cell 0 rfl 1 rfl; have z2 := HO11.box_cell 0 rfl 2 rfl; have z3 := HO11.box_cell 0 rfl 3 rfl; have z4 := HO11.box_cell 0 rfl 4 rfl)
                          | (go_at_call 44; refine (unknown_calls G g7 A3 c3 f3 _ (HO11.old H3.out) (HO11.box_at 3 rfl).1).mono ?_; rintro e W12 ⟨rfl, hb⟩; rw [HV3.out]; have HO12 := HO11.grow hb; clear HO11 hb; clear z0 z1 z2 z3 z4; have z0 := HO12.box_cell 0 rfl 0 rfl; have z1 := HO12.box_cell 0 rfl 1 rfl; have z2 := HO12.box_cell 0 rfl 2 rfl; have z3 := HO12.box_cell 0 rfl 3 rfl; have z4 := HO12.box_cell 0 rfl 4 rfl)
                          | (go_at_call 51; refine (conC (callP f1.length k L) 47 #[.pointer (some ⟨g4, 0, none⟩), .pointer (some ⟨g5, 0, none⟩), .pointer (some ⟨g6, 0, none⟩)] (enters_ (P := Try.prog) Try.func47 (by kernel_rfl) rfl) A4 c4 f4 _ (HO12.old H4.out) (fun x hx W hb => rules_checkRule_2.calls x.f0 x.f1 A0 c0 f0 A1 c1 f1 A2 c2 f2 A3 c3 f3 A4 c4 f4 k L _ W (Kd.C_below (HO12.old H0.out) hb) D0.out (Kd.C_below (HO12.old H1.out) hb) D1.out (Kd.C_below (HO12.old H2.out) hb) D2.out (Kd.C_below (HO12.old H3.out) hb) D3.out (Kd.C_below (HO12.old H4.out) hb) D4.out (box_below (HO12.box_at 0 rfl).1 hb) (box_below (HO12.box_at 1 rfl).1 hb) (box_below (HO12.box_at 2 rfl).1 hb) (HO12.box_ne 0 1 (by decide) rfl rfl) (HO12.box_ne 0 2 (by decide) rfl rfl) (HO12.box_ne 1 2 (by decide) rfl rfl) (call_f _ k L f0 f1 f2 f3 f4 x rfl))).mono ?_; rintro e W13 ⟨rfl, hb⟩; rw [HC5.out]; have HO13 := HO12.grow hb; clear HO12 hb))
                        go_ret
                        exact ⟨by rw [HV.out]; rfl, HO13.below⟩
end Go.Proofs.Ytlgkeaildncojaa.Q
