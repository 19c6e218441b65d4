/- attach: slices.IndexFunc and ContainsFunc over glyphs and anchors, right. -/
import Derived.Test.YtnnkbcgoockniaaHw
import Derived.Test.YtnnkbcgoockniaaSm
namespace Go.Proofs.Ytnnkbcgoockniaa.Q
open Go.RowKit Go.Proofs.YtnnkbcgoockniaaW.PrintWords Go.Proofs.YtnnkbcgoockniaaW.PrintLast Go.Proofs.YtnnkbcgoockniaaW.PrintMore
set_option linter.unusedSimpArgs false
set_option linter.unusedVariables false

/-- The first index of an element that p takes; -1 if there is none. -/
def fidx {α : Type} (p : α → Bool) : List α → Nat → Int
  | [], _ => -1
  | x :: t, i => if p x then i else fidx p t (i + 1)
theorem fidx_pos {α : Type} (p : α → Bool) : ∀ (l : List α) (i : Nat), (0 ≤ fidx p l i) ↔ l.any p = true
  | [], i => by simp [fidx]
  | x :: t, i => by
    have ih := fidx_pos p t (i + 1)
    rw [List.any_cons]
    by_cases h : p x = true
    · rw [show fidx p (x :: t) i = (i : Int) by simp [fidx, h], h]; simp
    · rw [show fidx p (x :: t) i = fidx p t (i + 1) by simp [fidx, h], ih]; simp [h]
theorem fidx_any {α : Type} (p : α → Bool) (l : List α) (i : Nat) : decide (0 ≤ fidx p l i) = l.any p := by
  rw [Bool.eq_iff_iff, decide_eq_true_iff]
  exact fidx_pos p l i
theorem fidx_step {α : Type} (p : α → Bool) (l : List α) (k : Nat) (z : α) (h : k < l.length) : fidx p (l.drop k) k = if p (l.getD k z) then (k : Int) else fidx p (l.drop (k + 1)) (k + 1) := by
  rw [List.drop_eq_getElem_cons h, List.getD_eq_getElem?_getD, List.getElem?_eq_getElem h]
  rfl

set_option maxHeartbeats 1000000 in
theorem idxA (p : S33 → Bool) (g : FuncId) (eg : ∀ args w, (callFunc g args).run Try.prog w = .ok (.enter g args) w)
    (hp : ∀ (x : S33) (W : World), Calls Try.prog g #[.agg #[.int .i64 x.f0, .int .i64 x.f1, .int .i64 x.f2]] W fun e w' => e = .returned (.bool (p x)) ∧ Below W.heap.size W w')
    (A : Option Addr) (c : Nat) (l : List S33) (w : World) (hr : Kd.C k33 w A l.length l) (hc : l.length ≤ c) :
    Calls Try.prog 31 #[.slice A l.length c, .func (.func g) #[] #[]] w fun e w' => e = .returned (.int .i64 (fidx p l 0)) ∧ Below w.heap.size w w' := by
  have HR := Aside0.mk hr
  have HC := Aside0.mk (Kd.C_max hr)
  have HB := Aside0.mk (Below.refl w.heap.size w)
  clear hr hc
  go_enter Try.func31, Try.ntmps31
  go_wp2
  go_loopw [8] (fun v8 w' => ∃ k : Nat, v8 = .int .i64 k ∧ Aside0 (k ≤ l.length) ∧ Aside0 (fidx p (l.drop k) k = fidx p l 0) ∧ Aside0 (Below w.heap.size w w')) (fun v8 _ => l.length - (intOf v8).toNat)
  case atStart => exact ⟨0, rfl, ⟨Nat.zero_le _⟩, ⟨rfl⟩, HB⟩
  case round =>
    clear HB
    obtain ⟨k, rfl, HK, HF, HB⟩ := hrel
    by_cases hlt : k < l.length
    · obtain ⟨ad, rfl, x0, x1, x2⟩ := at_T33 (Kd.C_below HR.out HB.out) (k : Int) (by omega) (by omega)
      have HS := Aside0.mk (fidx_step p l k z33 hlt)
      have hltz : (k : Int) < (l.length : Int) := by omega
      have HC1 : (k : Int) + 1 ≤ 9223372036854775807 := by have := HC.out; omega
      have hcall := hp (rd_T33 l k) wr
      rw [show rd_T33 l (k : Int) = l.getD k z33 from rfl] at hcall x0 x1 x2
      rw [Int.toNat_natCast] at x0 x1 x2
      generalize l.getD k z33 = y at *
      cases hq : p y with
      | true =>
        rw [hq] at hcall
        have p1 : (0 ≤ (k : Int)) = True := eq_true (by omega)
        replace hltz := eq_true hltz
        have HQ := Aside0.mk hq
        have HL := Aside0.mk hlt
        clear hp hq hlt
        go_wp2
        refine hcall.mono ?_
        rintro e w' ⟨rfl, hb'⟩
        go_wp2
        go_ret
        exact ⟨by rw [← HF.out, HS.out, HQ.out]; rfl, below_step HB.out hb'⟩
      | false =>
        rw [hq] at hcall
        have p1 : (0 ≤ (k : Int)) = True := eq_true (by omega)
        replace hltz := eq_true hltz
        have HQ := Aside0.mk hq
        have HL := Aside0.mk hlt
        clear hp hq hlt
        go_wp2
        refine hcall.mono ?_
        rintro e w' ⟨rfl, hb'⟩
        go_wp2
        go_roundw
        case rel => exact ⟨k + 1, by go_num, HL, ⟨by rw [← HF.out, HS.out, HQ.out]; rfl⟩, ⟨below_step HB.out hb'⟩⟩
        case measure => have := HL.out; simp [intOf]; omega
    · have hltz : ¬ (k : Int) < (l.length : Int) := by omega
      go_wp2
      go_ret
      exact ⟨by rw [← HF.out, List.drop_eq_nil_of_le (by omega)]; rfl, HB.out⟩

theorem conA (p : S33 → Bool) (g : FuncId) (eg : ∀ args w, (callFunc g args).run Try.prog w = .ok (.enter g args) w)
    (hp : ∀ (x : S33) (W : World), Calls Try.prog g #[.agg #[.int .i64 x.f0, .int .i64 x.f1, .int .i64 x.f2]] W fun e w' => e = .returned (.bool (p x)) ∧ Below W.heap.size W w')
    (A : Option Addr) (c : Nat) (l : List S33) (w : World) (hr : Kd.C k33 w A l.length l) (hc : l.length ≤ c) :
    Calls Try.prog 27 #[.slice A l.length c, .func (.func g) #[] #[]] w fun e w' => e = .returned (.bool (l.any p)) ∧ Below w.heap.size w w' := by
  have HI := Aside0.mk (idxA p g eg hp A c l w hr hc)
  have HA := Aside0.mk (fidx_any p l 0)
  clear hr hc hp eg
  go_enter Try.func27, Try.ntmps27
  go_wp2_with (go_at_call 31; (with_reducible refine HI.out.mono ?_); rintro e w' ⟨rfl, hb⟩)
  go_ret
  exact ⟨by rw [HA.out]; rfl, hb⟩

set_option maxHeartbeats 1000000 in
theorem idxD (p : S35 → Bool) (g : FuncId) (eg : ∀ args w, (callFunc g args).run Try.prog w = .ok (.enter g args) w)
    (hp : ∀ (x : S35) (A0 A1 : Option Addr) (c0 c1 : Nat) (W : World), x.f0.length ≤ c0 → (Kd.slice 85 k85).C W A0 x.f0.length x.f0 → x.f1.length ≤ c1 → k33.C W A1 x.f1.length x.f1 →
      Calls Try.prog g #[.agg #[.slice A0 x.f0.length c0, .slice A1 x.f1.length c1, .int .i64 x.f2.f0, .int .i64 x.f2.f1, .int .i64 x.f2.f2, .int .i64 x.f3]] W fun e w' => e = .returned (.bool (p x)) ∧ Below W.heap.size W w')
    (A : Option Addr) (c : Nat) (l : List S35) (w : World) (hr : Kd.C k35 w A l.length l) (hc : l.length ≤ c) :
    Calls Try.prog 24 #[.slice A l.length c, .func (.func g) #[] #[]] w fun e w' => e = .returned (.int .i64 (fidx p l 0)) ∧ Below w.heap.size w w' := by
  have HR := Aside0.mk hr
  have HC := Aside0.mk (Kd.C_max hr)
  have HB := Aside0.mk (Below.refl w.heap.size w)
  clear hr hc
  go_enter Try.func24, Try.ntmps24
  go_wp2
  go_loopw [8] (fun v8 w' => ∃ k : Nat, v8 = .int .i64 k ∧ Aside0 (k ≤ l.length) ∧ Aside0 (fidx p (l.drop k) k = fidx p l 0) ∧ Aside0 (Below w.heap.size w w')) (fun v8 _ => l.length - (intOf v8).toNat)
  case atStart => exact ⟨0, rfl, ⟨Nat.zero_le _⟩, ⟨rfl⟩, HB⟩
  case round =>
    clear HB
    obtain ⟨k, rfl, HK, HF, HB⟩ := hrel
    by_cases hlt : k < l.length
    · obtain ⟨ad, A0, c0, A1, c1, rfl, x0, x1, x2, x3, x4, x5, y0, y1, y2, y3⟩ := at_T35 (Kd.C_below HR.out HB.out) (k : Int) (by omega) (by omega)
      have HS := Aside0.mk (fidx_step p l k z35 hlt)
      have hltz : (k : Int) < (l.length : Int) := by omega
      have HC1 : (k : Int) + 1 ≤ 9223372036854775807 := by have := HC.out; omega
      have hcall := hp (rd_T35 l k) A0 A1 c0 c1 wr y0 y1 y2 y3
      clear y0 y1 y2 y3
      rw [show rd_T35 l (k : Int) = l.getD k z35 from rfl] at hcall x0 x1 x2 x3 x4 x5
      rw [Int.toNat_natCast] at x0 x1 x2 x3 x4 x5
      generalize l.getD k z35 = y at *
      have p1 : (0 ≤ (k : Int)) = True := eq_true (by omega)
      replace hltz := eq_true hltz
      have HL := Aside0.mk hlt
      clear hp hlt
      cases hq : p y with
      | true =>
        rw [hq] at hcall
        have HQ := Aside0.mk hq
        clear hq
        go_wp2
        refine hcall.mono ?_
        rintro e w' ⟨rfl, hb'⟩
        go_wp2
        go_ret
        exact ⟨by rw [← HF.out, HS.out, HQ.out]; rfl, below_step HB.out hb'⟩
      | false =>
        rw [hq] at hcall
        have HQ := Aside0.mk hq
        clear hq
        go_wp2
        refine hcall.mono ?_
        rintro e w' ⟨rfl, hb'⟩
        go_wp2
        go_roundw
        case rel => exact ⟨k + 1, by go_num, HL, ⟨by rw [← HF.out, HS.out, HQ.out]; rfl⟩, ⟨below_step HB.out hb'⟩⟩
        case measure => have := HL.out; simp [intOf]; omega
    · have hltz : ¬ (k : Int) < (l.length : Int) := by omega
      go_wp2
      go_ret
      exact ⟨by rw [← HF.out, List.drop_eq_nil_of_le (by omega)]; rfl, HB.out⟩
theorem conD (p : S35 → Bool) (g : FuncId) (eg : ∀ args w, (callFunc g args).run Try.prog w = .ok (.enter g args) w)
    (hp : ∀ (x : S35) (A0 A1 : Option Addr) (c0 c1 : Nat) (W : World), x.f0.length ≤ c0 → (Kd.slice 85 k85).C W A0 x.f0.length x.f0 → x.f1.length ≤ c1 → k33.C W A1 x.f1.length x.f1 →
      Calls Try.prog g #[.agg #[.slice A0 x.f0.length c0, .slice A1 x.f1.length c1, .int .i64 x.f2.f0, .int .i64 x.f2.f1, .int .i64 x.f2.f2, .int .i64 x.f3]] W fun e w' => e = .returned (.bool (p x)) ∧ Below W.heap.size W w')
    (A : Option Addr) (c : Nat) (l : List S35) (w : World) (hr : Kd.C k35 w A l.length l) (hc : l.length ≤ c) :
    Calls Try.prog 18 #[.slice A l.length c, .func (.func g) #[] #[]] w fun e w' => e = .returned (.bool (l.any p)) ∧ Below w.heap.size w w' := by
  have HI := Aside0.mk (idxD p g eg hp A c l w hr hc)
  have HA := Aside0.mk (fidx_any p l 0)
  clear hr hc hp eg
  go_enter Try.func18, Try.ntmps18
  go_wp2_with (go_at_call 24; (with_reducible refine HI.out.mono ?_); rintro e w' ⟨rfl, hb⟩)
  go_ret
  exact ⟨by rw [HA.out]; rfl, hb⟩

/-- A place that is neither too far right or up, nor left or down. -/
def smallB (x y : Int) : Bool := decide (x = mx (-1048576) (mn 1048576 x)) && decide (y = mx (-1048576) (mn 1048576 y))
theorem small_some (x y : Int) : attach_small.f x y = some (smallB x y) := by
  unfold attach_small.f smallB
  by_cases h : x = mx (-1048576) (mn 1048576 x)
  · rw [if_pos h, decide_eq_true h]
    by_cases h2 : y = mx (-1048576) (mn 1048576 y)
    · rw [if_pos h2, decide_eq_true h2]; rfl
    · rw [if_neg h2, decide_eq_false h2]; rfl
  · rw [if_neg h, decide_eq_false h]; rfl
theorem smallB_iff (x y : Int) : smallB x y = true ↔ (-1048576 ≤ x ∧ x ≤ 1048576) ∧ (-1048576 ≤ y ∧ y ≤ 1048576) := by
  unfold smallB
  rw [Bool.and_eq_true, decide_eq_true_iff, decide_eq_true_iff]
  unfold mx mn
  constructor
  · intro ⟨h1, h2⟩
    repeat' split at h1
    all_goals (repeat' split at h2)
    all_goals omega
  · intro ⟨h1, h2⟩
    constructor
    · repeat' split
      all_goals omega
    · repeat' split
      all_goals omega
def farB (a : S33) : Bool := !smallB a.f1 a.f2
def rightB (d : S35) : Bool := !d.f1.any farB && (!farB d.f2 && smallB d.f3 0)
theorem far_calls (x : S33) (W : World) : Calls Try.prog 25 #[.agg #[.int .i64 x.f0, .int .i64 x.f1, .int .i64 x.f2]] W fun e w' => e = .returned (.bool (farB x)) ∧ Below W.heap.size W w' :=
  attach_right_1.calls x.f0 x.f1 x.f2 (farB x) W (by unfold attach_right_1.f; rw [small_some]; rfl)
theorem small_calls (x y : Int) (W : World) : Calls Try.prog 26 #[.agg #[.int .i64 x, .int .i64 y]] W fun e w' => e = .returned (.bool (smallB x y)) ∧ Below W.heap.size W w' :=
  attach_small.calls x y _ W (small_some x y)

set_option maxHeartbeats 1000000 in
theorem right_calls (x : S35) (A0 A1 : Option Addr) (c0 c1 : Nat) (W : World) (h1 : x.f1.length ≤ c1) (h2 : k33.C W A1 x.f1.length x.f1) :
    Calls Try.prog 20 #[.agg #[.slice A0 x.f0.length c0, .slice A1 x.f1.length c1, .int .i64 x.f2.f0, .int .i64 x.f2.f1, .int .i64 x.f2.f2, .int .i64 x.f3]] W fun e w' => e = .returned (.bool (rightB x)) ∧ Below W.heap.size W w' := by
  have H1 := Aside0.mk h1
  have H2 := Aside0.mk h2
  have HO := Own.start W
  have C1 : ∀ w', Below W.heap.size W w' → Calls Try.prog 27 #[.slice A1 x.f1.length c1, .func (.func 25) #[] #[]] w' fun e w'' => e = .returned (.bool (x.f1.any farB)) ∧ Below w'.heap.size w' w'' := fun w' hb => conA farB 25 (enters_ (P := Try.prog) Try.func25 (by kernel_rfl) rfl) far_calls A1 c1 x.f1 w' (Kd.C_below H2.out hb) H1.out
  have HC1 := Aside0.mk C1
  have HR := Aside0.mk (show rightB x = (!x.f1.any farB && (!farB x.f2 && smallB x.f3 0)) from rfl)
  clear h1 h2 C1
  cases q1 : x.f1.any farB with
  | true =>
    have Q1 := Aside0.mk q1
    rw [q1] at HR
    clear q1
    go_enter Try.func20, Try.ntmps20
    go_wp2_with (first
      | ((with_reducible refine gate_dst (N := 1) rfl ?_); refine ev_box (N := 1) (cs := #[.slice A0 x.f0.length c0, .slice A1 x.f1.length c1, .int .i64 x.f2.f0, .int .i64 x.f2.f1, .int .i64 x.f2.f2, .int .i64 x.f3]) (t := 35) HO rfl rfl ?hr ?_; (case hr => first | (go_simp; done) | (go_simp; rfl)); intro g1 W1 HO1 hb1; clear HO; have x1 := HO1.box_cell 0 rfl 1 rfl; have HB1 := Aside0.mk hb1; clear hb1)
      | (go_at_call 27; (with_reducible refine (HC1.out _ HB1.out).mono ?_); rintro e w' ⟨rfl, hb⟩; clear x1; have HO2 := HO1.grow hb; rw [Q1.out]))
    go_ret
    exact ⟨by rw [HR.out]; rfl, HO2.below⟩
  | false =>
    have Q1 := Aside0.mk q1
    rw [q1] at HR
    clear q1
    cases q2 : farB x.f2 with
    | true =>
      have Q2 := Aside0.mk q2
      rw [q2] at HR
      clear q2
      go_enter Try.func20, Try.ntmps20
      go_wp2_with (first
        | ((with_reducible refine gate_dst (N := 1) rfl ?_); refine ev_box (N := 1) (cs := #[.slice A0 x.f0.length c0, .slice A1 x.f1.length c1, .int .i64 x.f2.f0, .int .i64 x.f2.f1, .int .i64 x.f2.f2, .int .i64 x.f3]) (t := 35) HO rfl rfl ?hr ?_; (case hr => first | (go_simp; done) | (go_simp; rfl)); intro g1 W1 HO1 hb1; clear HO; have x1 := HO1.box_cell 0 rfl 1 rfl; have HB1 := Aside0.mk hb1; clear hb1)
        | (go_at_call 27; (with_reducible refine (HC1.out _ HB1.out).mono ?_); rintro e w' ⟨rfl, hb⟩; clear x1; have HO2 := HO1.grow hb; rw [Q1.out]; have x2 := HO2.box_cell 0 rfl 2 rfl; have x3 := HO2.box_cell 0 rfl 3 rfl; have x4 := HO2.box_cell 0 rfl 4 rfl)
        | (go_at_call 25; (with_reducible refine (far_calls x.f2 _).mono ?_); rintro e w2 ⟨rfl, hb⟩; clear x2 x3 x4; have HO3 := HO2.grow hb; rw [Q2.out]))
      go_ret
      exact ⟨by rw [HR.out]; rfl, HO3.below⟩
    | false =>
      have Q2 := Aside0.mk q2
      rw [q2] at HR
      clear q2
      go_enter Try.func20, Try.ntmps20
      go_wp2_with (first
        | ((with_reducible refine gate_dst (N := 1) rfl ?_); refine ev_box (N := 1) (cs := #[.slice A0 x.f0.length c0, .slice A1 x.f1.length c1, .int .i64 x.f2.f0, .int .i64 x.f2.f1, .int .i64 x.f2.f2, .int .i64 x.f3]) (t := 35) HO rfl rfl ?hr ?_; (case hr => first | (go_simp; done) | (go_simp; rfl)); intro g1 W1 HO1 hb1; clear HO; have x1 := HO1.box_cell 0 rfl 1 rfl; have HB1 := Aside0.mk hb1; clear hb1)
        | (go_at_call 27; (with_reducible refine (HC1.out _ HB1.out).mono ?_); rintro e w' ⟨rfl, hb⟩; clear x1; have HO2 := HO1.grow hb; rw [Q1.out]; have x2 := HO2.box_cell 0 rfl 2 rfl; have x3 := HO2.box_cell 0 rfl 3 rfl; have x4 := HO2.box_cell 0 rfl 4 rfl)
        | (go_at_call 25; (with_reducible refine (far_calls x.f2 _).mono ?_); rintro e w2 ⟨rfl, hb⟩; clear x2 x3 x4; have HO3 := HO2.grow hb; rw [Q2.out]; have x5 := HO3.box_cell 0 rfl 5 rfl)
        | (go_at_call 26; (with_reducible refine (small_calls _ _ _).mono ?_); rintro e w3 ⟨rfl, hb⟩; clear x5; have HO4 := HO3.grow hb))
      go_ret
      exact ⟨by rw [HR.out]; rfl, HO4.below⟩

set_option maxHeartbeats 1000000 in
theorem place1_calls (x : S35) (A0 A1 : Option Addr) (c0 c1 : Nat) (W : World) (h1 : x.f1.length ≤ c1) (h2 : k33.C W A1 x.f1.length x.f1) :
    Calls Try.prog 19 #[.agg #[.slice A0 x.f0.length c0, .slice A1 x.f1.length c1, .int .i64 x.f2.f0, .int .i64 x.f2.f1, .int .i64 x.f2.f2, .int .i64 x.f3]] W fun e w' => e = .returned (.bool (!rightB x)) ∧ Below W.heap.size W w' := by
  have C1 : ∀ w', Below W.heap.size W w' → _ := fun w' hb => right_calls x A0 A1 c0 c1 w' h1 (Kd.C_below h2 hb)
  have HC1 := Aside0.mk C1
  have HO := Own.start W
  clear h1 h2 C1
  go_enter Try.func19, Try.ntmps19
  go_wp2_with (first
    | ((with_reducible refine gate_dst (N := 1) rfl ?_); refine ev_box (N := 1) (cs := #[.slice A0 x.f0.length c0, .slice A1 x.f1.length c1, .int .i64 x.f2.f0, .int .i64 x.f2.f1, .int .i64 x.f2.f2, .int .i64 x.f3]) (t := 35) HO rfl rfl ?hr ?_; (case hr => first | (go_simp; done) | (go_simp; rfl)); intro g1 W1 HO1 hb1; clear HO; have x0 := HO1.box_cell 0 rfl 0 rfl; have x1 := HO1.box_cell 0 rfl 1 rfl; have x2 := HO1.box_cell 0 rfl 2 rfl; have x3 := HO1.box_cell 0 rfl 3 rfl; have x4 := HO1.box_cell 0 rfl 4 rfl; have x5 := HO1.box_cell 0 rfl 5 rfl; have HB1 := Aside0.mk hb1; clear hb1)
    | (go_at_call 20; (with_reducible refine (HC1.out _ HB1.out).mono ?_); rintro e w' ⟨rfl, hb⟩; clear x0 x1 x2 x3 x4 x5; have HO2 := HO1.grow hb))
  go_ret
  exact ⟨rfl, HO2.below⟩

end Go.Proofs.Ytnnkbcgoockniaa.Q
