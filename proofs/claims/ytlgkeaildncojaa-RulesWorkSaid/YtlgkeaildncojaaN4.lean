import Derived.Test.YtlgkeaildncojaaN3
namespace Go.Proofs.Ytlgkeaildncojaa.Q
open Go.RowKit Go.Proofs.YtlgkeaildncojaaW.PrintWords Go.Proofs.YtlgkeaildncojaaW.PrintLast Go.Proofs.YtlgkeaildncojaaW.PrintMore

theorem fit42 (x : Int) (w : World) : Calls Try.prog 42 #[.int .u64 x] w fun e w' => e = .returned (.bool ((fun _ => true) x)) ∧ Below w.heap.size w w' := by
  go_enter Try.func42, Try.ntmps42
  go_wp2
  go_ret
  exact ⟨rfl, Below.refl _ _⟩

/-- What the walks of sets ask of a list. -/
def okl (l : List Int) : Bool := decide (l.length < 1000000000) && l.all (fun x => decide (wrap64 x = x))
theorem okl_len {l : List Int} (h : okl l = true) : l.length < 1000000000 := by
  simp only [okl, Bool.and_eq_true, decide_eq_true_eq] at h
  exact h.1
theorem okl_wf {l : List Int} (h : okl l = true) : ∀ x ∈ l, (Lit.int .i64 x).wf = true := by
  simp only [okl, Bool.and_eq_true, List.all_eq_true, decide_eq_true_eq] at h
  intro x hx
  have h1 := h.2 x hx
  unfold wrap64 at h1
  have e1 : IntKind.i64.min = -9223372036854775808 := by decide
  have e2 : IntKind.i64.max = 9223372036854775807 := by decide
  simp only [Lit.wf, e1, e2, Bool.and_eq_true, decide_eq_true_eq]
  omega

/-- The block of a list of lists, just made. -/
theorem c_one {w : World} {A : Option Addr} {l : List Int} {c : Nat} (h : Kd.C (Kd.int .i64) w A l.length l) (hc : l.length ≤ c) : Kd.C (Kd.slice 3 (Kd.int .i64)) (w.alloc (.cells #[.slice A l.length c] 26)) (some ⟨w.heap.size, 0, none⟩) 1 [l] := by
  have hb : Below w.heap.size w (w.alloc (.cells #[.slice A l.length c] 26)) := (Below.refl _ _).alloc (Nat.le_refl _) _
  refine ⟨rfl, by omega, fun _ => ⟨_, rfl, fun j p hj => ?_⟩⟩
  cases j with
  | zero =>
    simp only [List.getElem?_cons_zero, Option.some.injEq] at hj
    subst hj
    refine ⟨[.slice A l.length c], rfl, ⟨A, c, rfl, hc, Kd.C_below h hb⟩, fun i u hu => ?_⟩
    cases i with
    | zero =>
      simp only [List.getElem?_cons_zero, Option.some.injEq] at hu
      subst hu
      exact (blk_cell (heap_alloc_new w _) 0).trans rfl
    | succ i => simp at hu
  | succ j => simp at hj
theorem c_two {w : World} {A B : Option Addr} {l m : List Int} {c d : Nat} (h : Kd.C (Kd.int .i64) w A l.length l) (hc : l.length ≤ c) (h' : Kd.C (Kd.int .i64) w B m.length m) (hd : m.length ≤ d) : Kd.C (Kd.slice 3 (Kd.int .i64)) (w.alloc (.cells #[.slice A l.length c, .slice B m.length d] 26)) (some ⟨w.heap.size, 0, none⟩) 2 [l, m] := by
  have hb : Below w.heap.size w (w.alloc (.cells #[.slice A l.length c, .slice B m.length d] 26)) := (Below.refl _ _).alloc (Nat.le_refl _) _
  refine ⟨rfl, by omega, fun _ => ⟨_, rfl, fun j p hj => ?_⟩⟩
  cases j with
  | zero =>
    simp only [List.getElem?_cons_zero, Option.some.injEq] at hj
    subst hj
    refine ⟨[.slice A l.length c], rfl, ⟨A, c, rfl, hc, Kd.C_below h hb⟩, fun i u hu => ?_⟩
    cases i with
    | zero =>
      simp only [List.getElem?_cons_zero, Option.some.injEq] at hu
      subst hu
      exact (blk_cell (heap_alloc_new w _) 0).trans rfl
    | succ i => simp at hu
  | succ j =>
    cases j with
    | zero =>
      simp only [List.getElem?_cons_zero, List.getElem?_cons_succ, Option.some.injEq] at hj
      subst hj
      refine ⟨[.slice B m.length d], rfl, ⟨B, d, rfl, hd, Kd.C_below h' hb⟩, fun i u hu => ?_⟩
      cases i with
      | zero =>
        simp only [List.getElem?_cons_zero, Option.some.injEq] at hu
        subst hu
        exact (blk_cell (heap_alloc_new w _) 1).trans rfl
      | succ i => simp at hu
    | succ j => simp at hj

theorem hset_congr {l m : List Int} (h : ∀ y, y ∈ l ↔ y ∈ m) : hset l = hset m := sorted_ext _ _ (hset_sorted l) (hset_sorted m) (fun y => by rw [mem_hset, mem_hset]; exact h y)

def norm_f (l : List Int) : Option (List Int) := if okl l = true then some (hset l) else none
def join_f (l m : List Int) : Option (List Int) := if okl l = true ∧ okl m = true then some (hset (l ++ m)) else none
def meet_f (l m : List Int) : Option (List Int) := if okl l = true ∧ okl m = true then some (hset (l.filter fun x => decide (x ∈ m))) else none
def less_f (l m : List Int) : Option (List Int) := if okl l = true ∧ okl m = true then some (hset (l.filter fun x => decide (x ∉ m))) else none

theorem norm_calls (A0 : Option Addr) (c0 : Nat) (l0 : List Int) (r : List Int) (w : World) (hr0 : Kd.C (Kd.int .i64) w A0 l0.length l0) (hc0 : l0.length ≤ c0) (h : norm_f l0 = some r) :
    Calls Try.prog 29 #[.slice A0 l0.length c0] w fun e w' => ∃ v0_ : Value, e = .returned (v0_) ∧ Kd.R (Kd.int .i64) 3 w' w.heap.size (fun _ => True) v0_ r ∧ Below w.heap.size w w' := by
  unfold norm_f at h
  by_cases hk : okl l0 = true
  · rw [if_pos hk] at h
    obtain rfl := Option.some.inj h
    have hch := chosen_calls (fun _ => true) 42 Try.f42 Try.func42 rfl rfl fit42 (some ⟨w.heap.size, 0, none⟩) [l0] 1 _ l0 [] (c_one hr0 hc0) (Nat.le_refl _) (.inl ⟨rfl, rfl⟩) rfl (fun h => by cases h) (okl_wf hk) (fun x hx => by cases hx) (by have := okl_len hk; simp only [List.length_nil]; omega)
    have HCH := Aside0.mk hch
    have HB := (Below.refl w.heap.size w).alloc (Nat.le_refl _) (.cells #[.slice A0 l0.length c0] 26)
    clear hch hr0 h
    go_enter Try.func29, Try.ntmps29
    go_wp2_with (first | (go_at_call 41; (refine HCH.out.mono ?_); rintro e w3 ⟨v, rfl, ho, hb⟩) | go_in)
    go_ret
    have e : hset ((l0 ++ []).filter fun _ => true) = hset l0 := hset_congr (fun y => by simp)
    rw [e] at ho
    exact ⟨_, rfl, Kd.R_lower ho HB.size, below_then HB HB.size hb⟩
  · rw [if_neg hk] at h
    cases h
end Go.Proofs.Ytlgkeaildncojaa.Q
