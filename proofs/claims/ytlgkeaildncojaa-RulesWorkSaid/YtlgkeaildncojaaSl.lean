/- slices.IndexFunc and ContainsFunc at int, []int, Call. Printed by genSl.py. -/
import Derived.Test.YtlgkeaildncojaaHw
namespace Go.Proofs.Ytlgkeaildncojaa.Q
open Go.RowKit Go.Proofs.YtlgkeaildncojaaW.PrintWords Go.Proofs.YtlgkeaildncojaaW.PrintLast Go.Proofs.YtlgkeaildncojaaW.PrintMore
set_option linter.unusedSimpArgs false
set_option linter.unusedVariables false
/-- The first index of an element that p takes; -1 if there is none. -/
def fidx {α : Type} (p : α → Bool) : List α → Nat → Int
  | [], _ => -1
  | x :: t, i => if p x then i else fidx p t (i + 1)
theorem fidx_pos {α : Type} (p : α → Bool) : ∀ (l : List α) (i : Nat), (0 ≤ fidx p l i) ↔ l.any p = true
  | [], i => by simp [fidx]
  | x :: t, i => by
    have ih := fidx_pos p t (i + 1)
    rw [List.any_cons]
    by_cases h : p x = true
    · rw [show fidx p (x :: t) i = (i : Int) by simp [fidx, h], h]; simp
    · rw [show fidx p (x :: t) i = fidx p t (i + 1) by simp [fidx, h], ih]; simp [h]
theorem fidx_any {α : Type} (p : α → Bool) (l : List α) (i : Nat) : decide (0 ≤ fidx p l i) = l.any p := by
  rw [Bool.eq_iff_iff, decide_eq_true_iff]
  exact fidx_pos p l i
theorem fidx_step {α : Type} (p : α → Bool) (l : List α) (k : Nat) (z : α) (h : k < l.length) : fidx p (l.drop k) k = if p (l.getD k z) then (k : Int) else fidx p (l.drop (k + 1)) (k + 1) := by
  rw [List.drop_eq_getElem_cons h, List.getD_eq_getElem?_getD, List.getElem?_eq_getElem h]
  rfl
theorem getD_in {α : Type} (l : List α) (k : Nat) (z : α) (h : k < l.length) : l.getD k z ∈ l := by
  rw [List.getD_eq_getElem?_getD, List.getElem?_eq_getElem h]
  exact List.getElem_mem h
theorem at_int {w : World} {A : Option Addr} {n : Nat} {xs : List Int} (h : (Kd.int .i64).C w A n xs) (k : Nat) (hk : k < n) : ∃ ad, A = some ad ∧ w.cell? (ad.add k) = some (.int .i64 (xs.getD k 0)) := by
  obtain ⟨ad, c, e, _, hK, hc0⟩ := Kd.C_get h (0 : Int) (k : Int) (by omega) (by omega)
  rw [Int.toNat_natCast] at hK hc0
  have hc : ∀ j u, c[j]? = some u → w.cell? (ad.add (k * 1 + j)) = some u := hc0
  obtain rfl := hK
  exact ⟨ad, e, by have hq := hc 0 _ rfl; rwa [Nat.mul_one, Nat.add_zero] at hq⟩
theorem at_sl {α : Type} {d : Kd α} {e : Nat} {w : World} {A : Option Addr} {n : Nat} {xs : List (List α)} (h : (Kd.slice e d).C w A n xs) (k : Nat) (hk : k < n) : ∃ ad A0 c0, A = some ad ∧ w.cell? (ad.add k) = some (.slice A0 (xs.getD k []).length c0) ∧ (xs.getD k []).length ≤ c0 ∧ d.C w A0 (xs.getD k []).length (xs.getD k []) := by
  obtain ⟨ad, c, e, _, hK, hc0⟩ := Kd.C_get h ([] : List α) (k : Int) (by omega) (by omega)
  rw [Int.toNat_natCast] at hK hc0
  have hc : ∀ j u, c[j]? = some u → w.cell? (ad.add (k * 1 + j)) = some u := hc0
  obtain ⟨A0, c0, rfl, h1, h2⟩ := hK
  exact ⟨ad, A0, c0, e, by have hq := hc 0 _ rfl; rwa [Nat.mul_one, Nat.add_zero] at hq, h1, h2⟩
set_option maxHeartbeats 1000000 in
theorem idxI (p : Int → Bool) (g : FuncId) (fr : Array Value) (eg : ∀ args w, (callFunc g args).run Try.prog w = .ok (.enter g args) w)
    (A : Option Addr) (c : Nat) (l : List Int) (w : World) (hr : Kd.C (Kd.int .i64) w A l.length l)
    (hp : ∀ x ∈ l, ∀ (W : World), Below w.heap.size w W → Calls Try.prog g (#[.int .i64 x] ++ fr) W fun e w' => e = .returned (.bool (p x)) ∧ Below W.heap.size W w') :
    Calls Try.prog 62 #[.slice A l.length c, .func (.func g) #[] fr] w fun e w' => e = .returned (.int .i64 (fidx p l 0)) ∧ Below w.heap.size w w' := by
  have HR := Aside0.mk hr
  have HC := Aside0.mk (Kd.C_max hr)
  have HB := Aside0.mk (Below.refl w.heap.size w)
  clear hr
  go_enter Try.func62, Try.ntmps62
  go_wp2
  go_loopw [8] (fun v8 w' => ∃ k : Nat, v8 = .int .i64 k ∧ Aside0 (k ≤ l.length) ∧ Aside0 (fidx p (l.drop k) k = fidx p l 0) ∧ Aside0 (Below w.heap.size w w')) (fun v8 _ => l.length - (intOf v8).toNat)
  case atStart => exact ⟨0, rfl, ⟨Nat.zero_le _⟩, ⟨rfl⟩, HB⟩
  case round =>
    clear HB
    obtain ⟨k, rfl, HK, HF, HB⟩ := hrel
    by_cases hlt : k < l.length
    · have HS := Aside0.mk (fidx_step p l k 0 hlt)
      have hltz : (k : Int) < (l.length : Int) := by omega
      have HC1 : (k : Int) + 1 ≤ 9223372036854775807 := by have := HC.out; omega
      obtain ⟨ad, hA, x0⟩ := at_int (Kd.C_below HR.out HB.out) k hlt
      subst hA
      have hcall := hp (l.getD k 0) (getD_in l k 0 hlt) wr HB.out
      generalize l.getD k 0 = y at *
      have p1 : (0 ≤ (k : Int)) = True := eq_true (by omega)
      replace hltz := eq_true hltz
      have HL := Aside0.mk hlt
      clear hp hlt
      cases hq : p y with
      | true =>
        rw [hq] at hcall
        have HQ := Aside0.mk hq
        clear hq
        go_wp2
        refine hcall.mono ?_
        rintro e w' ⟨rfl, hb'⟩
        go_wp2
        go_ret
        exact ⟨by rw [← HF.out, HS.out, HQ.out]; rfl, below_step HB.out hb'⟩
      | false =>
        rw [hq] at hcall
        have HQ := Aside0.mk hq
        clear hq
        go_wp2
        refine hcall.mono ?_
        rintro e w' ⟨rfl, hb'⟩
        go_wp2
        go_roundw
        case rel => exact ⟨k + 1, by go_num, HL, ⟨by rw [← HF.out, HS.out, HQ.out]; rfl⟩, ⟨below_step HB.out hb'⟩⟩
        case measure => have := HL.out; simp [intOf]; omega
    · have hltz : ¬ (k : Int) < (l.length : Int) := by omega
      go_wp2
      go_ret
      exact ⟨by rw [← HF.out, List.drop_eq_nil_of_le (by omega)]; rfl, HB.out⟩
theorem conI (p : Int → Bool) (g : FuncId) (fr : Array Value) (eg : ∀ args w, (callFunc g args).run Try.prog w = .ok (.enter g args) w)
    (A : Option Addr) (c : Nat) (l : List Int) (w : World) (hr : Kd.C (Kd.int .i64) w A l.length l)
    (hp : ∀ x ∈ l, ∀ (W : World), Below w.heap.size w W → Calls Try.prog g (#[.int .i64 x] ++ fr) W fun e w' => e = .returned (.bool (p x)) ∧ Below W.heap.size W w') :
    Calls Try.prog 45 #[.slice A l.length c, .func (.func g) #[] fr] w fun e w' => e = .returned (.bool (l.any p)) ∧ Below w.heap.size w w' := by
  have HI := Aside0.mk (idxI p g fr eg A c l w hr hp)
  have HA := Aside0.mk (fidx_any p l 0)
  clear hr hp eg
  go_enter Try.func45, Try.ntmps45
  go_wp2_with (go_at_call 62; (with_reducible refine HI.out.mono ?_); rintro e w' ⟨rfl, hb⟩)
  go_ret
  exact ⟨by rw [HA.out]; rfl, hb⟩
set_option maxHeartbeats 1000000 in
theorem idxL (p : (List Int) → Bool) (g : FuncId) (fr : Array Value) (eg : ∀ args w, (callFunc g args).run Try.prog w = .ok (.enter g args) w)
    (A : Option Addr) (c : Nat) (l : List (List Int)) (w : World) (hr : Kd.C (Kd.slice 3 (Kd.int .i64)) w A l.length l)
    (hp : ∀ x ∈ l, ∀ (A0 : Option Addr) (c0 : Nat) (W : World), Below w.heap.size w W → x.length ≤ c0 → (Kd.int .i64).C W A0 x.length x → Calls Try.prog g (#[.slice A0 x.length c0] ++ fr) W fun e w' => e = .returned (.bool (p x)) ∧ Below W.heap.size W w') :
    Calls Try.prog 63 #[.slice A l.length c, .func (.func g) #[] fr] w fun e w' => e = .returned (.int .i64 (fidx p l 0)) ∧ Below w.heap.size w w' := by
  have HR := Aside0.mk hr
  have HC := Aside0.mk (Kd.C_max hr)
  have HB := Aside0.mk (Below.refl w.heap.size w)
  clear hr
  go_enter Try.func63, Try.ntmps63
  go_wp2
  go_loopw [8] (fun v8 w' => ∃ k : Nat, v8 = .int .i64 k ∧ Aside0 (k ≤ l.length) ∧ Aside0 (fidx p (l.drop k) k = fidx p l 0) ∧ Aside0 (Below w.heap.size w w')) (fun v8 _ => l.length - (intOf v8).toNat)
  case atStart => exact ⟨0, rfl, ⟨Nat.zero_le _⟩, ⟨rfl⟩, HB⟩
  case round =>
    clear HB
    obtain ⟨k, rfl, HK, HF, HB⟩ := hrel
    by_cases hlt : k < l.length
    · have HS := Aside0.mk (fidx_step p l k [] hlt)
      have hltz : (k : Int) < (l.length : Int) := by omega
      have HC1 : (k : Int) + 1 ≤ 9223372036854775807 := by have := HC.out; omega
      obtain ⟨ad, A0, c0, hA, x0, y0, y1⟩ := at_sl (Kd.C_below HR.out HB.out) k hlt
      subst hA
      have hcall := hp (l.getD k []) (getD_in l k [] hlt) A0 c0 wr HB.out y0 y1
      clear y0 y1
      generalize l.getD k [] = y at *
      have p1 : (0 ≤ (k : Int)) = True := eq_true (by omega)
      replace hltz := eq_true hltz
      have HL := Aside0.mk hlt
      clear hp hlt
      cases hq : p y with
      | true =>
        rw [hq] at hcall
        have HQ := Aside0.mk hq
        clear hq
        go_wp2
        refine hcall.mono ?_
        rintro e w' ⟨rfl, hb'⟩
        go_wp2
        go_ret
        exact ⟨by rw [← HF.out, HS.out, HQ.out]; rfl, below_step HB.out hb'⟩
      | false =>
        rw [hq] at hcall
        have HQ := Aside0.mk hq
        clear hq
        go_wp2
        refine hcall.mono ?_
        rintro e w' ⟨rfl, hb'⟩
        go_wp2
        go_roundw
        case rel => exact ⟨k + 1, by go_num, HL, ⟨by rw [← HF.out, HS.out, HQ.out]; rfl⟩, ⟨below_step HB.out hb'⟩⟩
        case measure => have := HL.out; simp [intOf]; omega
    · have hltz : ¬ (k : Int) < (l.length : Int) := by omega
      go_wp2
      go_ret
      exact ⟨by rw [← HF.out, List.drop_eq_nil_of_le (by omega)]; rfl, HB.out⟩
theorem conL (p : (List Int) → Bool) (g : FuncId) (fr : Array Value) (eg : ∀ args w, (callFunc g args).run Try.prog w = .ok (.enter g args) w)
    (A : Option Addr) (c : Nat) (l : List (List Int)) (w : World) (hr : Kd.C (Kd.slice 3 (Kd.int .i64)) w A l.length l)
    (hp : ∀ x ∈ l, ∀ (A0 : Option Addr) (c0 : Nat) (W : World), Below w.heap.size w W → x.length ≤ c0 → (Kd.int .i64).C W A0 x.length x → Calls Try.prog g (#[.slice A0 x.length c0] ++ fr) W fun e w' => e = .returned (.bool (p x)) ∧ Below W.heap.size W w') :
    Calls Try.prog 48 #[.slice A l.length c, .func (.func g) #[] fr] w fun e w' => e = .returned (.bool (l.any p)) ∧ Below w.heap.size w w' := by
  have HI := Aside0.mk (idxL p g fr eg A c l w hr hp)
  have HA := Aside0.mk (fidx_any p l 0)
  clear hr hp eg
  go_enter Try.func48, Try.ntmps48
  go_wp2_with (go_at_call 63; (with_reducible refine HI.out.mono ?_); rintro e w' ⟨rfl, hb⟩)
  go_ret
  exact ⟨by rw [HA.out]; rfl, hb⟩
set_option maxHeartbeats 1000000 in
theorem idxC (p : S60 → Bool) (g : FuncId) (fr : Array Value) (eg : ∀ args w, (callFunc g args).run Try.prog w = .ok (.enter g args) w)
    (A : Option Addr) (c : Nat) (l : List S60) (w : World) (hr : Kd.C k60 w A l.length l)
    (hp : ∀ x ∈ l, ∀ (W : World), Below w.heap.size w W → Calls Try.prog g (#[.agg #[.int .i64 x.f0, .int .i64 x.f1]] ++ fr) W fun e w' => e = .returned (.bool (p x)) ∧ Below W.heap.size W w') :
    Calls Try.prog 66 #[.slice A l.length c, .func (.func g) #[] fr] w fun e w' => e = .returned (.int .i64 (fidx p l 0)) ∧ Below w.heap.size w w' := by
  have HR := Aside0.mk hr
  have HC := Aside0.mk (Kd.C_max hr)
  have HB := Aside0.mk (Below.refl w.heap.size w)
  clear hr
  go_enter Try.func66, Try.ntmps66
  go_wp2
  go_loopw [8] (fun v8 w' => ∃ k : Nat, v8 = .int .i64 k ∧ Aside0 (k ≤ l.length) ∧ Aside0 (fidx p (l.drop k) k = fidx p l 0) ∧ Aside0 (Below w.heap.size w w')) (fun v8 _ => l.length - (intOf v8).toNat)
  case atStart => exact ⟨0, rfl, ⟨Nat.zero_le _⟩, ⟨rfl⟩, HB⟩
  case round =>
    clear HB
    obtain ⟨k, rfl, HK, HF, HB⟩ := hrel
    by_cases hlt : k < l.length
    · have HS := Aside0.mk (fidx_step p l k z60 hlt)
      have hltz : (k : Int) < (l.length : Int) := by omega
      have HC1 : (k : Int) + 1 ≤ 9223372036854775807 := by have := HC.out; omega
      obtain ⟨ad, hA, x0, x1⟩ := at_T60 (Kd.C_below HR.out HB.out) (k : Int) (by omega) (by omega)
      subst hA
      rw [show rd_T60 l (k : Int) = l.getD k z60 from rfl] at x0 x1
      rw [Int.toNat_natCast] at x0 x1
      have hcall := hp (l.getD k z60) (getD_in l k z60 hlt) wr HB.out
      generalize l.getD k z60 = y at *
      have p1 : (0 ≤ (k : Int)) = True := eq_true (by omega)
      replace hltz := eq_true hltz
      have HL := Aside0.mk hlt
      clear hp hlt
      cases hq : p y with
      | true =>
        rw [hq] at hcall
        have HQ := Aside0.mk hq
        clear hq
        go_wp2
        refine hcall.mono ?_
        rintro e w' ⟨rfl, hb'⟩
        go_wp2
        go_ret
        exact ⟨by rw [← HF.out, HS.out, HQ.out]; rfl, below_step HB.out hb'⟩
      | false =>
        rw [hq] at hcall
        have HQ := Aside0.mk hq
        clear hq
        go_wp2
        refine hcall.mono ?_
        rintro e w' ⟨rfl, hb'⟩
        go_wp2
        go_roundw
        case rel => exact ⟨k + 1, by go_num, HL, ⟨by rw [← HF.out, HS.out, HQ.out]; rfl⟩, ⟨below_step HB.out hb'⟩⟩
        case measure => have := HL.out; simp [intOf]; omega
    · have hltz : ¬ (k : Int) < (l.length : Int) := by omega
      go_wp2
      go_ret
      exact ⟨by rw [← HF.out, List.drop_eq_nil_of_le (by omega)]; rfl, HB.out⟩
theorem conC (p : S60 → Bool) (g : FuncId) (fr : Array Value) (eg : ∀ args w, (callFunc g args).run Try.prog w = .ok (.enter g args) w)
    (A : Option Addr) (c : Nat) (l : List S60) (w : World) (hr : Kd.C k60 w A l.length l)
    (hp : ∀ x ∈ l, ∀ (W : World), Below w.heap.size w W → Calls Try.prog g (#[.agg #[.int .i64 x.f0, .int .i64 x.f1]] ++ fr) W fun e w' => e = .returned (.bool (p x)) ∧ Below W.heap.size W w') :
    Calls Try.prog 51 #[.slice A l.length c, .func (.func g) #[] fr] w fun e w' => e = .returned (.bool (l.any p)) ∧ Below w.heap.size w w' := by
  have HI := Aside0.mk (idxC p g fr eg A c l w hr hp)
  have HA := Aside0.mk (fidx_any p l 0)
  clear hr hp eg
  go_enter Try.func51, Try.ntmps51
  go_wp2_with (go_at_call 66; (with_reducible refine HI.out.mono ?_); rintro e w' ⟨rfl, hb⟩)
  go_ret
  exact ⟨by rw [HA.out]; rfl, hb⟩
end Go.Proofs.Ytlgkeaildncojaa.Q
