/- slices.Clone and slices.Reverse at []int. -/
import Derived.Test.YtacnckneiklgpaaPc
import Derived.Laws.Cover3
import Derived.BigRegion
namespace Go.Proofs.Ytacnckneiklgpaa.Q
open Go.RowKit Go.Proofs.YtacnckneiklgpaaW.PrintWords Go.Proofs.YtacnckneiklgpaaW.PrintLast Go.Proofs.YtacnckneiklgpaaW.PrintMore
set_option linter.unusedSimpArgs false
set_option linter.unusedVariables false
theorem eql_nil (w : World) (a : Option Addr) (l c : Nat) : (binOp .eql 26 (.slice a l c) (.slice none 0 0)).run Try.prog w = .ok (.bool a.isNone) w := by
  simp only [binOp]
  simp [run_equal_slice_nil w 26 3 a l c Try.underlying26]
theorem hinfo3 : (Try.prog.info? 3).map (fun i => (i.zero, i.size, i.bytes)) = some (some (.int .i64 0), 1, 8) := by kernel_rfl
set_option maxRecDepth 100000 in
set_option maxHeartbeats 4000000 in
theorem clone_calls (A : Option Addr) (c : Nat) (l : List Int) (w : World) (hr : (Kd.int .i64).C w A l.length l) (hc : l.length ≤ c) (hl : l.length ≤ 1000000) :
    Calls Try.prog 38 #[.slice A l.length c] w fun e w' => ∃ v, e = .returned v ∧ Kd.R (Kd.int .i64) 3 w' w.heap.size (fun _ => True) v l ∧ Below w.heap.size w w' := by
  have HR := Aside0.mk hr
  have HC := Aside0.mk hc
  have HL := Aside0.mk hl
  have HO := Own.start w
  have hu := eql_nil
  cases A with
  | none =>
    have h0 : l = [] := by
      rcases Nat.eq_zero_or_pos l.length with h | h
      · exact List.eq_nil_of_length_eq_zero h
      · obtain ⟨ad, h2, -⟩ := hr.2.2 h
        cases h2
    subst h0
    clear hr hc hl
    go_enter Try.func38, Try.ntmps38
    go_wp2
    go_ret
    exact ⟨_, rfl, Kd.R_nil _ _ _ _ _, HO.below⟩
  | some ad =>
    clear hr hc hl
    go_enter Try.func38, Try.ntmps38
    go_wp2_with (first
      | ((with_reducible refine gate_dst (N := 5) rfl ?_); refine ev_lit (Kd.int .i64) 3 (N := 5) (xs := []) (inner := []) HO rfl rfl ?hr ?hp (by decide) ?_; (case hr => first | (go_simp; done) | (go_simp; rfl)); (case hp => exact Reps.none _ _); intro A3 c3 W3 HO3 hb3; clear HO hb3)
      | ((with_reducible refine gate_builtin (b := .append) (xs := #[.tmp 5, .tmp 6]) rfl ?_); at_builtin; refine ev_rows 0 HO3 rfl rfl (.tmp 5) (.tmp 6) 26 (.int .i64 0) 8 rfl Try.underlying26 hinfo3 rfl (Nat.succ_pos 0) (by decide) l (some ad) c rfl rfl (Kd.C_below HR.out HO3.below) (fun _ _ h => h) ?aL ?_; (case aL => have := HL.out; simp; omega); intro A4 c4 W4 HO4; clear HO3))
    go_ret
    exact ⟨_, rfl, HO4.row_R 0 rfl, HO4.below⟩
section
variable {P : Program} {w W : World} {L : List Res} {K : Nat → Obj → Prop}
/-- A cell of a row of ints of one's own. -/
theorem Own.int_cell {g n cap B : Nat} {xs : List Int} (h : Own w W L K) (i : Nat) (hi : L[i]? = some (.row (Kd.int .i64) 3 B (.slice (some ⟨g, 0, none⟩) n cap) xs)) (k : Nat) (hk : k < n) : W.cell? ⟨g, k, none⟩ = some (.int .i64 (xs.getD k 0)) ∧ W.frozen? ⟨g, k, none⟩ = false := by
  obtain ⟨_, _, F, h2⟩ := h
  obtain ⟨c, hcl, hM, hcc, hfr⟩ := Kd.R_elem (h2 i _ hi) (0 : Int) (k : Int) (by omega) (by omega)
  rw [Int.toNat_natCast] at hM hcc hfr
  have hc : ∀ j u, c[j]? = some u → W.cell? ⟨g, k * 1 + j, none⟩ = some u := hcc
  have hf : ∀ j, W.frozen? ⟨g, k * 1 + j, none⟩ = false := hfr
  obtain rfl := hM
  have h0 := hc 0 _ rfl
  have h1 := hf 0
  rw [Nat.mul_one, Nat.add_zero] at h0 h1
  exact ⟨h0, h1⟩
theorem Own.intput {g n cap B : Nat} {xs : List Int} (h : Own w W L K) (i : Nat) (hi : L[i]? = some (.row (Kd.int .i64) 3 B (.slice (some ⟨g, 0, none⟩) n cap) xs)) (k : Nat) (x : Int) : Own w (W.setCell ⟨g, k, none⟩ (.int .i64 x)) (L.set i (.row (Kd.int .i64) 3 B (.slice (some ⟨g, 0, none⟩) n cap) (xs.set k x))) K := by
  have h2 := h.rowput (enc := Value.int .i64) (h1 := fun _ => rfl) i hi (k : Int) x
  rw [Int.toNat_natCast] at h2
  exact h2
theorem getset {α : Type} {l : List α} {i : Nat} (h : i < l.length) (a : α) : (l.set i a)[i]? = some a := by rw [List.getElem?_set_self h]
end
/-- A list with the part from a to b turned round. -/
def revR (xs : List Int) (a b : Nat) : List Int := xs.take a ++ ((xs.take b).drop a).reverse ++ xs.drop b
/-- The outer p pairs of the n from a on are exchanged. -/
def Swp (xs : List Int) (a n p : Nat) (ys : List Int) : Prop := ys.length = xs.length ∧ ∀ q, ys[q]? = if a ≤ q ∧ q < a + n ∧ (q - a < p ∨ n - p ≤ q - a) then xs[a + (n - 1 - (q - a))]? else xs[q]?
theorem Swp.start (xs : List Int) (a n : Nat) : Swp xs a n 0 xs := ⟨rfl, fun q => by rw [if_neg (by omega)]⟩
theorem Swp.step {xs ys : List Int} {a n p : Nat} (h : Swp xs a n p ys) (hl : a + n ≤ xs.length) (hp : p + p + 1 < n) : Swp xs a n (p + 1) ((ys.set (a + p) (ys.getD (a + (n - 1 - p)) 0)).set (a + (n - 1 - p)) (ys.getD (a + p) 0)) := by
  obtain ⟨h1, h2⟩ := h
  refine ⟨by rw [List.length_set, List.length_set, h1], fun q => ?_⟩
  have e1 : ys.getD (a + (n - 1 - p)) 0 = xs.getD (a + (n - 1 - p)) 0 := by
    rw [List.getD_eq_getElem?_getD, h2, if_neg (by omega), ← List.getD_eq_getElem?_getD]
  have e2 : ys.getD (a + p) 0 = xs.getD (a + p) 0 := by
    rw [List.getD_eq_getElem?_getD, h2, if_neg (by omega), ← List.getD_eq_getElem?_getD]
  rw [e1, e2, List.getElem?_set, List.length_set, h1]
  by_cases q1 : a + (n - 1 - p) = q
  · rw [if_pos q1, if_pos (by omega), if_pos (by omega), show a + (n - 1 - (q - a)) = a + p by omega, List.getD_eq_getElem?_getD, List.getElem?_eq_getElem (by omega)]
    rfl
  · rw [if_neg q1, List.getElem?_set, h1]
    by_cases q2 : a + p = q
    · rw [if_pos q2, if_pos (by omega), if_pos (by omega), show a + (n - 1 - (q - a)) = a + (n - 1 - p) by omega, List.getD_eq_getElem?_getD, List.getElem?_eq_getElem (by omega)]
      rfl
    · rw [if_neg q2, h2]
      by_cases q3 : a ≤ q ∧ q < a + n ∧ (q - a < p ∨ n - p ≤ q - a)
      · rw [if_pos q3, if_pos (by omega)]
      · rw [if_neg q3, if_neg (by omega)]
theorem revR_get (xs : List Int) (a b : Nat) (hab : a ≤ b) (hl : b ≤ xs.length) (q : Nat) : (revR xs a b)[q]? = if a ≤ q ∧ q < b then xs[a + (b - a - 1 - (q - a))]? else xs[q]? := by
  have l1 : (xs.take a).length = a := by rw [List.length_take]; omega
  have l2 : ((xs.take b).drop a).length = b - a := by rw [List.length_drop, List.length_take]; omega
  have l3 : ((xs.take b).drop a).reverse.length = b - a := by rw [List.length_reverse, l2]
  unfold revR
  by_cases q1 : q < a
  · rw [List.append_assoc, List.getElem?_append_left (by rw [l1]; exact q1), List.getElem?_take, if_pos q1, if_neg (by omega)]
  · by_cases q2 : q < b
    · rw [List.append_assoc, List.getElem?_append_right (by rw [l1]; omega), l1, List.getElem?_append_left (by rw [l3]; omega), List.getElem?_reverse (by rw [l2]; omega), l2, List.getElem?_drop, List.getElem?_take, if_pos (by omega), if_pos ⟨by omega, q2⟩]
    · rw [List.getElem?_append_right (by rw [List.length_append, l1, l3]; omega), List.length_append, l1, l3, List.getElem?_drop, if_neg (by omega)]
      congr 1
      omega
theorem Swp.done {xs ys : List Int} {a b p : Nat} (h : Swp xs a (b - a) p ys) (hab : a ≤ b) (hl : b ≤ xs.length) (hp : b - a ≤ p + p + 1) : ys = revR xs a b := by
  obtain ⟨h1, h2⟩ := h
  apply List.ext_getElem?
  intro q
  rw [h2, revR_get xs a b hab hl]
  by_cases q1 : a ≤ q ∧ q < b
  · rw [if_pos q1]
    by_cases q3 : q - a < p ∨ b - a - p ≤ q - a
    · rw [if_pos ⟨q1.1, by omega, q3⟩]
    · rw [if_neg (by omega)]
      congr 1
      omega
  · rw [if_neg q1, if_neg (by omega)]
theorem revR_length (xs : List Int) (a b : Nat) (hab : a ≤ b) (hl : b ≤ xs.length) : (revR xs a b).length = xs.length := by
  unfold revR
  simp only [List.length_append, List.length_take, List.length_reverse, List.length_drop]
  omega
theorem keepS_two (W : World) (g i j : Nat) (u v : Value) : KeepS (· ≠ g) W (((W.setCell ⟨g, i, none⟩ u).setCell ⟨g, j, none⟩ v).drew) :=
  ⟨by simp [World.setCell], fun k hk => by
    show ((W.setCell ⟨g, i, none⟩ u).setCell ⟨g, j, none⟩ v).heap[k]? = W.heap[k]?
    rw [Below.heap_setCell _ _ v k hk, Below.heap_setCell _ _ u k hk]⟩
set_option maxRecDepth 100000 in
set_option maxHeartbeats 4000000 in
theorem reverse_calls {w W : World} {L : List Res} {K : Nat → Obj → Prop} {g N cap : Nat} {xs : List Int} (i : Nat) (HO : Own w W L K) (hi : L[i]? = some (.row (Kd.int .i64) 3 w.heap.size (.slice (some ⟨g, 0, none⟩) N cap) xs)) (a b c : Nat) (A : Option Addr) (hA : a < b → A = some ⟨g, a, none⟩) (hab : a ≤ b) (hb : b ≤ N) :
    Calls Try.prog 40 #[.slice A (b - a) c] W fun e w' => e = .returned (.tuple #[]) ∧ Own w w' (L.set i (.row (Kd.int .i64) 3 w.heap.size (.slice (some ⟨g, 0, none⟩) N cap) (revR xs a b))) K ∧ KeepS (· ≠ g) W w' := by
  have hN := (HO.row_sl i hi).1
  have hmx := Kd.C_max (HO.row_sl i hi).2.2
  have HI := Aside0.mk hi
  have HAB := Aside0.mk (And.intro hab hb)
  have HA := Aside0.mk hA
  have HNX := Aside0.mk hN
  have hset : L.set i (.row (Kd.int .i64) 3 w.heap.size (.slice (some ⟨g, 0, none⟩) N cap) xs) = L := by
    apply List.ext_getElem?
    intro j
    rw [List.getElem?_set]
    by_cases h : i = j
    · subst h; rw [if_pos rfl, if_pos (List.getElem?_eq_some_iff.mp hi).1, hi]
    · rw [if_neg h]
  have HOO := Aside0.mk (show Own w W (L.set i (.row (Kd.int .i64) 3 w.heap.size (.slice (some ⟨g, 0, none⟩) N cap) xs)) K by rw [hset]; exact HO)
  have hil : i < L.length := (List.getElem?_eq_some_iff.mp hi).1
  have HIL := Aside0.mk hil
  have hN9 : (N : Int) ≤ 9223372036854775807 := by omega
  obtain ⟨n, hn⟩ : ∃ n, b - a = n := ⟨_, rfl⟩
  rw [hn]
  have HN := Aside0.mk hn
  have hn9 : (n : Int) ≤ 9223372036854775807 := by omega
  clear hi hab hb hA hN hmx HO hset hil hn
  go_enter Try.func40, Try.ntmps40
  go_wp2
  go_loopw [2, 3] (fun v2 v3 w' => ∃ (p : Nat) (ys : List Int), v2 = .int .i64 p ∧ v3 = .int .i64 ((n : Int) - 1 - p) ∧ Aside0 (p ≤ n) ∧ Aside0 (Swp xs a n p ys) ∧ Aside0 (Own w w' (L.set i (.row (Kd.int .i64) 3 w.heap.size (.slice (some ⟨g, 0, none⟩) N cap) ys)) K) ∧ Aside0 (KeepS (· ≠ g) W w')) (fun v2 _ _ => n - (intOf v2).toNat)
  case atStart => exact ⟨0, xs, rfl, by go_num, ⟨Nat.zero_le _⟩, ⟨Swp.start xs a n⟩, HOO, ⟨KeepS.refl _ W⟩⟩
  case round =>
    clear HOO
    obtain ⟨p, ys, rfl, rfl, HP, HSW, HOO, HKS⟩ := hrel
    have HO := HOO.out
    clear HOO
    by_cases hlt : p + p + 1 < n
    case neg =>
      have q1 : ¬ ((p : Int) < (n : Int) - 1 - p) := by omega
      have HYS := Aside0.mk (show ys = revR xs a b by have h := HSW.out; rw [← HN.out] at h; exact Swp.done h HAB.out.1 (by have := HAB.out; have := HNX.out; omega) (by have := HN.out; omega))
      clear hlt
      go_wp2
      go_end0
      exact ⟨rfl, by rw [← HYS.out]; exact HO, HKS.out⟩
    obtain ⟨q, hq⟩ : ∃ q, n - 1 - p = q := ⟨_, rfl⟩
    have hqi : (n : Int) - 1 - p = (q : Int) := by omega
    rw [hqi]
    have q1 : ((p : Int) < (q : Int)) = True := eq_true (by omega)
    have q2 : ((p : Int) < (n : Int)) = True := eq_true (by omega)
    have q3 : ((q : Int) < (n : Int)) = True := eq_true (by omega)
    have p1 : (0 ≤ (p : Int)) = True := eq_true (by omega)
    have p2 : (0 ≤ (q : Int)) = True := eq_true (by omega)
    have hlt2 : a < b := by have := HN.out; omega
    have hA := HA.out hlt2
    subst hA
    have hHI : (L.set i (.row (Kd.int .i64) 3 w.heap.size (.slice (some ⟨g, 0, none⟩) N cap) ys))[i]? = some (.row (Kd.int .i64) 3 w.heap.size (.slice (some ⟨g, 0, none⟩) N cap) ys) := by rw [List.getElem?_set_self HIL.out]
    obtain ⟨x1, f1⟩ := HO.int_cell i hHI (a + p) (by have := HAB.out; have := HN.out; omega)
    obtain ⟨x2, f2⟩ := HO.int_cell i hHI (a + q) (by have := HAB.out; have := HN.out; omega)
    obtain ⟨y1, hy1⟩ : ∃ y1, ys.getD (a + p) 0 = y1 := ⟨_, rfl⟩
    obtain ⟨y2, hy2⟩ : ∃ y2, ys.getD (a + q) 0 = y2 := ⟨_, rfl⟩
    rw [hy1] at x1
    rw [hy2] at x2
    have HST := Aside0.mk (show Swp xs a n (p + 1) ((ys.set (a + p) y2).set (a + q) y1) by
      have h := Swp.step HSW.out (by have := HAB.out; have := HNX.out; have := HN.out; omega) hlt
      rw [hq, hy1, hy2] at h
      exact h)
    have HPQ := Aside0.mk (And.intro hlt hq)
    have hne : a + p ≠ a + q := by omega
    have hpb : (p : Int) + 1 ≤ 9223372036854775807 := by omega
    clear hlt hq hy1 hy2 hHI hlt2
    go_upto_region 3 with fail
    go_big_region
    have HKT := Aside0.mk (HKS.out.trans (keepS_two wr g (a + p) (a + q) (.int .i64 y2) (.int .i64 y1)))
    have HO2 := (((HO.intput i (getset HIL.out _) (a + p) y2).intput i (by rw [List.set_set]; exact getset HIL.out _) (a + q) y1)).drew
    rw [List.set_set, List.set_set] at HO2
    go_wp2
    go_roundw
    case rel => exact ⟨p + 1, _, by go_num, by go_num, ⟨by have := HPQ.out; omega⟩, HST, ⟨HO2⟩, HKT⟩
    case measure => have := HPQ.out; simp [intOf]; omega
end Go.Proofs.Ytacnckneiklgpaa.Q
