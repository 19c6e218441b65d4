/- (*pass).apply where a rule makes no calls; slices.Clone at Item. Printed by genAp.py. -/
import Derived.Test.YtlgkeaildncojaaPt
namespace Go.Proofs.Ytlgkeaildncojaa.Q
open Go.RowKit Go.Shelf Go.Proofs.YtlgkeaildncojaaW.PrintWords Go.Proofs.YtlgkeaildncojaaW.PrintLast Go.Proofs.YtlgkeaildncojaaW.PrintMore
set_option linter.unusedSimpArgs false
set_option linter.unusedVariables false
attribute [local go_sem] Oper.semAt_some
theorem eql_nil33 (w : World) (a : Option Addr) (l c : Nat) : (binOp .eql 33 (.slice a l c) (.slice none 0 0)).run Try.prog w = .ok (.bool a.isNone) w := by
  simp only [binOp]
  simp [run_equal_slice_nil w 33 55 a l c Try.underlying33]
set_option maxRecDepth 100000 in
set_option maxHeartbeats 4000000 in
theorem cloneT_calls (A : Option Addr) (c : Nat) (l : List S55) (w : World) (hr : k55.C w A l.length l) (hc : l.length ≤ c) (hl : l.length ≤ 1000000) :
    Calls Try.prog 39 #[.slice A l.length c] w fun e w' => ∃ v, e = .returned v ∧ Kd.R k55 55 w' w.heap.size (fun _ => True) v l ∧ Below w.heap.size w w' := by
  have HR := Aside0.mk hr
  have HC := Aside0.mk hc
  have HL := Aside0.mk hl
  have HO := Own.start w
  have hu := eql_nil33
  cases A with
  | none =>
    have h0 : l = [] := by
      rcases Nat.eq_zero_or_pos l.length with h | h
      · exact List.eq_nil_of_length_eq_zero h
      · obtain ⟨ad, h2, -⟩ := hr.2.2 h
        cases h2
    subst h0
    clear hr hc hl
    go_enter Try.func39, Try.ntmps39
    go_wp2
    go_ret
    exact ⟨_, rfl, Kd.R_nil _ _ _ _ _, HO.below⟩
  | some ad =>
    clear hr hc hl
    go_enter Try.func39, Try.ntmps39
    go_wp2_with (first
      | ((with_reducible refine gate_dst (N := 5) rfl ?_); refine ev_lit k55 55 (N := 5) (xs := []) (inner := []) HO rfl rfl ?hr ?hp (by decide) ?_; (case hr => first | (go_simp; done) | (go_simp; rfl)); (case hp => exact Reps.none _ _); intro A3 c3 W3 HO3 hb3; clear HO hb3)
      | ((with_reducible refine gate_builtin (b := .append) (xs := #[.tmp 5, .tmp 6]) rfl ?_); at_builtin; refine ev_rows 0 HO3 rfl rfl (.tmp 5) (.tmp 6) 33 (.agg #[.int .i64 0, .int .i64 0]) 16 rfl Try.underlying33 hinf55 rfl (Nat.succ_pos 1) (by decide) l (some ad) c rfl rfl (Kd.C_below HR.out HO3.below) (fun _ _ h => h) ?aL ?_; (case aL => have := HL.out; simp; omega); intro A4 c4 W4 HO4; clear HO3))
    go_ret
    exact ⟨_, rfl, HO4.row_R 0 rfl, HO4.below⟩
theorem cut_take33 (A : Option Addr) (n c a : Nat) (h : a ≤ c) (W : World) : (Instr.slice 33 (.slice A n c) none (some (.int .i64 (a : Int))) none).run Try.prog W = .ok (.slice A a c) W := by
  obtain ⟨i, hi, hs⟩ : ∃ i, Try.prog.info? 55 = some i ∧ i.size = 2 := by
    have h := hinf55
    cases hq : Try.prog.info? 55 with
    | none => rw [hq] at h; cases h
    | some i =>
      rw [hq] at h
      simp only [Option.map_some, Option.some.injEq, Prod.mk.injEq] at h
      exact ⟨i, rfl, h.2.1⟩
  have hel : Try.prog.elem 33 = 55 := by simp [Program.elem, Try.underlying33]
  have hu : Try.prog.underlying 33 = some (.slice (Try.prog.elem 33)) := by rw [hel]; exact Try.underlying33
  have ha : (A.map fun x => x.add 0) = A := by cases A <;> simp [Addr.add]
  rw [run_slice_h W 33 A n c hu .i64 (a : Int) (Int.natCast_nonneg _) (by omega), hel]
  simp [sizeOf, typeInfo, hi, hs, sliced, Result.andThen, ha]
theorem cut_drop33 (A : Option Addr) (n c a : Nat) (h : a ≤ n) (W : World) : (Instr.slice 33 (.slice A n c) (some (.int .i64 (a : Int))) none none).run Try.prog W = .ok (.slice (if c = a then A else A.map (·.add (a * 2))) (n - a) (c - a)) W := by
  obtain ⟨i, hi, hs⟩ : ∃ i, Try.prog.info? 55 = some i ∧ i.size = 2 := by
    have h := hinf55
    cases hq : Try.prog.info? 55 with
    | none => rw [hq] at h; cases h
    | some i =>
      rw [hq] at h
      simp only [Option.map_some, Option.some.injEq, Prod.mk.injEq] at h
      exact ⟨i, rfl, h.2.1⟩
  have hel : Try.prog.elem 33 = 55 := by simp [Program.elem, Try.underlying33]
  have hu : Try.prog.underlying 33 = some (.slice (Try.prog.elem 33)) := by rw [hel]; exact Try.underlying33
  rw [run_slice_l W 33 A n c hu .i64 (a : Int) (Int.natCast_nonneg _) (by omega), hel]
  simp [sizeOf, typeInfo, hi, hs, sliced, Result.andThen]
theorem Own.pick3 {w W : World} {L : List Res} {K : Nat → Obj → Prop} {a b c : Res} (h : Own w W L K) (i j k : Nat) (hi : L[i]? = some a) (hj : L[j]? = some b) (hk : L[k]? = some c) (n1 : i ≠ j) (n2 : i ≠ k) (n3 : j ≠ k) : Own w W [a, b, c] K := by
  refine h.pick [i, j, k] (fun q r hq => ?_) (by simp [n1, n2, n3])
  match q, hq with
  | 0, hq => exact ⟨i, rfl, by rw [hi]; exact hq⟩
  | 1, hq => exact ⟨j, rfl, by rw [hj]; exact hq⟩
  | 2, hq => exact ⟨k, rfl, by rw [hk]; exact hq⟩
  | (n + 3), hq => simp at hq
/-- The items when a rule's glyphs have been put in the place of those that it matched. -/
def putF (its : List S55) (a : Nat) (r : S49) : List S55 := its.take a ++ (r.f3.map (fun gl => (⟨gl, (its.getD a z55).f1⟩ : S55)) ++ its.drop (a + r.f1.length))
theorem c55 {w : World} {A : Option Addr} {f : List S55} {c : Nat} (hc : f.length ≤ c) (h : k55.C w A f.length f) : (Kd.slice 55 k55).K w f [.slice A f.length c] := ⟨A, c, rfl, hc, h⟩
theorem concat3_calls {A : Option Addr} {a b d : List S55} {p : List S55} (w : World) (hp : a ++ (b ++ d) = p) (hr : Kd.C (Kd.slice 55 k55) w A 3 [a, b, d]) (hl : p.length ≤ 1000000) :
    Calls Try.prog 68 #[.slice A 3 3] w fun e w' => ∃ v, e = .returned v ∧ Kd.R k55 55 w' w.heap.size (fun _ => True) v p ∧ Below w.heap.size w w' := by
  have hf : [a, b, d].flatten = p := by rw [← hp]; simp
  have h := concatT_calls A 3 [a, b, d] w hr (by simp) (by rw [hf]; exact hl)
  rw [hf] at h
  exact h
theorem item_cell {w W : World} {L : List Res} {K : Nat → Obj → Prop} {ad : Addr} {n ci : Nat} {its : List S55} (h : Own w W L K) (i : Nat) (hi : L[i]? = some (.row k55 55 w.heap.size (.slice (some ad) n ci) its)) (a : Nat) (ha : a < its.length) :
    W.cell? ⟨(ad.add (a * 2)).block, (ad.add (a * 2)).off + 1, none⟩ = some (.int .i64 (its.getD a z55).f1) := by
  obtain ⟨ad2, hA, -, i1⟩ := at_T55 (h.row_sl i hi).2.2 (a : Int) (by omega) (by omega)
  injection hA with hA
  subst hA
  rw [Int.toNat_natCast] at i1
  rw [show rd_T55 its (a : Int) = its.getD a z55 by rw [rd55]] at i1
  exact i1
set_option maxRecDepth 100000 in
set_option maxHeartbeats 8000000 in
theorem leaf_calls {w W : World} {K : Nat → Obj → Prop} {R : Res} {g : Nat} {va : Value} {Ai : Option Addr} {ci : Nat} {its : List S55} {wk : Nat}
    (HO : Own w W [.box g 77 #[va, .slice Ai its.length ci, .int .i64 wk], .row k55 55 w.heap.size (.slice Ai its.length ci) its, R] K)
    (f0 f1 f2 : List (List Int)) (f3 : List Int) (f4 : List S60) (A0 A1 A2 A3 A4 : Option Addr) (c0 c1 c2 c3 c4 : Nat) (h3 : (Kd.int .i64).C w A3 f3.length f3) (h4 : f4.length = 0) (b1 : f1.length ≤ 1000) (b3 : f3.length ≤ 1000) (bi : its.length ≤ 1000) (hpos : 0 < f1.length)
    (a : Nat) (ha : a + f1.length ≤ its.length) :
    Calls Try.prog 58 #[.pointer (some ⟨g, 0, none⟩), .agg #[.slice A0 f0.length c0, .slice A1 f1.length c1, .slice A2 f2.length c2, .slice A3 f3.length c3, .slice A4 f4.length c4], .int .i64 a] W fun e W' => ∃ Ai' ci', Own w W' [.box g 77 #[va, .slice Ai' (putF its a ⟨f0, f1, f2, f3, f4⟩).length ci', .int .i64 wk], .row k55 55 w.heap.size (.slice Ai' (putF its a ⟨f0, f1, f2, f3, f4⟩).length ci') (putF its a ⟨f0, f1, f2, f3, f4⟩), R] K ∧
      e = if (putF its a ⟨f0, f1, f2, f3, f4⟩).length > 200 then fails 2 else .returned (.int .i64 ((a + f3.length : Nat) : Int)) := by
  have H3 := Aside0.mk h3
  have B3 := Aside0.mk b3
  have BI := Aside0.mk bi
  have hci := (HO.row_sl 1 rfl).2.1
  have HCI := Aside0.mk hci
  have HA := Aside0.mk ha
  have e4 : ((f4.length : Int) == 0) = true := beq_iff_eq.mpr (by omega)
  have hq1 : (a : Int) + (f1.length : Int) ≤ 3000 := by omega
  have ra : ((a : Int) < (its.length : Int)) = True := eq_true (by omega)
  have ra0 : (0 ≤ (a : Int)) = True := eq_true (by omega)
  obtain ⟨ad, hA, i0, i1⟩ := at_T55 (HO.row_sl 1 rfl).2.2 (a : Int) (by omega) (by omega)
  subst hA
  rw [show rd_T55 its (a : Int) = its.getD a z55 from rfl] at i0 i1
  rw [Int.toNat_natCast] at i0 i1
  obtain ⟨cl, hcl⟩ : ∃ cl, (its.getD a z55).f1 = cl := ⟨_, rfl⟩
  rw [hcl] at i1
  have HCL := Aside0.mk hcl
  have HAL := Aside0.mk (show a < its.length by omega)
  obtain ⟨fin, hfin⟩ : ∃ fin, putF its a ⟨f0, f1, f2, f3, f4⟩ = fin := ⟨_, rfl⟩
  have hput : its.take a ++ (f3.map (fun gl => (⟨gl, cl⟩ : S55)) ++ its.drop (a + f1.length)) = fin := by rw [← hfin, ← hcl]; rfl
  have hfl : fin.length ≤ 2000 := by rw [← hput, List.length_append, List.length_append, List.length_map, List.length_take, List.length_drop]; omega
  have HPUT := Aside0.mk hput
  have HFL := Aside0.mk hfl
  rw [hfin]
  obtain ⟨ee, hee⟩ : ∃ ee, (if fin.length > 200 then fails 2 else Ending.returned (.int .i64 ((a + f3.length : Nat) : Int))) = ee := ⟨_, rfl⟩
  have HEE := Aside0.mk hee
  rw [hee]
  clear hee
  have m1 := HO.box_cell 0 rfl 1 rfl
  clear h3 b3 bi hci ha h4 b1 hcl hput hfl hfin i0
  go_enter Try.func58, Try.ntmps58
  go_wp2_with (first
    | ((with_reducible refine gate_dst (N := 4) rfl ?_); refine ev_box (N := 4) (cs := #[.slice A0 f0.length c0, .slice A1 f1.length c1, .slice A2 f2.length c2, .slice A3 f3.length c3, .slice A4 f4.length c4]) (t := 49) HO rfl rfl ?hr ?_; (case hr => first | (go_simp; done) | (go_simp; rfl)); intro g4 W4 HO4 hb4; clear HO hb4; have z1 := HO4.box_cell 3 rfl 1 rfl; have z3 := HO4.box_cell 3 rfl 3 rfl; have z4 := HO4.box_cell 3 rfl 4 rfl; replace m1 := HO4.box_cell 0 rfl 1 rfl; replace i1 := item_cell HO4 1 rfl a HAL.out; rw [HCL.out] at i1))
  have HO5 := HO4.newrow k55 55
  clear HO4 z1 z3 z4 i1 m1
  go_loopw [9, 39] (fun v9 v39 w' => ∃ (k : Nat) (A9 : Option Addr) (c9 : Nat), v39 = .int .i64 k ∧ v9 = .slice A9 k c9 ∧ Aside0 (k ≤ f3.length) ∧ Aside0 (Own w w' [.box g 77 #[va, .slice (some ad) its.length ci, .int .i64 wk], .row k55 55 w.heap.size (.slice (some ad) its.length ci) its, R, .box g4 49 #[.slice A0 f0.length c0, .slice A1 f1.length c1, .slice A2 f2.length c2, .slice A3 f3.length c3, .slice A4 f4.length c4], .row k55 55 w.heap.size (.slice A9 k c9) ((f3.take k).map (fun gl => (⟨gl, cl⟩ : S55)))] K)) (fun _ v39 _ => f3.length - (intOf v39).toNat)
  case atStart => exact ⟨0, none, 0, rfl, rfl, ⟨Nat.zero_le _⟩, ⟨HO5⟩⟩
  case round =>
    clear HO5
    obtain ⟨k, A9, c9, rfl, rfl, HK, HOO⟩ := hrel
    have HO := HOO.out
    clear HOO
    by_cases hlt : k < f3.length
    case pos =>
      obtain ⟨ad3, hA, z0⟩ := at_int (HO.old H3.out) k hlt
      subst hA
      have q1 : ((k : Int) < (f3.length : Int)) = True := eq_true (by omega)
      have q0 : (0 ≤ (k : Int)) = True := eq_true (by omega)
      have hkb : (k : Int) + 1 ≤ 9223372036854775807 := by have := B3.out; omega
      have hst : (f3.take k).map (fun gl => (⟨gl, cl⟩ : S55)) ++ [⟨f3.getD k 0, cl⟩] = (f3.take (k + 1)).map (fun gl => (⟨gl, cl⟩ : S55)) := by
        rw [List.take_add_one, List.map_append, List.getD_eq_getElem?_getD, List.getElem?_eq_getElem hlt]
        rfl
      have hlen : ((f3.take k).map (fun gl => (⟨gl, cl⟩ : S55))).length = k := by rw [List.length_map, List.length_take]; omega
      generalize (f3.take k).map (fun gl => (⟨gl, cl⟩ : S55)) = pm at hst hlen HO
      have HST := Aside0.mk hst
      have HLE := Aside0.mk hlen
      have HKLT := Aside0.mk hlt
      generalize f3.getD k 0 = x at z0 HST
      clear hlt hst hlen
      go_wp2_with (first
        | ((with_reducible refine gate_builtin (b := .append) (xs := #[.tmp 43, .tmp 47]) rfl ?_); at_builtin; go_loud (refine ev_append 4 HO rfl rfl (.tmp 43) (.tmp 47) 33 (.agg #[.int .i64 0, .int .i64 0]) 16 rfl Try.underlying33 hinf55 rfl (by decide) (by decide) (⟨x, cl⟩ : S55) [.int .i64 x, .int .i64 cl] rfl rfl (k55_mkM _ _ _ _) ?aL ?_); (case aL => have := HLE.out; have := HKLT.out; have := B3.out; omega); intro A10 c10 W10 HO10; clear HO))
      rw [HST.out, HLE.out] at HO10
      rw [HLE.out]
      go_roundw
      case rel => exact ⟨k + 1, A10, c10, by go_num, rfl, ⟨HKLT.out⟩, ⟨HO10⟩⟩
      case measure => have := HKLT.out; simp [intOf]; omega
    have q1 : ¬ ((k : Int) < (f3.length : Int)) := by omega
    have hk : k = f3.length := by have := HK.out; omega
    subst hk
    rw [List.take_length] at HO
    obtain ⟨ot, hot⟩ : ∃ ot, f3.map (fun gl => (⟨gl, cl⟩ : S55)) = ot := ⟨_, rfl⟩
    have hon : f3.length = ot.length := by rw [← hot, List.length_map]
    have HPUT2 : Aside0 (its.take a ++ (ot ++ its.drop (a + f1.length)) = fin) := ⟨by rw [← hot]; exact HPUT.out⟩
    rw [hot] at HO
    have HON := Aside0.mk hon
    clear hot hlt hon
    have ht : (its.take a).length = a := by rw [List.length_take]; have := HA.out; omega
    have hd : (its.drop (a + f1.length)).length = its.length - (a + f1.length) := List.length_drop
    have hC1 := (HO.row_sl 1 rfl).2.2
    have hC2 := HO.row_sl 4 rfl
    rw [HON.out] at hC2
    have hT := Kd.C_take (m := a) hC1 (by have := HA.out; omega)
    have hD := Kd.C_drop (c := ci) (m := a + f1.length) hC1 HA.out HCI.out
    have hK1 := c55 (c := ci) (by rw [ht]; have := HA.out; have := HCI.out; omega) hT
    have hK3 := c55 (c := ci - (a + f1.length)) (by rw [hd]; have := HA.out; have := HCI.out; omega) hD
    have hK2 := c55 (c := c9) hC2.2.1 hC2.2.2
    rw [ht] at hK1
    rw [hd] at hK3
    have HREP : Aside0 (Reps ((Kd.slice 55 k55).K wr) 1 [its.take a, ot, its.drop (a + f1.length)] [.slice (some ad) a ci, .slice A9 ot.length c9, .slice (if ci = a + f1.length then some ad else some (ad.add ((a + f1.length) * 2))) (its.length - (a + f1.length)) (ci - (a + f1.length))]) := ⟨(((Reps.none _ 1).snoc hK1 rfl).snoc hK2 rfl).snoc hK3 rfl⟩
    rw [← HON.out] at HREP
    have HON2 := HON
    clear hC1 hC2 ht hd hT hD hK1 hK2 hK3
    go_upto_region 10 with (fail)
    have cut1 := cut_take33 (some ad) its.length ci a (by have := HCI.out; have := HA.out; omega)
    have hai : a + f1.length ≤ its.length := HA.out
    have cut2 := fun W => cut_drop33 (some ad) its.length ci (a + f1.length) hai W
    rw [show ((a + f1.length : Nat) : Int) = (a : Int) + (f1.length : Int) by omega] at cut2
    have m1 := HO.box_cell 0 rfl 1 rfl
    clear hai
    go_region_law (first
      | (go_simp; go_at_call 68; go_loud (have HO7 := (HO.add (r := .row (Kd.old (Kd.slice 55 k55) wr) 33 w.heap.size (.slice (some ⟨wr.heap.size, 0, none⟩) 3 3) [its.take a, ot, its.drop (a + f1.length)]) (below_alloc (Below.refl _ _) _) (litOld (Kd.slice 55 k55) wr 33 w.heap.size wr [its.take a, ot, its.drop (a + f1.length)] [.slice (some ad) a ci, .slice A9 f3.length c9, .slice (if ci = a + f1.length then some ad else some (ad.add ((a + f1.length) * 2))) (its.length - (a + f1.length)) (ci - (a + f1.length))] HO.le (show (3 : Nat) ≤ maxLen by unfold maxLen; decide) HREP.out)).drew; have hC7 := Kd.C_old (HO7.row_sl 5 rfl).2.2 (below_drew (below_alloc (Below.refl _ _) _)); (refine (concat3_calls _ HPUT2.out hC7 (by have := HFL.out; omega)).mono ?_); rintro e W8 ⟨v8, rfl, hR8, hb8⟩; have HO8 := HO7.called hb8 hR8; obtain ⟨A8, c8, rfl, -, -⟩ := HO8.row_at 6 rfl; clear HO HO7 hC7 hR8 hb8 m1 cut1 cut2; have m1 := HO8.box_cell 0 rfl 1 rfl; have fz1 := HO8.box_free 0 rfl 1)))
    all_goals
      have HO9 := HO8.put 0 rfl 1 (.slice A8 fin.length c8) (Nat.le_add_right 2 1) rfl
      have HO10 := HO9.pick3 0 6 2 rfl rfl rfl (by decide) (by decide) (by decide)
      clear HO8 HO9 m1 fz1
      have m1 := HO10.box_cell 0 rfl 1 rfl
      have hfb : (fin.length : Int) ≤ 2000 := by have := HFL.out; omega
      have hab : (a : Int) + (f3.length : Int) ≤ 5000 := by have := HA.out; have := B3.out; have := BI.out; omega
      by_cases hov : fin.length > 200
      · have v1 : ((fin.length : Int) > 200) = True := eq_true (by omega)
        have v2 : decide ((fin.length : Int) > 200) = true := decide_eq_true (by omega)
        have HOV := Aside0.mk hov
        clear hov
        go_wp2
        all_goals first | exact ⟨rfl, A8, c8, HO10, by rw [← HEE.out, if_pos HOV.out]; rfl⟩ | exact ⟨rfl, ⟨A8, c8, HO10⟩, by rw [← HEE.out, if_pos HOV.out]; rfl⟩
      · have v1 : ((fin.length : Int) > 200) = False := eq_false (by omega)
        have v2 : decide ((fin.length : Int) > 200) = false := decide_eq_false (by omega)
        have HOV := Aside0.mk hov
        clear hov
        go_wp2
        all_goals
          go_ret
          first | exact ⟨A8, c8, HO10, by rw [← HEE.out, if_neg HOV.out]; rfl⟩ | exact ⟨⟨A8, c8, HO10⟩, by rw [← HEE.out, if_neg HOV.out]; rfl⟩
end Go.Proofs.Ytlgkeaildncojaa.Q
