/- (*pass).carry. Printed by genCw.py. -/
import Derived.Test.YtlgkeaildncojaaCy
namespace Go.Proofs.Ytlgkeaildncojaa.Q
open Go.RowKit Go.Shelf Go.Proofs.YtlgkeaildncojaaW.PrintWords Go.Proofs.YtlgkeaildncojaaW.PrintLast Go.Proofs.YtlgkeaildncojaaW.PrintMore
set_option linter.unusedSimpArgs false
set_option linter.unusedVariables false
attribute [local go_sem] Oper.semAt_some
def mayB (may : List Bool) (c : Int) : Bool := decide (0 ≤ c) && (decide (c < (may.length : Int)) && may.getD c.toNat false)
/-- A lookup carried over the items: the error, the items, the tries. -/
def carryF (all : List S24) (k : Nat) (may : List Bool) : Nat → Nat → List S55 → Nat → Option (Int × List S55 × Nat)
  | 0, _, _, _ => none
  | n + 1, a, its, wk =>
    if its.length ≤ 200 ∧ wk ≤ 6001 then
      (if a < its.length then
        (if mayB may (its.getD a z55).f1 = true then
          match tryF its (a : Int) (all.getD k z24).f0 wk with
          | (err, m, wk1) => if err = 0 then (match m with
            | none => carryF all k may n (a + 1) its wk1
            | some r => (applyF all n r a its wk1).bind fun y => if y.1 = 0 then (if 0 ≤ y.2.1 then carryF all k may n y.2.1.toNat y.2.2.1 y.2.2.2 else none) else some (y.1, y.2.2.1, y.2.2.2))
            else some (err, its, wk1)
         else carryF all k may n (a + 1) its wk)
       else some (0, its, wk))
    else none
theorem at_bool {w : World} {A : Option Addr} {n : Nat} {xs : List Bool} (h : Kd.bool.C w A n xs) (k : Nat) (hk : k < n) : ∃ ad, A = some ad ∧ w.cell? (ad.add k) = some (.bool (xs.getD k false)) := by
  obtain ⟨ad, c, e, _, hK, hc0⟩ := Kd.C_get h false (k : Int) (by omega) (by omega)
  rw [Int.toNat_natCast] at hK hc0
  have hc : ∀ j u, c[j]? = some u → w.cell? (ad.add (k * 1 + j)) = some u := hc0
  obtain rfl := hK
  exact ⟨ad, e, by have hq := hc 0 _ rfl; rwa [Nat.mul_one, Nat.add_zero] at hq⟩
theorem tryF_its_wk : True := trivial
theorem sz40 : (Try.prog.info? 40).map (·.size) = some 1 := by kernel_rfl
theorem results40_ (tmps : Array Value) (w : World) (g : Nat) (x : Int) (hp : tmps.getD 6 undef = .pointer (some ⟨g, 0, none⟩)) (hg : w.heap[g]? = some (.cells #[.int .i64 x] 40 (0, 0))) :
    (results Try.f40 tmps).run Try.prog w = .ok (.int .i64 x) w := by
  have hc := (blk_cell hg 0).trans (show (#[Value.int .i64 x])[0]? = some (.int .i64 x) from rfl)
  have hp' : tmps[6]?.getD undef = .pointer (some ⟨g, 0, none⟩) := by simpa using hp
  simp [results, Try.results40, hp', asAddr, go_sem, hc]
set_option maxRecDepth 100000 in
set_option maxHeartbeats 16000000 in
theorem carry_calls {w W : World} {K : Nat → Obj → Prop} {R : Res} {g : Nat} {Aa Ai : Option Addr} {ca ci : Nat} {all : List S24} {its : List S55} {wk : Nat}
    (HO : Own w W [.box g 77 #[.slice Aa all.length ca, .slice Ai its.length ci, .int .i64 wk], .row k55 55 w.heap.size (.slice Ai its.length ci) its, R] K)
    (HA : Kd.C k24 w Aa all.length all) (hg : ∀ k, k < all.length → ∀ y ∈ (all.getD k z24).f0, goodR all.length y) (k : Nat) (hk : k < all.length) (Am : Option Addr) (cm : Nat) (may : List Bool) (hm : Kd.bool.C w Am may.length may)
    (n : Nat) (err : Int) (its2 : List S55) (wk2 : Nat) (h : carryF all k may n 0 its wk = some (err, its2, wk2)) :
    Calls Try.prog 40 #[.pointer (some ⟨g, 0, none⟩), .int .i64 k, .slice Am may.length cm] W fun e W' => e = .returned (.int .i64 err) ∧ ∃ Ai2 ci2, Own w W' [.box g 77 #[.slice Aa all.length ca, .slice Ai2 its2.length ci2, .int .i64 wk2], .row k55 55 w.heap.size (.slice Ai2 its2.length ci2) its2, R] K := by
  have hmf : ∀ (fn : Fn) (first cap : Array Value) (w : World), (Instr.makeFunc fn first cap).run Try.prog w = .ok (.func fn first cap) w := fun _ _ _ _ => rfl
  have HAP := fun n => Aside0.mk (apply_calls w K g Aa ca all HA hg n)
  have H := Aside0.mk h
  have HG := Aside0.mk hg
  have HAA := Aside0.mk HA
  have HK := Aside0.mk hk
  have HM := Aside0.mk hm
  clear h hg HA hk hm
  go_enter_defers Try.func40, Try.ntmps40
  go_wp2_with (first
    | ((with_reducible refine gate_dst (N := 6) rfl ?_); refine ev_box (N := 6) (cs := #[.int .i64 0]) (t := 40) HO rfl rfl ?hr ?_; (case hr => first | (go_simp; done) | (go_simp; rfl)); intro g6 W6 HO6 hb6; clear HO hb6))
  go_loopg [7] n (fun nq v7 w' => ∃ (a : Nat) (Ai : Option Addr) (ci : Nat) (its : List S55) (wk : Nat), v7 = .int .i64 a ∧ Aside0 (carryF all k may nq a its wk = some (err, its2, wk2)) ∧ Aside0 (Own w w' [.box g 77 #[.slice Aa all.length ca, .slice Ai its.length ci, .int .i64 wk], .row k55 55 w.heap.size (.slice Ai its.length ci) its, R, .box g6 40 #[.int .i64 0]] K))
  case atStart => exact ⟨0, Ai, ci, its, wk, rfl, H, ⟨HO6⟩⟩
  case round =>
    clear HO6 H
    obtain ⟨a, Ai, ci, its, wk, rfl, HP, HOO⟩ := hrel
    have HO := HOO.out
    clear HOO
    cases gk with
    | zero => exact absurd HP.out (by simp [carryF])
    | succ n1 =>
      have h := HP.out
      clear HP
      rw [carryF] at h
      split at h
      case isFalse => cases h
      rename_i hbd
      have HBD := Aside0.mk hbd
      have m1 := HO.box_cell 0 rfl 1 rfl
      by_cases hlt : a < its.length
      case neg =>
        rw [if_neg hlt] at h
        simp only [Option.some.injEq, Prod.mk.injEq] at h
        obtain ⟨e1, e2, e3⟩ := h
        subst e1 e2 e3
        have r1 : ¬ ((a : Int) < (its.length : Int)) := by omega
        clear hlt hbd
        go_wp2_with (first
          | ((with_reducible refine gate_store (t := 40) (p := 6) rfl ?_); refine ev_store (cs' := #[.int .i64 0]) (.int .i64 0) 3 HO rfl rfl rfl rfl 0 rfl rfl sz40 (by simp [Value.oneCell', Value.cells]) (Nat.le_refl _) rfl ?_; intro W2 HO2; clear HO m1))
        refine leaves_cons (f := 56) (args := #[.pointer (some ⟨g6, 0, none⟩)]) (by simp) (by simp [go_sem]) ?_
        refine (catch_idle g6 _).mono ?_
        rintro e u' w'' ⟨rfl, rfl, rfl⟩
        have HO3 := HO2.alloc (.cells #[.int .i64 0] 95)
        exact ⟨_, results40_ _ _ g6 0 rfl (HO3.box_at 3 rfl).1, rfl, Ai, ci, HO3.upto 3⟩
      rw [if_pos hlt] at h
      obtain ⟨ad, hA, -, i1⟩ := at_T55 (HO.row_sl 1 rfl).2.2 (a : Int) (by omega) (by omega)
      subst hA
      rw [Int.toNat_natCast, rd55] at i1
      generalize (its.getD a z55).f1 = cl at h i1
      have r1 : ((a : Int) < (its.length : Int)) = True := eq_true (by omega)
      have r0 : (0 ≤ (a : Int)) = True := eq_true (by omega)
      have hab : (a : Int) + 1 ≤ 2000 := by omega
      have HAL := Aside0.mk hlt
      by_cases hmay : mayB may cl = true
      case neg =>
        rw [if_neg hmay] at h
        have HST := Aside0.mk h
        by_cases c1 : cl < 0
        · have s1 : (cl < 0) = True := eq_true c1
          have s2 : decide (cl < 0) = true := decide_eq_true c1
          clear h hlt hbd hmay c1
          go_wp2
          go_roundg n1
          case measure => omega
          case rel => exact ⟨a + 1, some ad, ci, its, wk, by go_num, HST, ⟨HO⟩⟩
        have s1 : (cl < 0) = False := eq_false c1
        have s2 : decide (cl < 0) = false := decide_eq_false c1
        by_cases c2 : cl ≥ (may.length : Int)
        · have s3 : (cl ≥ (may.length : Int)) = True := eq_true c2
          have s4 : decide (cl ≥ (may.length : Int)) = true := decide_eq_true c2
          clear h hlt hbd hmay c1 c2
          go_wp2
          go_roundg n1
          case measure => omega
          case rel => exact ⟨a + 1, some ad, ci, its, wk, by go_num, HST, ⟨HO⟩⟩
        have s3 : (cl ≥ (may.length : Int)) = False := eq_false c2
        have s4 : decide (cl ≥ (may.length : Int)) = false := decide_eq_false c2
        obtain ⟨cn, rfl⟩ := Int.eq_ofNat_of_zero_le (show 0 ≤ cl by omega)
        obtain ⟨adm, hAm, y0⟩ := at_bool HM.out cn (by omega)
        subst hAm
        have hf : may.getD cn false = false := by
          unfold mayB at hmay
          rw [decide_eq_true (show 0 ≤ (cn : Int) by omega), decide_eq_true (show (cn : Int) < (may.length : Int) by omega), Int.toNat_natCast] at hmay
          simpa using hmay
        rw [hf] at y0
        replace y0 := pw_cell_below HO.below y0
        have s5 : (0 ≤ (cn : Int)) = True := eq_true (by omega)
        have s6 : ((cn : Int) < (may.length : Int)) = True := eq_true (by omega)
        clear h hlt hbd hmay c1 c2 hf
        go_wp2
        go_roundg n1
        case measure => omega
        case rel => exact ⟨a + 1, some ad, ci, its, wk, by go_num, HST, ⟨HO⟩⟩
      rw [if_pos hmay] at h
      have hmay2 := hmay
      unfold mayB at hmay2
      simp only [Bool.and_eq_true, decide_eq_true_eq] at hmay2
      obtain ⟨c1, c2, c3⟩ := hmay2
      obtain ⟨cn, rfl⟩ := Int.eq_ofNat_of_zero_le c1
      obtain ⟨adm, hAm, y0⟩ := at_bool HM.out cn (by omega)
      subst hAm
      rw [Int.toNat_natCast] at c3
      rw [c3] at y0
      replace y0 := pw_cell_below HO.below y0
      have s1 : ((cn : Int) < 0) = False := eq_false (by omega)
      have s2 : decide ((cn : Int) < 0) = false := decide_eq_false (by omega)
      have s3 : ((cn : Int) ≥ (may.length : Int)) = False := eq_false (by omega)
      have s4 : decide ((cn : Int) ≥ (may.length : Int)) = false := decide_eq_false (by omega)
      have s5 : (0 ≤ (cn : Int)) = True := eq_true (by omega)
      have s6 : ((cn : Int) < (may.length : Int)) = True := eq_true (by omega)
      clear hmay c1 c2 c3
      obtain ⟨err1, m, wk1, htr⟩ : ∃ err1 m wk1, tryF its (a : Int) (all.getD k z24).f0 wk = (err1, m, wk1) := ⟨_, _, _, rfl⟩
      rw [htr] at h
      dsimp only at h
      have HTR := Aside0.mk htr
      have hsml : ∀ y ∈ (all.getD k z24).f0, small y := fun y hy => (HG.out k HK.out y hy).1
      have HSML := Aside0.mk hsml
      clear hsml
      by_cases herr : err1 = 0
      case neg =>
        rw [if_neg herr] at h
        simp only [Option.some.injEq, Prod.mk.injEq] at h
        obtain ⟨e1, e2, e3⟩ := h
        have E1 := Aside0.mk e1
        have E2 := Aside0.mk e2
        have E3 := Aside0.mk e3
        have HER := Aside0.mk herr
        clear htr herr hbd e1 e2 e3 hlt
        go_wp2_with (first
          | (go_at_call 57; go_loud (have HOb := Own.bag [.box g 77 #[.slice Aa all.length ca, .slice (some ad) its.length ci, .int .i64 wk], .row k55 55 w.heap.size (.slice (some ad) its.length ci) its] [R, .box g6 40 #[.int .i64 0]] HO; refine (try_calls HOb HAA.out k HK.out (a : Int) (by omega) (by have := HBD.out; omega) HBD.out.2 HSML.out err1 m wk1 HTR.out).mono ?_; rintro e_ W4 ⟨HO4_, hres⟩; have HO5 := Own.unbag [_, _] _ HO4_; clear HO HOb HO4_ m1 i1 y0; replace hres := tryRes_fail hres HER.out; unfold fails at hres; subst hres)))
        refine leaves_cons (f := 56) (args := #[.pointer (some ⟨g6, 0, none⟩)]) (by simp) (by simp [go_sem]) ?_
        refine (catch_panicking g6 0 err1 _ (HO5.box_at 3 rfl).1).mono ?_
        rintro e u' w'' ⟨rfl, rfl, rfl⟩
        have HO6 := (HO5.alloc (.cells #[.int .i64 err1] 95)).put 3 rfl 0 (.int .i64 err1) (Nat.le_refl 1) rfl
        have e1 := E1.out
        have e2 := E2.out
        have e3 := E3.out
        subst e1 e2 e3
        exact ⟨_, results40_ _ _ g6 _ rfl (HO6.box_at 3 rfl).1, rfl, some ad, ci, HO6.upto 3⟩
      rw [if_pos herr] at h
      subst herr
      cases m with
      | none =>
        dsimp only at h
        have HST := Aside0.mk h
        clear h htr hbd hlt
        go_wp2_with (first
          | (go_at_call 57; go_loud (have HOb := Own.bag [.box g 77 #[.slice Aa all.length ca, .slice (some ad) its.length ci, .int .i64 wk], .row k55 55 w.heap.size (.slice (some ad) its.length ci) its] [R, .box g6 40 #[.int .i64 0]] HO; refine (try_calls HOb HAA.out k HK.out (a : Int) (by omega) (by have := HBD.out; omega) HBD.out.2 HSML.out 0 none wk1 HTR.out).mono ?_; rintro e_ W4 ⟨HO4_, hres⟩; have HO5 := Own.unbag [_, _] _ HO4_; clear HO HOb HO4_ m1 i1 y0; replace hres := tryRes_none hres; unfold zeroRule at hres; subst hres))
          | ((with_reducible refine gate_dst (N := 9) rfl ?_); refine ev_box (N := 9) (cs := #[.slice none 0 0, .slice none 0 0, .slice none 0 0, .slice none 0 0, .slice none 0 0]) (t := 49) HO5 rfl rfl ?hr ?_; (case hr => first | (go_simp; done) | (go_simp; rfl)); intro g9 W7 HO7 hb7; clear HO5 hb7)
          | ((with_reducible refine gate_store (t := 49) (p := 9) rfl ?_); refine ev_store (cs' := #[.slice none 0 0, .slice none 0 0, .slice none 0 0, .slice none 0 0, .slice none 0 0]) (.agg #[.slice none 0 0, .slice none 0 0, .slice none 0 0, .slice none 0 0, .slice none 0 0]) 4 HO7 rfl rfl rfl rfl 0 rfl rfl sz49 (by simp [Value.oneCell', Value.cells]) (Nat.le_refl _) rfl ?_; intro W8 HO8; clear HO7))
        have HO9 := HO8.upto 4
        go_roundg n1
        case measure => omega
        case rel => exact ⟨a + 1, some ad, ci, its, wk1, by go_num, HST, ⟨HO9⟩⟩
      | some q =>
        dsimp only at h
        obtain ⟨hqm, hmt, -⟩ := tryF_some htr
        have hqg := HG.out k HK.out q hqm
        obtain ⟨hp1, hp2, hp3⟩ := match_in hmt
        obtain ⟨y, hap, h2⟩ := Option.bind_eq_some_iff.mp h
        clear h
        obtain ⟨err2, x2, its3, wk3⟩ := y
        dsimp only at h2
        obtain ⟨q0, q1, q2, q3, q4⟩ := q
        dsimp only at hp2 hp3
        have HAPF := Aside0.mk hap
        have HQG := Aside0.mk hqg
        have HP2 := Aside0.mk (show a + q1.length ≤ its.length by omega)
        have HP3 := Aside0.mk hp3
        clear hap hqg hp1 hp2 hp3 hqm hmt htr hbd hlt
        by_cases her2 : err2 = 0
        case neg =>
          rw [if_neg her2] at h2
          simp only [Option.some.injEq, Prod.mk.injEq] at h2
          obtain ⟨e1, e2, e3⟩ := h2
          have E1 := Aside0.mk e1
          have E2 := Aside0.mk e2
          have E3 := Aside0.mk e3
          have HER := Aside0.mk her2
          clear her2 e1 e2 e3
          go_wp2_with (first
            | (go_at_call 57; go_loud (have HOb := Own.bag [.box g 77 #[.slice Aa all.length ca, .slice (some ad) its.length ci, .int .i64 wk], .row k55 55 w.heap.size (.slice (some ad) its.length ci) its] [R, .box g6 40 #[.int .i64 0]] HO; refine (try_calls HOb HAA.out k HK.out (a : Int) (by omega) (by have := HBD.out; omega) HBD.out.2 HSML.out 0 (some ⟨q0, q1, q2, q3, q4⟩) wk1 HTR.out).mono ?_; rintro e_ W4 ⟨HO4_, hres⟩; have HO5 := Own.unbag [_, _] _ HO4_; clear HO HOb HO4_ m1 i1 y0; replace hres := tryRes_some hres; obtain ⟨v_, rfl, B0, d0, B1, d1, B2, d2, B3, d3, B4, d4, rfl, v0, v1, v2, v3, v4, v5, v6, v7, v8, v9⟩ := hres; have HRV := Aside0.mk (show ruleV w ⟨q0, q1, q2, q3, q4⟩ (.agg #[.slice B0 q0.length d0, .slice B1 q1.length d1, .slice B2 q2.length d2, .slice B3 q3.length d3, .slice B4 q4.length d4]) from ⟨B0, d0, B1, d1, B2, d2, B3, d3, B4, d4, rfl, v0, v1, v2, v3, v4, v5, v6, v7, v8, v9⟩); clear v0 v1 v2 v3 v4 v5 v6 v7 v8 v9))
            | ((with_reducible refine gate_dst (N := 9) rfl ?_); refine ev_box (N := 9) (cs := #[.slice none 0 0, .slice none 0 0, .slice none 0 0, .slice none 0 0, .slice none 0 0]) (t := 49) HO5 rfl rfl ?hr ?_; (case hr => first | (go_simp; done) | (go_simp; rfl)); intro g9 W7 HO7 hb7; clear HO5 hb7)
            | ((with_reducible refine gate_store (t := 49) (p := 9) rfl ?_); refine ev_store (cs' := #[.slice B0 q0.length d0, .slice B1 q1.length d1, .slice B2 q2.length d2, .slice B3 q3.length d3, .slice B4 q4.length d4]) (.agg #[.slice B0 q0.length d0, .slice B1 q1.length d1, .slice B2 q2.length d2, .slice B3 q3.length d3, .slice B4 q4.length d4]) 4 HO7 rfl rfl rfl rfl 0 rfl rfl sz49 (by simp [Value.oneCell', Value.cells]) (Nat.le_refl _) rfl ?_; intro W8 HO8; clear HO7; have v0 := HO8.box_cell 4 rfl 0 rfl; have v1 := HO8.box_cell 4 rfl 1 rfl; have v2 := HO8.box_cell 4 rfl 2 rfl; have v3 := HO8.box_cell 4 rfl 3 rfl; have v4 := HO8.box_cell 4 rfl 4 rfl)
            | (go_at_call 58; go_loud (have HOb := Own.bag [.box g 77 #[.slice Aa all.length ca, .slice (some ad) its.length ci, .int .i64 wk1], .row k55 55 w.heap.size (.slice (some ad) its.length ci) its] [R, .box g6 40 #[.int .i64 0], .box g9 49 #[.slice B0 q0.length d0, .slice B1 q1.length d1, .slice B2 q2.length d2, .slice B3 q3.length d3, .slice B4 q4.length d4]] HO8; have hrec := (HAP n1).out _ _ (some ad) ci its wk1 _ _ a _ _ _ _ HOb HRV.out HQG.out HP2.out HP3.out HAPF.out; refine hrec.mono ?_; rintro e_ W10 ⟨A8, c8, HO10_, hres⟩; have HO11 := Own.unbag [_, _] _ HO10_; clear HO8 HOb HO10_ hrec v0 v1 v2 v3 v4; rw [if_neg HER.out] at hres; unfold fails at hres; subst hres)))
          refine leaves_cons (f := 56) (args := #[.pointer (some ⟨g6, 0, none⟩)]) (by simp) (by simp [go_sem]) ?_
          refine (catch_panicking g6 0 err2 _ (HO11.box_at 3 rfl).1).mono ?_
          rintro e u' w'' ⟨rfl, rfl, rfl⟩
          have HO12 := (HO11.alloc (.cells #[.int .i64 err2] 95)).put 3 rfl 0 (.int .i64 err2) (Nat.le_refl 1) rfl
          have e1 := E1.out
          have e2 := E2.out
          have e3 := E3.out
          subst e1 e2 e3
          exact ⟨_, results40_ _ _ g6 _ rfl (HO12.box_at 3 rfl).1, rfl, A8, c8, HO12.upto 3⟩
        rw [if_pos her2] at h2
        subst her2
        split at h2
        case isFalse => cases h2
        rename_i hx2
        obtain ⟨xn, rfl⟩ := Int.eq_ofNat_of_zero_le hx2
        rw [Int.toNat_natCast] at h2
        have HST := Aside0.mk h2
        clear h2 hx2
        go_wp2_with (first
          | (go_at_call 57; go_loud (have HOb := Own.bag [.box g 77 #[.slice Aa all.length ca, .slice (some ad) its.length ci, .int .i64 wk], .row k55 55 w.heap.size (.slice (some ad) its.length ci) its] [R, .box g6 40 #[.int .i64 0]] HO; refine (try_calls HOb HAA.out k HK.out (a : Int) (by omega) (by have := HBD.out; omega) HBD.out.2 HSML.out 0 (some ⟨q0, q1, q2, q3, q4⟩) wk1 HTR.out).mono ?_; rintro e_ W4 ⟨HO4_, hres⟩; have HO5 := Own.unbag [_, _] _ HO4_; clear HO HOb HO4_ m1 i1 y0; replace hres := tryRes_some hres; obtain ⟨v_, rfl, B0, d0, B1, d1, B2, d2, B3, d3, B4, d4, rfl, v0, v1, v2, v3, v4, v5, v6, v7, v8, v9⟩ := hres; have HRV := Aside0.mk (show ruleV w ⟨q0, q1, q2, q3, q4⟩ (.agg #[.slice B0 q0.length d0, .slice B1 q1.length d1, .slice B2 q2.length d2, .slice B3 q3.length d3, .slice B4 q4.length d4]) from ⟨B0, d0, B1, d1, B2, d2, B3, d3, B4, d4, rfl, v0, v1, v2, v3, v4, v5, v6, v7, v8, v9⟩); clear v0 v1 v2 v3 v4 v5 v6 v7 v8 v9))
          | ((with_reducible refine gate_dst (N := 9) rfl ?_); refine ev_box (N := 9) (cs := #[.slice none 0 0, .slice none 0 0, .slice none 0 0, .slice none 0 0, .slice none 0 0]) (t := 49) HO5 rfl rfl ?hr ?_; (case hr => first | (go_simp; done) | (go_simp; rfl)); intro g9 W7 HO7 hb7; clear HO5 hb7)
          | ((with_reducible refine gate_store (t := 49) (p := 9) rfl ?_); refine ev_store (cs' := #[.slice B0 q0.length d0, .slice B1 q1.length d1, .slice B2 q2.length d2, .slice B3 q3.length d3, .slice B4 q4.length d4]) (.agg #[.slice B0 q0.length d0, .slice B1 q1.length d1, .slice B2 q2.length d2, .slice B3 q3.length d3, .slice B4 q4.length d4]) 4 HO7 rfl rfl rfl rfl 0 rfl rfl sz49 (by simp [Value.oneCell', Value.cells]) (Nat.le_refl _) rfl ?_; intro W8 HO8; clear HO7; have v0 := HO8.box_cell 4 rfl 0 rfl; have v1 := HO8.box_cell 4 rfl 1 rfl; have v2 := HO8.box_cell 4 rfl 2 rfl; have v3 := HO8.box_cell 4 rfl 3 rfl; have v4 := HO8.box_cell 4 rfl 4 rfl)
          | (go_at_call 58; go_loud (have HOb := Own.bag [.box g 77 #[.slice Aa all.length ca, .slice (some ad) its.length ci, .int .i64 wk1], .row k55 55 w.heap.size (.slice (some ad) its.length ci) its] [R, .box g6 40 #[.int .i64 0], .box g9 49 #[.slice B0 q0.length d0, .slice B1 q1.length d1, .slice B2 q2.length d2, .slice B3 q3.length d3, .slice B4 q4.length d4]] HO8; have hrec := (HAP n1).out _ _ (some ad) ci its wk1 _ _ a _ _ _ _ HOb HRV.out HQG.out HP2.out HP3.out HAPF.out; refine hrec.mono ?_; rintro e_ W10 ⟨A8, c8, HO10_, hres⟩; have HO11 := Own.unbag [_, _] _ HO10_; clear HO8 HOb HO10_ hrec v0 v1 v2 v3 v4; rw [if_pos rfl] at hres; subst hres)))
        have HO12 := HO11.upto 4
        go_roundg n1
        case measure => omega
        case rel => exact ⟨xn, A8, c8, its3, wk3, by go_num, HST, ⟨HO12⟩⟩
end Go.Proofs.Ytlgkeaildncojaa.Q
