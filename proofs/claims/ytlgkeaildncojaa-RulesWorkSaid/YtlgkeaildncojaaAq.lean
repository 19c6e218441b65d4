/- (*pass).apply. Printed by genAq.py. -/
import Derived.Test.YtlgkeaildncojaaAp
namespace Go.Proofs.Ytlgkeaildncojaa.Q
open Go.RowKit Go.Shelf Go.Proofs.YtlgkeaildncojaaW.PrintWords Go.Proofs.YtlgkeaildncojaaW.PrintLast Go.Proofs.YtlgkeaildncojaaW.PrintMore
set_option linter.unusedSimpArgs false
set_option linter.unusedVariables false
attribute [local go_sem] Oper.semAt_some max2_int min2_int max_two min_two max_three min_three max_four min_four
abbrev ROut := Option (Int × Int × List S55 × Nat)
/-- The end behind a call. -/
def nextE (e place : Int) (n : Nat) (x : Int) (n2 n1 : Nat) : Int := if place + (n : Int) > e then x else mx (e + (n2 : Int) - (n1 : Int)) x
/-- The calls of a rule, one after the other. -/
def callsF (ap : S49 → Nat → List S55 → Nat → ROut) (all : List S24) (a : Nat) : List S60 → Int → List S55 → Nat → ROut
  | [], e, its, wk => some (0, e, its, wk)
  | c :: cs, e, its, wk =>
    if e ≤ 1000000 ∧ -1000000 ≤ e ∧ its.length ≤ 200 ∧ wk ≤ 6001 then
      if (a : Int) + c.f0 ≥ e then callsF ap all a cs e its wk
      else match tryF its ((a : Int) + c.f0) (all.getD c.f1.toNat z24).f0 wk with
        | (err, m, wk1) => if err = 0 then (match m with
          | none => callsF ap all a cs e its wk1
          | some q => (ap q ((a : Int) + c.f0).toNat its wk1).bind fun y => if y.1 = 0 then callsF ap all a cs (nextE e ((a : Int) + c.f0) q.f1.length y.2.1 y.2.2.1.length its.length) y.2.2.1 y.2.2.2 else some (y.1, 0, y.2.2.1, y.2.2.2))
          else some (err, 0, its, wk1)
    else none
/-- A rule applied: the error, its end, the items, the tries. -/
def applyF (all : List S24) : Nat → S49 → Nat → List S55 → Nat → ROut
  | 0, _, _, _, _ => none
  | d + 1, r, a, its, wk => if its.length ≤ 200 ∧ wk ≤ 6001 then
      (if r.f4.length = 0 then (if (putF its a r).length > 200 then some (2, 0, putF its a r, wk) else some (0, ((a + r.f3.length : Nat) : Int), putF its a r, wk))
       else callsF (applyF all d) all a r.f4 ((a : Int) + (r.f1.length : Int)) its wk)
    else none
def goodR (n : Nat) (r : S49) : Prop := (r.f0.length ≤ 1000 ∧ r.f1.length ≤ 1000 ∧ r.f2.length ≤ 1000) ∧ r.f3.length ≤ 1000 ∧ ∀ c ∈ r.f4, 0 ≤ c.f0 ∧ c.f0 ≤ 1000 ∧ 0 ≤ c.f1 ∧ c.f1 < (n : Int)
theorem match_in {r : S49} {its : List S55} {at_ : Int} (h : matchP r its at_ = true) : 0 ≤ at_ ∧ at_ + (r.f1.length : Int) ≤ (its.length : Int) ∧ 0 < r.f1.length := by
  unfold matchP at h
  split at h
  · cases h
  · omega
theorem tryF_some {its : List S55} {at_ : Int} : ∀ {l : List S49} {wk : Nat} {err : Int} {q : S49} {wk1 : Nat}, tryF its at_ l wk = (err, some q, wk1) → q ∈ l ∧ matchP q its at_ = true ∧ wk1 ≤ 6000
  | [], wk, err, q, wk1, h => by simp [tryF] at h
  | r :: rs, wk, err, q, wk1, h => by
    unfold tryF at h
    split at h
    · simp at h
    · split at h
      · rename_i h1 h2
        simp only [Prod.mk.injEq, Option.some.injEq] at h
        obtain ⟨_, h3, h4⟩ := h
        subst h3 h4
        exact ⟨List.mem_cons_self, h2, by omega⟩
      · obtain ⟨a, b, c⟩ := tryF_some h
        exact ⟨List.mem_cons_of_mem _ a, b, c⟩
theorem tryF_wk {its : List S55} {at_ : Int} : ∀ {l : List S49} {wk : Nat} {err : Int} {m : Option S49} {wk1 : Nat}, tryF its at_ l wk = (err, m, wk1) → wk ≤ 6001 → err = 0 → wk1 ≤ 6001
  | [], wk, err, m, wk1, h, hw, h0 => by simp [tryF] at h; omega
  | r :: rs, wk, err, m, wk1, h, hw, h0 => by
    unfold tryF at h
    split at h
    · simp only [Prod.mk.injEq] at h
      omega
    · split at h
      · simp only [Prod.mk.injEq] at h
        omega
      · exact tryF_wk h (by omega) h0
theorem calls_step (ap : S49 → Nat → List S55 → Nat → ROut) (all : List S24) (a : Nat) (l : List S60) (j : Nat) (e : Int) (its : List S55) (wk : Nat) (h : j < l.length) : callsF ap all a (l.drop j) e its wk =
    if e ≤ 1000000 ∧ -1000000 ≤ e ∧ its.length ≤ 200 ∧ wk ≤ 6001 then
      if (a : Int) + (l.getD j z60).f0 ≥ e then callsF ap all a (l.drop (j + 1)) e its wk
      else match tryF its ((a : Int) + (l.getD j z60).f0) (all.getD (l.getD j z60).f1.toNat z24).f0 wk with
        | (err, m, wk1) => if err = 0 then (match m with
          | none => callsF ap all a (l.drop (j + 1)) e its wk1
          | some q => (ap q ((a : Int) + (l.getD j z60).f0).toNat its wk1).bind fun y => if y.1 = 0 then callsF ap all a (l.drop (j + 1)) (nextE e ((a : Int) + (l.getD j z60).f0) q.f1.length y.2.1 y.2.2.1.length its.length) y.2.2.1 y.2.2.2 else some (y.1, 0, y.2.2.1, y.2.2.2))
          else some (err, 0, its, wk1)
    else none := by
  rw [List.drop_eq_getElem_cons h, List.getD_eq_getElem?_getD, List.getElem?_eq_getElem h]
  rfl
theorem callsF_len (ap : S49 → Nat → List S55 → Nat → ROut) (all : List S24) (a : Nat) (hap : ∀ r a its wk x its2 wk2, ap r a its wk = some (0, x, its2, wk2) → its2.length ≤ 200 ∧ wk2 ≤ 6001) : ∀ (cs : List S60) (e : Int) (its : List S55) (wk : Nat) (x : Int) (its2 : List S55) (wk2 : Nat), its.length ≤ 200 → wk ≤ 6001 → callsF ap all a cs e its wk = some (0, x, its2, wk2) → its2.length ≤ 200 ∧ wk2 ≤ 6001 := by
  intro cs
  induction cs with
  | nil =>
    intro e its wk x its2 wk2 h1 h2 h
    simp only [callsF, Option.some.injEq, Prod.mk.injEq] at h
    obtain ⟨_, _, h3, h4⟩ := h
    subst h3 h4
    exact ⟨h1, h2⟩
  | cons c cs ih =>
    intro e its wk x its2 wk2 h1 h2 h
    rw [callsF] at h
    split at h
    case isFalse => cases h
    split at h
    · exact ih _ _ _ _ _ _ h1 h2 h
    · obtain ⟨err1, m, wk1, htr⟩ : ∃ err1 m wk1, tryF its ((a : Int) + c.f0) (all.getD c.f1.toNat z24).f0 wk = (err1, m, wk1) := ⟨_, _, _, rfl⟩
      rw [htr] at h
      dsimp only at h
      by_cases he : err1 = 0
      · rw [if_pos he] at h
        have hw := tryF_wk htr h2 he
        cases m with
        | none => exact ih _ _ _ _ _ _ h1 hw h
        | some q =>
          dsimp only at h
          obtain ⟨y, hy, h⟩ := Option.bind_eq_some_iff.mp h
          obtain ⟨err2, x2, its3, wk3⟩ := y
          dsimp only at h
          by_cases he2 : err2 = 0
          · rw [if_pos he2] at h
            subst he2
            obtain ⟨l1, l2⟩ := hap _ _ _ _ _ _ _ hy
            exact ih _ _ _ _ _ _ l1 l2 h
          · rw [if_neg he2] at h
            simp only [Option.some.injEq, Prod.mk.injEq] at h
            exact absurd h.1 he2
      · rw [if_neg he] at h
        simp only [Option.some.injEq, Prod.mk.injEq] at h
        exact absurd h.1 he
theorem applyF_len (all : List S24) : ∀ (d : Nat) (r : S49) (a : Nat) (its : List S55) (wk : Nat) (x : Int) (its2 : List S55) (wk2 : Nat), applyF all d r a its wk = some (0, x, its2, wk2) → its2.length ≤ 200 ∧ wk2 ≤ 6001 := by
  intro d
  induction d with
  | zero => intro r a its wk x its2 wk2 h; cases h
  | succ d ih =>
    intro r a its wk x its2 wk2 h
    rw [applyF] at h
    split at h
    case isFalse => cases h
    rename_i hb
    split at h
    · split at h
      · simp only [Option.some.injEq, Prod.mk.injEq] at h
        exact absurd h.1 (by decide)
      · simp only [Option.some.injEq, Prod.mk.injEq] at h
        obtain ⟨_, _, h3, h4⟩ := h
        subst h3 h4
        exact ⟨by omega, hb.2⟩
    · exact callsF_len _ all a ih _ _ _ _ _ _ _ hb.1 hb.2 h
theorem tryRes_some {w : World} {q : S49} {e : Ending} (h : tryRes w 0 (some q) e) : ∃ v, e = .returned (.tuple #[v, .bool true]) ∧ ruleV w q v := by
  unfold tryRes at h
  rw [if_pos rfl] at h
  exact h
theorem tryRes_fail {w : World} {err : Int} {m : Option S49} {e : Ending} (h : tryRes w err m e) (h0 : ¬ err = 0) : e = fails err := by
  unfold tryRes at h
  rw [if_neg h0] at h
  exact h
theorem tryRes_none {w : World} {e : Ending} (h : tryRes w 0 none e) : e = .returned (.tuple #[zeroRule, .bool false]) := by
  unfold tryRes at h
  rw [if_pos rfl] at h
  exact h
theorem sz60 : (Try.prog.info? 60).map (·.size) = some 2 := by kernel_rfl
def Apl (w : World) (K : Nat → Obj → Prop) (g : Nat) (va : Value) (all : List S24) (d : Nat) : Prop := ∀ (W : World) (R : Res) (Ai : Option Addr) (ci : Nat) (its : List S55) (wk : Nat) (r : S49) (v : Value) (a : Nat) (err x : Int) (its2 : List S55) (wk2 : Nat),
  Own w W [.box g 77 #[va, .slice Ai its.length ci, .int .i64 wk], .row k55 55 w.heap.size (.slice Ai its.length ci) its, R] K → ruleV w r v → goodR all.length r → a + r.f1.length ≤ its.length → 0 < r.f1.length →
  applyF all d r a its wk = some (err, x, its2, wk2) →
  Calls Try.prog 58 #[.pointer (some ⟨g, 0, none⟩), v, .int .i64 a] W fun e W' => ∃ Ai2 ci2, Own w W' [.box g 77 #[va, .slice Ai2 its2.length ci2, .int .i64 wk2], .row k55 55 w.heap.size (.slice Ai2 its2.length ci2) its2, R] K ∧
    e = if err = 0 then .returned (.int .i64 x) else fails err
set_option maxRecDepth 100000 in
set_option maxHeartbeats 16000000 in
theorem apply_calls (w : World) (K : Nat → Obj → Prop) (g : Nat) (Aa : Option Addr) (ca : Nat) (all : List S24) (HA : Kd.C k24 w Aa all.length all) (hg : ∀ k, k < all.length → ∀ y ∈ (all.getD k z24).f0, goodR all.length y) : ∀ d, Apl w K g (.slice Aa all.length ca) all d := by
  intro d
  induction d with
  | zero =>
    intro W R Ai ci its wk r v a err x its2 wk2 HO hv hr ha hpos h
    cases h
  | succ d ih =>
    intro W R Ai ci its wk r v a err x its2 wk2 HO hv hr ha hpos h
    obtain ⟨A0, c0, A1, c1, A2, c2, A3, c3, A4, c4, rfl, y0, y1, y2, y3, y4, y5, y6, y7, y8, y9⟩ := hv
    obtain ⟨f0, f1, f2, f3, f4⟩ := r
    dsimp only at y0 y1 y2 y3 y4 y5 y6 y7 y8 y9 ha hpos hr h ⊢
    rw [applyF] at h
    split at h
    case isFalse => cases h
    rename_i hb
    by_cases h4 : f4.length = 0
    · rw [if_pos h4] at h
      refine (leaf_calls HO f0 f1 f2 f3 f4 A0 A1 A2 A3 A4 c0 c1 c2 c3 c4 y7 h4 hr.1.2.1 hr.2.1 (by omega) hpos a ha).mono ?_
      rintro e W' ⟨A', c', HO', rfl⟩
      by_cases hp : (putF its a ⟨f0, f1, f2, f3, f4⟩).length > 200
      · rw [if_pos hp] at h ⊢
        simp only [Option.some.injEq, Prod.mk.injEq] at h
        obtain ⟨e1, e2, e3, e4⟩ := h
        subst e1 e2 e3 e4
        exact ⟨A', c', HO', by rw [if_neg (by decide)]⟩
      · rw [if_neg hp] at h ⊢
        simp only [Option.some.injEq, Prod.mk.injEq] at h
        obtain ⟨e1, e2, e3, e4⟩ := h
        subst e1 e2 e3 e4
        exact ⟨A', c', HO', by rw [if_pos rfl]⟩
    · rw [if_neg h4] at h
      have H := Aside0.mk h
      have IH := Aside0.mk ih
      have HG := Aside0.mk hg
      have HAA := Aside0.mk HA
      have H9 := Aside0.mk y9
      have hcall := hr.2.2
      have HCL := Aside0.mk hcall
      have HN4 := Aside0.mk (Kd.C_max y9)
      have HBD := Aside0.mk hb
      have HAI := Aside0.mk ha
      have e4 : ((f4.length : Int) == 0) = false := beq_eq_false_iff_ne.mpr (by omega)
      have hq1 : (a : Int) + (f1.length : Int) ≤ 3000 := by omega
      have HAB := Aside0.mk (show (a : Int) ≤ 200 by omega)
      obtain ⟨ee, hee⟩ : ∃ ee, (if err = 0 then Ending.returned (.int .i64 x) else fails err) = ee := ⟨_, rfl⟩
      have HEE := Aside0.mk hee
      rw [hee]
      clear hee h ih hg HA y0 y1 y2 y3 y4 y5 y6 y7 y8 y9 hr hcall hb ha hpos h4
      go_enter Try.func58, Try.ntmps58
      go_wp2_with (first
        | ((with_reducible refine gate_dst (N := 4) rfl ?_); refine ev_box (N := 4) (cs := #[.slice A0 f0.length c0, .slice A1 f1.length c1, .slice A2 f2.length c2, .slice A3 f3.length c3, .slice A4 f4.length c4]) (t := 49) HO rfl rfl ?hr ?_; (case hr => first | (go_simp; done) | (go_simp; rfl)); intro g4 W4 HO4 hb4; clear HO hb4; have z1 := HO4.box_cell 3 rfl 1 rfl; have z4 := HO4.box_cell 3 rfl 4 rfl))
      clear z1 z4
      go_loopw [7, 83] (fun v7 v83 w' => ∃ (j : Nat) (e : Int) (Ai : Option Addr) (ci : Nat) (its : List S55) (wk : Nat), v83 = .int .i64 j ∧ v7 = .int .i64 e ∧ Aside0 (j ≤ f4.length) ∧ Aside0 (callsF (applyF all d) all a (f4.drop j) e its wk = some (err, x, its2, wk2)) ∧ Aside0 (Own w w' [.box g 77 #[.slice Aa all.length ca, .slice Ai its.length ci, .int .i64 wk], .row k55 55 w.heap.size (.slice Ai its.length ci) its, R, .box g4 49 #[.slice A0 f0.length c0, .slice A1 f1.length c1, .slice A2 f2.length c2, .slice A3 f3.length c3, .slice A4 f4.length c4]] K)) (fun _ v83 _ => f4.length - (intOf v83).toNat)
      case atStart => exact ⟨0, _, Ai, ci, its, wk, rfl, rfl, ⟨Nat.zero_le _⟩, H, ⟨HO4⟩⟩
      case round =>
        clear HO4 H HBD HAI hq1
        obtain ⟨j, e, Ai, ci, its, wk, rfl, rfl, HK, HP, HOO⟩ := hrel
        have HO := HOO.out
        clear HOO
        by_cases hlt : j < f4.length
        case neg =>
          have r1 : ¬ ((j : Int) < (f4.length : Int)) := by omega
          have hz := HP.out
          rw [List.drop_of_length_le (by omega), callsF] at hz
          simp only [Option.some.injEq, Prod.mk.injEq] at hz
          obtain ⟨e1, e2, e3, e5⟩ := hz
          subst e1 e2 e3 e5
          have HO9 := HO.upto 3
          clear hlt HP
          go_wp2
          go_ret
          first | exact ⟨Ai, ci, HO9, by rw [← HEE.out]; first | (rw [if_pos rfl]; rfl) | (rw [if_pos trivial]; rfl)⟩ | exact ⟨⟨Ai, ci, HO9⟩, by rw [← HEE.out]; first | (rw [if_pos rfl]; rfl) | (rw [if_pos trivial]; rfl)⟩
        have hst := calls_step (applyF all d) all a f4 j e its wk hlt
        rw [HP.out] at hst
        have hcj := HCL.out _ (getD_in f4 j z60 hlt)
        obtain ⟨ad4, hA4, x0, x1⟩ := at_T60 H9.out (j : Int) (by omega) (by omega)
        subst hA4
        rw [show rd_T60 f4 (j : Int) = f4.getD j z60 from rfl] at x0 x1
        rw [Int.toNat_natCast] at x0 x1
        replace x0 := pw_cell_below HO.below x0
        replace x1 := pw_cell_below HO.below x1
        generalize f4.getD j z60 = cv at *
        obtain ⟨c0', c1'⟩ := cv
        dsimp only at hst hcj x0 x1
        obtain ⟨g0, g1, g2, g3⟩ := hcj
        obtain ⟨p0, rfl⟩ := Int.eq_ofNat_of_zero_le g0
        obtain ⟨lk, rfl⟩ := Int.eq_ofNat_of_zero_le g2
        split at hst
        case isFalse => cases hst
        rename_i hbd
        have r1 : ((j : Int) < (f4.length : Int)) = True := eq_true (by omega)
        have r0 : (0 ≤ (j : Int)) = True := eq_true (by omega)
        have hkb : (j : Int) + 1 ≤ 9223372036854775807 := by have := HN4.out; omega
        have HKL := Aside0.mk hlt
        have HLK := Aside0.mk (show lk < all.length by omega)
        have HB2 := Aside0.mk hbd
        have HG1 := Aside0.mk g1
        rw [Int.toNat_natCast] at hst
        have hpb : (a : Int) + (p0 : Int) ≤ 2000 := by have := HAB.out; omega
        have w1b : (p0 : Int) ≤ 1000 := g1
        have heb1 : e ≤ 1000000 := hbd.1
        have heb2 : -1000000 ≤ e := hbd.2.1
        clear g0 g1 g2 g3 hlt HP
        by_cases hge : (a : Int) + (p0 : Int) ≥ e
        · rw [if_pos hge] at hst
          have HST := Aside0.mk hst.symm
          have s1 : ((a : Int) + (p0 : Int) ≥ e) = True := eq_true hge
          have s2 : decide ((a : Int) + (p0 : Int) ≥ e) = true := decide_eq_true hge
          clear hst hge hbd
          go_wp2_with (first
            | ((with_reducible refine gate_dst (N := 13) rfl ?_); refine ev_box (N := 13) (cs := #[.int .i64 0, .int .i64 0]) (t := 60) HO rfl rfl ?hr ?_; (case hr => first | (go_simp; done) | (go_simp; rfl)); intro g13 W1 HO1 hb1; clear HO hb1)
            | ((with_reducible refine gate_store (t := 60) (p := 13) rfl ?_); refine ev_store (cs' := #[.int .i64 p0, .int .i64 lk]) (.agg #[.int .i64 p0, .int .i64 lk]) 4 HO1 rfl rfl rfl rfl 0 rfl rfl sz60 (by simp [Value.oneCell', Value.cells]) (Nat.le_refl _) rfl ?_; intro W2 HO2; clear HO1 x0 x1; have u0 := HO2.box_cell 4 rfl 0 rfl; have u1 := HO2.box_cell 4 rfl 1 rfl))
          have HO3 := HO2.upto 4
          go_roundw
          case rel => exact ⟨j + 1, e, Ai, ci, its, wk, by go_num, rfl, ⟨HKL.out⟩, HST, ⟨HO3⟩⟩
          case measure => have := HKL.out; simp [intOf]; omega
        rw [if_neg hge] at hst
        have s1 : ((a : Int) + (p0 : Int) ≥ e) = False := eq_false hge
        have s2 : decide ((a : Int) + (p0 : Int) ≥ e) = false := decide_eq_false hge
        clear hge
        obtain ⟨err1, m, wk1, htr⟩ : ∃ err1 m wk1, tryF its ((a : Int) + (p0 : Int)) (all.getD lk z24).f0 wk = (err1, m, wk1) := ⟨_, _, _, rfl⟩
        rw [htr] at hst
        dsimp only at hst
        have HTR := Aside0.mk htr
        have hsml : ∀ y ∈ (all.getD lk z24).f0, small y := fun y hy => (HG.out lk HLK.out y hy).1
        have HSML := Aside0.mk hsml
        clear hsml
        by_cases herr : err1 = 0
        case neg =>
          rw [if_neg herr] at hst
          simp only [Option.some.injEq, Prod.mk.injEq] at hst
          obtain ⟨e1, e2, e3, e5⟩ := hst
          have E1 := Aside0.mk e1
          have E3 := Aside0.mk e3
          have E5 := Aside0.mk e5
          have HER := Aside0.mk herr
          clear htr herr hbd e1 e2 e3 e5
          go_wp2_with (first
            | ((with_reducible refine gate_dst (N := 13) rfl ?_); refine ev_box (N := 13) (cs := #[.int .i64 0, .int .i64 0]) (t := 60) HO rfl rfl ?hr ?_; (case hr => first | (go_simp; done) | (go_simp; rfl)); intro g13 W1 HO1 hb1; clear HO hb1)
            | ((with_reducible refine gate_store (t := 60) (p := 13) rfl ?_); refine ev_store (cs' := #[.int .i64 p0, .int .i64 lk]) (.agg #[.int .i64 p0, .int .i64 lk]) 4 HO1 rfl rfl rfl rfl 0 rfl rfl sz60 (by simp [Value.oneCell', Value.cells]) (Nat.le_refl _) rfl ?_; intro W2 HO2; clear HO1 x0 x1; have u0 := HO2.box_cell 4 rfl 0 rfl; have u1 := HO2.box_cell 4 rfl 1 rfl)
            | (go_at_call 57; go_loud (have HOb := Own.bag [.box g 77 #[.slice Aa all.length ca, .slice Ai its.length ci, .int .i64 wk], .row k55 55 w.heap.size (.slice Ai its.length ci) its] [R, .box g4 49 #[.slice A0 f0.length c0, .slice A1 f1.length c1, .slice A2 f2.length c2, .slice A3 f3.length c3, .slice (some ad4) f4.length c4], .box g13 60 #[.int .i64 p0, .int .i64 lk]] HO2; refine (try_calls HOb HAA.out lk HLK.out ((a : Int) + (p0 : Int)) (by omega) (by have := HB2.out; omega) HB2.out.2.2.2 HSML.out err1 m wk1 HTR.out).mono ?_; rintro e_ W4 ⟨HO4_, hres⟩; have HO5 := Own.unbag [_, _] _ HO4_; clear HO2 HOb HO4_ u0 u1; replace hres := tryRes_fail hres HER.out; unfold fails at hres; subst hres; replace HO5 := HO5.upto 3)))
          have HER2 : Aside0 (¬ err = 0) := ⟨by rw [E1.out]; exact HER.out⟩
          have e3 := E3.out
          have e5 := E5.out
          subst e3 e5
          first | exact ⟨rfl, Ai, ci, HO5, by rw [← HEE.out, if_neg HER2.out, E1.out]; rfl⟩ | exact ⟨rfl, ⟨Ai, ci, HO5⟩, by rw [← HEE.out, if_neg HER2.out, E1.out]; rfl⟩
        rw [if_pos herr] at hst
        subst herr
        have hwk1 := tryF_wk htr hbd.2.2.2 rfl
        have HWK1 := Aside0.mk hwk1
        cases m with
        | none =>
          dsimp only at hst
          have HST := Aside0.mk hst.symm
          clear hst htr hbd hwk1
          go_wp2_with (first
            | ((with_reducible refine gate_dst (N := 13) rfl ?_); refine ev_box (N := 13) (cs := #[.int .i64 0, .int .i64 0]) (t := 60) HO rfl rfl ?hr ?_; (case hr => first | (go_simp; done) | (go_simp; rfl)); intro g13 W1 HO1 hb1; clear HO hb1)
            | ((with_reducible refine gate_store (t := 60) (p := 13) rfl ?_); refine ev_store (cs' := #[.int .i64 p0, .int .i64 lk]) (.agg #[.int .i64 p0, .int .i64 lk]) 4 HO1 rfl rfl rfl rfl 0 rfl rfl sz60 (by simp [Value.oneCell', Value.cells]) (Nat.le_refl _) rfl ?_; intro W2 HO2; clear HO1 x0 x1; have u0 := HO2.box_cell 4 rfl 0 rfl; have u1 := HO2.box_cell 4 rfl 1 rfl)
            | (go_at_call 57; go_loud (have HOb := Own.bag [.box g 77 #[.slice Aa all.length ca, .slice Ai its.length ci, .int .i64 wk], .row k55 55 w.heap.size (.slice Ai its.length ci) its] [R, .box g4 49 #[.slice A0 f0.length c0, .slice A1 f1.length c1, .slice A2 f2.length c2, .slice A3 f3.length c3, .slice (some ad4) f4.length c4], .box g13 60 #[.int .i64 p0, .int .i64 lk]] HO2; refine (try_calls HOb HAA.out lk HLK.out ((a : Int) + (p0 : Int)) (by omega) (by have := HB2.out; omega) HB2.out.2.2.2 HSML.out 0 none wk1 HTR.out).mono ?_; rintro e_ W4 ⟨HO4_, hres⟩; have HO5 := Own.unbag [_, _] _ HO4_; clear HO2 HOb HO4_ u0 u1; replace hres := tryRes_none hres; unfold zeroRule at hres; subst hres))
            | ((with_reducible refine gate_dst (N := 15) rfl ?_); refine ev_box (N := 15) (cs := #[.slice none 0 0, .slice none 0 0, .slice none 0 0, .slice none 0 0, .slice none 0 0]) (t := 49) HO5 rfl rfl ?hr ?_; (case hr => first | (go_simp; done) | (go_simp; rfl)); intro g15 W7 HO7 hb7; clear HO5 hb7)
            | ((with_reducible refine gate_store (t := 49) (p := 15) rfl ?_); refine ev_store (cs' := #[.slice none 0 0, .slice none 0 0, .slice none 0 0, .slice none 0 0, .slice none 0 0]) (.agg #[.slice none 0 0, .slice none 0 0, .slice none 0 0, .slice none 0 0, .slice none 0 0]) 5 HO7 rfl rfl rfl rfl 0 rfl rfl sz49 (by simp [Value.oneCell', Value.cells]) (Nat.le_refl _) rfl ?_; intro W8 HO8; clear HO7))
          have HO9 := HO8.upto 4
          go_roundw
          case rel => exact ⟨j + 1, e, Ai, ci, its, wk1, by go_num, rfl, ⟨HKL.out⟩, HST, ⟨HO9⟩⟩
          case measure => have := HKL.out; simp [intOf]; omega
        | some q =>
          dsimp only at hst
          obtain ⟨hqm, hmt, -⟩ := tryF_some htr
          have hqg := HG.out lk HLK.out q hqm
          obtain ⟨hp1, hp2, hp3⟩ := match_in hmt
          obtain ⟨y, hap, hst⟩ := Option.bind_eq_some_iff.mp hst.symm
          obtain ⟨err2, x2, its3, wk3⟩ := y
          dsimp only at hst
          rw [show ((a : Int) + (p0 : Int)).toNat = a + p0 by omega] at hap
          obtain ⟨q0, q1, q2, q3, q4⟩ := q
          dsimp only at hp2 hp3 hst
          have HAP := Aside0.mk hap
          have HQG := Aside0.mk hqg
          have HP2 := Aside0.mk (show a + p0 + q1.length ≤ its.length by omega)
          have HP3 := Aside0.mk hp3
          have hqb : (a : Int) + (p0 : Int) + (q1.length : Int) ≤ 4000 := by omega
          have hib : (its.length : Int) ≤ 200 := by omega
          clear hap hqg hp1 hp2 hp3 hqm hmt htr hbd hwk1
          by_cases her2 : err2 = 0
          case neg =>
            rw [if_neg her2] at hst
            simp only [Option.some.injEq, Prod.mk.injEq] at hst
            obtain ⟨e1, e2, e3, e5⟩ := hst
            subst e1 e2 e3 e5
            have HER := Aside0.mk her2
            clear her2
            go_wp2_with (first
              | ((with_reducible refine gate_dst (N := 13) rfl ?_); refine ev_box (N := 13) (cs := #[.int .i64 0, .int .i64 0]) (t := 60) HO rfl rfl ?hr ?_; (case hr => first | (go_simp; done) | (go_simp; rfl)); intro g13 W1 HO1 hb1; clear HO hb1)
              | ((with_reducible refine gate_store (t := 60) (p := 13) rfl ?_); refine ev_store (cs' := #[.int .i64 p0, .int .i64 lk]) (.agg #[.int .i64 p0, .int .i64 lk]) 4 HO1 rfl rfl rfl rfl 0 rfl rfl sz60 (by simp [Value.oneCell', Value.cells]) (Nat.le_refl _) rfl ?_; intro W2 HO2; clear HO1 x0 x1; have u0 := HO2.box_cell 4 rfl 0 rfl; have u1 := HO2.box_cell 4 rfl 1 rfl)
              | (go_at_call 57; go_loud (have HOb := Own.bag [.box g 77 #[.slice Aa all.length ca, .slice Ai its.length ci, .int .i64 wk], .row k55 55 w.heap.size (.slice Ai its.length ci) its] [R, .box g4 49 #[.slice A0 f0.length c0, .slice A1 f1.length c1, .slice A2 f2.length c2, .slice A3 f3.length c3, .slice (some ad4) f4.length c4], .box g13 60 #[.int .i64 p0, .int .i64 lk]] HO2; refine (try_calls HOb HAA.out lk HLK.out ((a : Int) + (p0 : Int)) (by omega) (by have := HB2.out; omega) HB2.out.2.2.2 HSML.out 0 (some ⟨q0, q1, q2, q3, q4⟩) wk1 HTR.out).mono ?_; rintro e_ W4 ⟨HO4_, hres⟩; have HO5 := Own.unbag [_, _] _ HO4_; clear HO2 HOb HO4_ u0 u1; replace hres := tryRes_some hres; obtain ⟨v_, rfl, B0, d0, B1, d1, B2, d2, B3, d3, B4, d4, rfl, v0, v1, v2, v3, v4, v5, v6, v7, v8, v9⟩ := hres; have HRV := Aside0.mk (show ruleV w ⟨q0, q1, q2, q3, q4⟩ (.agg #[.slice B0 q0.length d0, .slice B1 q1.length d1, .slice B2 q2.length d2, .slice B3 q3.length d3, .slice B4 q4.length d4]) from ⟨B0, d0, B1, d1, B2, d2, B3, d3, B4, d4, rfl, v0, v1, v2, v3, v4, v5, v6, v7, v8, v9⟩); clear v0 v1 v2 v3 v4 v5 v6 v7 v8 v9))
              | ((with_reducible refine gate_dst (N := 15) rfl ?_); refine ev_box (N := 15) (cs := #[.slice none 0 0, .slice none 0 0, .slice none 0 0, .slice none 0 0, .slice none 0 0]) (t := 49) HO5 rfl rfl ?hr ?_; (case hr => first | (go_simp; done) | (go_simp; rfl)); intro g15 W7 HO7 hb7; clear HO5 hb7)
              | ((with_reducible refine gate_store (t := 49) (p := 15) rfl ?_); refine ev_store (cs' := #[.slice B0 q0.length d0, .slice B1 q1.length d1, .slice B2 q2.length d2, .slice B3 q3.length d3, .slice B4 q4.length d4]) (.agg #[.slice B0 q0.length d0, .slice B1 q1.length d1, .slice B2 q2.length d2, .slice B3 q3.length d3, .slice B4 q4.length d4]) 5 HO7 rfl rfl rfl rfl 0 rfl rfl sz49 (by simp [Value.oneCell', Value.cells]) (Nat.le_refl _) rfl ?_; intro W8 HO8; clear HO7; have m1 := HO8.box_cell 0 rfl 1 rfl; have v0 := HO8.box_cell 5 rfl 0 rfl; have v1 := HO8.box_cell 5 rfl 1 rfl; have v2 := HO8.box_cell 5 rfl 2 rfl; have v3 := HO8.box_cell 5 rfl 3 rfl; have v4 := HO8.box_cell 5 rfl 4 rfl)
              | (go_at_call 58; go_loud (have HOb := Own.bag [.box g 77 #[.slice Aa all.length ca, .slice Ai its.length ci, .int .i64 wk1], .row k55 55 w.heap.size (.slice Ai its.length ci) its] [R, .box g4 49 #[.slice A0 f0.length c0, .slice A1 f1.length c1, .slice A2 f2.length c2, .slice A3 f3.length c3, .slice (some ad4) f4.length c4], .box g13 60 #[.int .i64 p0, .int .i64 lk], .box g15 49 #[.slice B0 q0.length d0, .slice B1 q1.length d1, .slice B2 q2.length d2, .slice B3 q3.length d3, .slice B4 q4.length d4]] HO8; have hrec := IH.out _ _ Ai ci its wk1 _ _ (a + p0) _ _ _ _ HOb HRV.out HQG.out HP2.out HP3.out HAP.out; rw [show ((a + p0 : Nat) : Int) = (a : Int) + (p0 : Int) from rfl] at hrec; refine hrec.mono ?_; rintro e_ W10 ⟨A8, c8, HO10_, hres⟩; have HO11 := Own.unbag [_, _] _ HO10_; clear HO8 HOb HO10_ hrec m1 v0 v1 v2 v3 v4; rw [if_neg HER.out] at hres; unfold fails at hres; subst hres; replace HO11 := HO11.upto 3)))
            first | exact ⟨rfl, A8, c8, HO11, by rw [← HEE.out, if_neg HER.out]; rfl⟩ | exact ⟨rfl, ⟨A8, c8, HO11⟩, by rw [← HEE.out, if_neg HER.out]; rfl⟩
          rw [if_pos her2] at hst
          subst her2
          have HST := Aside0.mk hst
          clear hst
          by_cases hnx : (a : Int) + (p0 : Int) + (q1.length : Int) > e
          · have t1 : ((a : Int) + (p0 : Int) + (q1.length : Int) > e) = True := eq_true hnx
            have t2 : decide ((a : Int) + (p0 : Int) + (q1.length : Int) > e) = true := decide_eq_true hnx
            have HNX : Aside0 (nextE e ((a : Int) + (p0 : Int)) q1.length x2 its3.length its.length = x2) := ⟨if_pos hnx⟩
            clear hnx
            go_wp2_with (first
              | ((with_reducible refine gate_dst (N := 13) rfl ?_); refine ev_box (N := 13) (cs := #[.int .i64 0, .int .i64 0]) (t := 60) HO rfl rfl ?hr ?_; (case hr => first | (go_simp; done) | (go_simp; rfl)); intro g13 W1 HO1 hb1; clear HO hb1)
              | ((with_reducible refine gate_store (t := 60) (p := 13) rfl ?_); refine ev_store (cs' := #[.int .i64 p0, .int .i64 lk]) (.agg #[.int .i64 p0, .int .i64 lk]) 4 HO1 rfl rfl rfl rfl 0 rfl rfl sz60 (by simp [Value.oneCell', Value.cells]) (Nat.le_refl _) rfl ?_; intro W2 HO2; clear HO1 x0 x1; have u0 := HO2.box_cell 4 rfl 0 rfl; have u1 := HO2.box_cell 4 rfl 1 rfl)
              | (go_at_call 57; go_loud (have HOb := Own.bag [.box g 77 #[.slice Aa all.length ca, .slice Ai its.length ci, .int .i64 wk], .row k55 55 w.heap.size (.slice Ai its.length ci) its] [R, .box g4 49 #[.slice A0 f0.length c0, .slice A1 f1.length c1, .slice A2 f2.length c2, .slice A3 f3.length c3, .slice (some ad4) f4.length c4], .box g13 60 #[.int .i64 p0, .int .i64 lk]] HO2; refine (try_calls HOb HAA.out lk HLK.out ((a : Int) + (p0 : Int)) (by omega) (by have := HB2.out; omega) HB2.out.2.2.2 HSML.out 0 (some ⟨q0, q1, q2, q3, q4⟩) wk1 HTR.out).mono ?_; rintro e_ W4 ⟨HO4_, hres⟩; have HO5 := Own.unbag [_, _] _ HO4_; clear HO2 HOb HO4_ u0 u1; replace hres := tryRes_some hres; obtain ⟨v_, rfl, B0, d0, B1, d1, B2, d2, B3, d3, B4, d4, rfl, v0, v1, v2, v3, v4, v5, v6, v7, v8, v9⟩ := hres; have HRV := Aside0.mk (show ruleV w ⟨q0, q1, q2, q3, q4⟩ (.agg #[.slice B0 q0.length d0, .slice B1 q1.length d1, .slice B2 q2.length d2, .slice B3 q3.length d3, .slice B4 q4.length d4]) from ⟨B0, d0, B1, d1, B2, d2, B3, d3, B4, d4, rfl, v0, v1, v2, v3, v4, v5, v6, v7, v8, v9⟩); clear v0 v1 v2 v3 v4 v5 v6 v7 v8 v9))
              | ((with_reducible refine gate_dst (N := 15) rfl ?_); refine ev_box (N := 15) (cs := #[.slice none 0 0, .slice none 0 0, .slice none 0 0, .slice none 0 0, .slice none 0 0]) (t := 49) HO5 rfl rfl ?hr ?_; (case hr => first | (go_simp; done) | (go_simp; rfl)); intro g15 W7 HO7 hb7; clear HO5 hb7)
              | ((with_reducible refine gate_store (t := 49) (p := 15) rfl ?_); refine ev_store (cs' := #[.slice B0 q0.length d0, .slice B1 q1.length d1, .slice B2 q2.length d2, .slice B3 q3.length d3, .slice B4 q4.length d4]) (.agg #[.slice B0 q0.length d0, .slice B1 q1.length d1, .slice B2 q2.length d2, .slice B3 q3.length d3, .slice B4 q4.length d4]) 5 HO7 rfl rfl rfl rfl 0 rfl rfl sz49 (by simp [Value.oneCell', Value.cells]) (Nat.le_refl _) rfl ?_; intro W8 HO8; clear HO7; have m1 := HO8.box_cell 0 rfl 1 rfl; have v0 := HO8.box_cell 5 rfl 0 rfl; have v1 := HO8.box_cell 5 rfl 1 rfl; have v2 := HO8.box_cell 5 rfl 2 rfl; have v3 := HO8.box_cell 5 rfl 3 rfl; have v4 := HO8.box_cell 5 rfl 4 rfl)
              | (go_at_call 58; go_loud (have HOb := Own.bag [.box g 77 #[.slice Aa all.length ca, .slice Ai its.length ci, .int .i64 wk1], .row k55 55 w.heap.size (.slice Ai its.length ci) its] [R, .box g4 49 #[.slice A0 f0.length c0, .slice A1 f1.length c1, .slice A2 f2.length c2, .slice A3 f3.length c3, .slice (some ad4) f4.length c4], .box g13 60 #[.int .i64 p0, .int .i64 lk], .box g15 49 #[.slice B0 q0.length d0, .slice B1 q1.length d1, .slice B2 q2.length d2, .slice B3 q3.length d3, .slice B4 q4.length d4]] HO8; have hrec := IH.out _ _ Ai ci its wk1 _ _ (a + p0) _ _ _ _ HOb HRV.out HQG.out HP2.out HP3.out HAP.out; rw [show ((a + p0 : Nat) : Int) = (a : Int) + (p0 : Int) from rfl] at hrec; refine hrec.mono ?_; rintro e_ W10 ⟨A8, c8, HO10_, hres⟩; have HO11 := Own.unbag [_, _] _ HO10_; clear HO8 HOb HO10_ hrec m1 v0 v1 v2 v3 v4; rw [if_pos rfl] at hres; subst hres; have m1 := HO11.box_cell 0 rfl 1 rfl; have v1 := HO11.box_cell 5 rfl 1 rfl)))
            have HO12 := HO11.upto 4
            go_roundw
            case rel => exact ⟨j + 1, x2, A8, c8, its3, wk3, by go_num, rfl, ⟨HKL.out⟩, ⟨by rw [← HNX.out]; exact HST.out⟩, ⟨HO12⟩⟩
            case measure => have := HKL.out; simp [intOf]; omega
          · have t1 : ((a : Int) + (p0 : Int) + (q1.length : Int) > e) = False := eq_false hnx
            have t2 : decide ((a : Int) + (p0 : Int) + (q1.length : Int) > e) = false := decide_eq_false hnx
            have HNX : Aside0 (nextE e ((a : Int) + (p0 : Int)) q1.length x2 its3.length its.length = mx (e + (its3.length : Int) - (its.length : Int)) x2) := ⟨if_neg hnx⟩
            clear hnx
            have hl3b : (its3.length : Int) ≤ 200 := by have := (applyF_len all d _ _ _ _ _ _ _ HAP.out).1; omega
            go_wp2_with (first
              | ((with_reducible refine gate_dst (N := 13) rfl ?_); refine ev_box (N := 13) (cs := #[.int .i64 0, .int .i64 0]) (t := 60) HO rfl rfl ?hr ?_; (case hr => first | (go_simp; done) | (go_simp; rfl)); intro g13 W1 HO1 hb1; clear HO hb1)
              | ((with_reducible refine gate_store (t := 60) (p := 13) rfl ?_); refine ev_store (cs' := #[.int .i64 p0, .int .i64 lk]) (.agg #[.int .i64 p0, .int .i64 lk]) 4 HO1 rfl rfl rfl rfl 0 rfl rfl sz60 (by simp [Value.oneCell', Value.cells]) (Nat.le_refl _) rfl ?_; intro W2 HO2; clear HO1 x0 x1; have u0 := HO2.box_cell 4 rfl 0 rfl; have u1 := HO2.box_cell 4 rfl 1 rfl)
              | (go_at_call 57; go_loud (have HOb := Own.bag [.box g 77 #[.slice Aa all.length ca, .slice Ai its.length ci, .int .i64 wk], .row k55 55 w.heap.size (.slice Ai its.length ci) its] [R, .box g4 49 #[.slice A0 f0.length c0, .slice A1 f1.length c1, .slice A2 f2.length c2, .slice A3 f3.length c3, .slice (some ad4) f4.length c4], .box g13 60 #[.int .i64 p0, .int .i64 lk]] HO2; refine (try_calls HOb HAA.out lk HLK.out ((a : Int) + (p0 : Int)) (by omega) (by have := HB2.out; omega) HB2.out.2.2.2 HSML.out 0 (some ⟨q0, q1, q2, q3, q4⟩) wk1 HTR.out).mono ?_; rintro e_ W4 ⟨HO4_, hres⟩; have HO5 := Own.unbag [_, _] _ HO4_; clear HO2 HOb HO4_ u0 u1; replace hres := tryRes_some hres; obtain ⟨v_, rfl, B0, d0, B1, d1, B2, d2, B3, d3, B4, d4, rfl, v0, v1, v2, v3, v4, v5, v6, v7, v8, v9⟩ := hres; have HRV := Aside0.mk (show ruleV w ⟨q0, q1, q2, q3, q4⟩ (.agg #[.slice B0 q0.length d0, .slice B1 q1.length d1, .slice B2 q2.length d2, .slice B3 q3.length d3, .slice B4 q4.length d4]) from ⟨B0, d0, B1, d1, B2, d2, B3, d3, B4, d4, rfl, v0, v1, v2, v3, v4, v5, v6, v7, v8, v9⟩); clear v0 v1 v2 v3 v4 v5 v6 v7 v8 v9))
              | ((with_reducible refine gate_dst (N := 15) rfl ?_); refine ev_box (N := 15) (cs := #[.slice none 0 0, .slice none 0 0, .slice none 0 0, .slice none 0 0, .slice none 0 0]) (t := 49) HO5 rfl rfl ?hr ?_; (case hr => first | (go_simp; done) | (go_simp; rfl)); intro g15 W7 HO7 hb7; clear HO5 hb7)
              | ((with_reducible refine gate_store (t := 49) (p := 15) rfl ?_); refine ev_store (cs' := #[.slice B0 q0.length d0, .slice B1 q1.length d1, .slice B2 q2.length d2, .slice B3 q3.length d3, .slice B4 q4.length d4]) (.agg #[.slice B0 q0.length d0, .slice B1 q1.length d1, .slice B2 q2.length d2, .slice B3 q3.length d3, .slice B4 q4.length d4]) 5 HO7 rfl rfl rfl rfl 0 rfl rfl sz49 (by simp [Value.oneCell', Value.cells]) (Nat.le_refl _) rfl ?_; intro W8 HO8; clear HO7; have m1 := HO8.box_cell 0 rfl 1 rfl; have v0 := HO8.box_cell 5 rfl 0 rfl; have v1 := HO8.box_cell 5 rfl 1 rfl; have v2 := HO8.box_cell 5 rfl 2 rfl; have v3 := HO8.box_cell 5 rfl 3 rfl; have v4 := HO8.box_cell 5 rfl 4 rfl)
              | (go_at_call 58; go_loud (have HOb := Own.bag [.box g 77 #[.slice Aa all.length ca, .slice Ai its.length ci, .int .i64 wk1], .row k55 55 w.heap.size (.slice Ai its.length ci) its] [R, .box g4 49 #[.slice A0 f0.length c0, .slice A1 f1.length c1, .slice A2 f2.length c2, .slice A3 f3.length c3, .slice (some ad4) f4.length c4], .box g13 60 #[.int .i64 p0, .int .i64 lk], .box g15 49 #[.slice B0 q0.length d0, .slice B1 q1.length d1, .slice B2 q2.length d2, .slice B3 q3.length d3, .slice B4 q4.length d4]] HO8; have hrec := IH.out _ _ Ai ci its wk1 _ _ (a + p0) _ _ _ _ HOb HRV.out HQG.out HP2.out HP3.out HAP.out; rw [show ((a + p0 : Nat) : Int) = (a : Int) + (p0 : Int) from rfl] at hrec; refine hrec.mono ?_; rintro e_ W10 ⟨A8, c8, HO10_, hres⟩; have HO11 := Own.unbag [_, _] _ HO10_; clear HO8 HOb HO10_ hrec m1 v0 v1 v2 v3 v4; rw [if_pos rfl] at hres; subst hres; have m1 := HO11.box_cell 0 rfl 1 rfl; have v1 := HO11.box_cell 5 rfl 1 rfl)))
            have HO12 := HO11.upto 4
            go_roundw
            case rel => exact ⟨j + 1, mx (e + (its3.length : Int) - (its.length : Int)) x2, A8, c8, its3, wk3, by go_num, by first | rfl | (unfold mx; rfl), ⟨HKL.out⟩, ⟨by rw [← HNX.out]; exact HST.out⟩, ⟨HO12⟩⟩
            case measure => have := HKL.out; simp [intOf]; omega
end Go.Proofs.Ytlgkeaildncojaa.Q
