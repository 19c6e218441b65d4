-- Written by wip/tools/myprint.py, a program of this session that drives the kit's print.py; not a text of print.sh.
import Derived.Test.YtfjiamhgennmbaaQx0
import Derived.Test.YtfjiamhgennmbaaQx6
import Derived.Test.YtfjiamhgennmbaaQx7
import Derived.Test.YtfjiamhgennmbaaQx11
namespace Go.Proofs.Ytfjiamhgennmbaa.Q
open Go.RowKit Go.Proofs.YtfjiamhgennmbaaW.PrintWords Go.Proofs.YtfjiamhgennmbaaW.PrintLast Go.Proofs.YtfjiamhgennmbaaW.PrintMore
attribute [local go_sem] max2_int min2_int max_two min_two max_three min_three max_four min_four   -- for this text's walks alone
set_option linter.unusedVariables false
set_option linter.unusedSimpArgs false

/-! ### abugidalaw15_SetsRange: function 4 -/
def abugidalaw15_SetsRange.l0 : Nat → Bool → List (S30) → Int → Int → Option (Bool)
  | 0, _, _, _, _ => none
  | k + 1, x5, x34, x35, x36 => if x36 < x35 then (if 0 ≤ x36 then (if x36 < (x34.length : Int) then ((sets_Range.f k ((rd_T30 x34 x36).f0) ((rd_T30 x34 x36).f1)).bind fun t326 => ((abugidaref15_Range.f k ((rd_T30 x34 x36).f0) ((rd_T30 x34 x36).f1)).bind fun t329 => ((abugidaref15_Same.f k t326 t329).bind fun t332 => (if t332 = true then (abugidalaw15_SetsRange.l0 k x5 x34 x35 (wrap64 (x36 + 1))) else (some false))))) else (none)) else (none)) else (some x5)
def abugidalaw15_SetsRange.f (k : Nat) (a0 : Int) (a1 : Int) : Option (Bool) := (abugidalaw15_sanity.f k).bind fun t320 => ((some (([(⟨a0, a1⟩ : S30), (⟨wrap64 ((Go.bits .and .i64 a0 65535) - 32768), wrap64 ((wrap64 ((Go.bits .and .i64 a0 65535) - 32768)) + (Go.bits .and .i64 a1 63))⟩ : S30), (⟨wrap64 ((Go.bits .and .i64 a0 65535) - 32768), wrap64 ((wrap64 ((Go.bits .and .i64 a0 65535) - 32768)) + 4096)⟩ : S30), (⟨wrap64 ((Go.bits .and .i64 a0 65535) - 32768), wrap64 ((wrap64 ((Go.bits .and .i64 a0 65535) - 32768)) + 4097)⟩ : S30), (⟨wrap64 ((Go.bits .and .i64 a0 65535) - 32768), wrap64 ((wrap64 ((Go.bits .and .i64 a0 65535) - 32768)) - 1)⟩ : S30)] : List (S30)) : List (S30))).bind fun y321 => (abugidalaw15_SetsRange.l0 k t320 y321 (y321.length : Int) 0))
theorem abugidalaw15_SetsRange.mono_l : ∀ k, (∀ y0 y1 y2 y3, LeO (abugidalaw15_SetsRange.l0 k y0 y1 y2 y3) (abugidalaw15_SetsRange.l0 (k + 1) y0 y1 y2 y3))
  | 0 => fun _ _ _ _ r h => by simp [abugidalaw15_SetsRange.l0] at h
  | k + 1 => by
    have ih0 := abugidalaw15_SetsRange.mono_l k
    · intro y0 y1 y2 y3
      unfold abugidalaw15_SetsRange.l0
      repeat' first
      | (with_reducible exact ih0 _ _ _ _)
      | (with_reducible exact abugidalaw15_sanity.mono _)
      | (with_reducible exact abugidaref15_Range.mono _ _ _)
      | (with_reducible exact abugidaref15_Same.mono _ _ _)
      | (with_reducible exact sets_Range.mono _ _ _)
      | (with_reducible exact LeO.refl _)
      | (with_reducible exact LeO.none _)
      | (with_reducible refine LeO.ite ?_ ?_)
      | (with_reducible refine LeO.bind ?_ (fun _ => ?_))
      | exact ih0 _ _ _ _
      | exact abugidalaw15_sanity.mono _
      | exact abugidaref15_Range.mono _ _ _
      | exact abugidaref15_Same.mono _ _ _
      | exact sets_Range.mono _ _ _
      | exact LeO.none _
      | refine LeO.ite ?_ ?_
      | refine LeO.bind ?_ (fun _ => ?_)
theorem abugidalaw15_SetsRange.mono : ∀ a0 a1 k, LeO (abugidalaw15_SetsRange.f k a0 a1) (abugidalaw15_SetsRange.f (k + 1) a0 a1) := by
  intro a0 a1 k
  have ih0 := abugidalaw15_SetsRange.mono_l k
  unfold abugidalaw15_SetsRange.f
  repeat' first
      | (with_reducible exact ih0 _ _ _ _)
      | (with_reducible exact abugidalaw15_sanity.mono _)
      | (with_reducible exact abugidaref15_Range.mono _ _ _)
      | (with_reducible exact abugidaref15_Same.mono _ _ _)
      | (with_reducible exact sets_Range.mono _ _ _)
      | (with_reducible exact LeO.refl _)
      | (with_reducible exact LeO.none _)
      | (with_reducible refine LeO.ite ?_ ?_)
      | (with_reducible refine LeO.bind ?_ (fun _ => ?_))
      | exact ih0 _ _ _ _
      | exact abugidalaw15_sanity.mono _
      | exact abugidaref15_Range.mono _ _ _
      | exact abugidaref15_Same.mono _ _ _
      | exact sets_Range.mono _ _ _
      | exact LeO.none _
      | refine LeO.ite ?_ ?_
      | refine LeO.bind ?_ (fun _ => ?_)
def abugidalaw15_SetsRange.T6 : Bool × List (List Nat × List Nat) := (true, [([], []), ([0], [0]), ([], []), ([2], [2]), ([1, 3], [1, 3]), ([], []), ([5], [5]), ([], []), ([7], [7]), ([6, 8, 4], [6, 8]), ([4, 9, 9], [4, 9]), ([10], [10])])
def abugidalaw15_SetsRange.B6 : List Nat := [0, 1, 0, 4, 15, 0, 32, 0, 128, 511, 1023, 2047]
theorem abugidalaw15_SetsRange.tab6 : rtab .any (opsOf Try.f4 6) = abugidalaw15_SetsRange.T6 := by kernel_rfl
theorem abugidalaw15_SetsRange.bits6 : waitsOk abugidalaw15_SetsRange.T6.2 abugidalaw15_SetsRange.B6 = true := by kernel_rfl
set_option maxHeartbeats 8000000 in
set_option maxRecDepth 100000 in
theorem abugidalaw15_SetsRange.calls (k : Nat) (a0 : Int) (a1 : Int) (r : Bool) (w : World) (h : abugidalaw15_SetsRange.f k a0 a1 = some r) :
    Calls Try.prog 4 #[.int .i64 a0, .int .i64 a1] w fun e w' => e = .returned (.bool r) ∧ Below w.heap.size w w' := by
  have hu30 := Try.underlying30
  have HB := Aside0.mk (Below.refl w.heap.size w)
  have H : ((abugidalaw15_sanity.f k).bind fun t320 => ((some (([(⟨a0, a1⟩ : S30), (⟨wrap64 ((Go.bits .and .i64 a0 65535) - 32768), wrap64 ((wrap64 ((Go.bits .and .i64 a0 65535) - 32768)) + (Go.bits .and .i64 a1 63))⟩ : S30), (⟨wrap64 ((Go.bits .and .i64 a0 65535) - 32768), wrap64 ((wrap64 ((Go.bits .and .i64 a0 65535) - 32768)) + 4096)⟩ : S30), (⟨wrap64 ((Go.bits .and .i64 a0 65535) - 32768), wrap64 ((wrap64 ((Go.bits .and .i64 a0 65535) - 32768)) + 4097)⟩ : S30), (⟨wrap64 ((Go.bits .and .i64 a0 65535) - 32768), wrap64 ((wrap64 ((Go.bits .and .i64 a0 65535) - 32768)) - 1)⟩ : S30)] : List (S30)) : List (S30))).bind fun y321 => (abugidalaw15_SetsRange.l0 k t320 y321 (y321.length : Int) 0))) = some r := h
  clear h
  replace H := Option.bind_eq_some_iff.mp H
  obtain ⟨t320, A30, H⟩ := H
  replace H : ((some (([(⟨a0, a1⟩ : S30), (⟨wrap64 ((Go.bits .and .i64 a0 65535) - 32768), wrap64 ((wrap64 ((Go.bits .and .i64 a0 65535) - 32768)) + (Go.bits .and .i64 a1 63))⟩ : S30), (⟨wrap64 ((Go.bits .and .i64 a0 65535) - 32768), wrap64 ((wrap64 ((Go.bits .and .i64 a0 65535) - 32768)) + 4096)⟩ : S30), (⟨wrap64 ((Go.bits .and .i64 a0 65535) - 32768), wrap64 ((wrap64 ((Go.bits .and .i64 a0 65535) - 32768)) + 4097)⟩ : S30), (⟨wrap64 ((Go.bits .and .i64 a0 65535) - 32768), wrap64 ((wrap64 ((Go.bits .and .i64 a0 65535) - 32768)) - 1)⟩ : S30)] : List (S30)) : List (S30))).bind fun y321 => (abugidalaw15_SetsRange.l0 k t320 y321 (y321.length : Int) 0)) = some r := H
  have A3 := Aside0.mk A30
  clear A30
  obtain ⟨y321, hy321⟩ : ∃ y_ : List (S30), y_ = (([(⟨a0, a1⟩ : S30), (⟨wrap64 ((Go.bits .and .i64 a0 65535) - 32768), wrap64 ((wrap64 ((Go.bits .and .i64 a0 65535) - 32768)) + (Go.bits .and .i64 a1 63))⟩ : S30), (⟨wrap64 ((Go.bits .and .i64 a0 65535) - 32768), wrap64 ((wrap64 ((Go.bits .and .i64 a0 65535) - 32768)) + 4096)⟩ : S30), (⟨wrap64 ((Go.bits .and .i64 a0 65535) - 32768), wrap64 ((wrap64 ((Go.bits .and .i64 a0 65535) - 32768)) + 4097)⟩ : S30), (⟨wrap64 ((Go.bits .and .i64 a0 65535) - 32768), wrap64 ((wrap64 ((Go.bits .and .i64 a0 65535) - 32768)) - 1)⟩ : S30)] : List (S30))) := ⟨_, rfl⟩
  replace H : (abugidalaw15_SetsRange.l0 k t320 y321 (y321.length : Int) 0) = some r := by first | (rw [hy321]; with_reducible exact H) | (have H2_ := (Option.bind_some _ _).symm.trans H; rw [hy321]; with_reducible exact H2_) | (have H2_ := (Option.bind_some _ _).symm.trans H; with_reducible exact H2_) | with_reducible exact H | (rw [hy321]; exact H) | exact H
  have Ny321 := Aside0.mk hy321
  clear hy321
  have H' := Aside0.mk H
  clear H
  go_enter Try.func4, Try.ntmps4
  go_wp2_with (first | ((with_reducible refine gate_callee (f := 10) rfl ?_); refine goesL_ (some 9) rfl rfl Try.func10 (by kernel_rfl) rfl #[] rfl (by (try simp only [List.map_toArray, List.map_cons, List.map_nil]); first | done | rfl | (simp only [List.length_drop, List.length_take]; rfl)) ?_; (with_reducible refine (abugidalaw15_sanity.calls k  t320 _ A3.out).mono ?_); rintro e w4 ⟨rfl, hb⟩; refine ⟨_, rfl, ?_⟩; have n0_ := Aside0.mk (below_step (by repeat (first | (with_reducible first | exact HB.out | apply below_alloc | apply pw_below_drewN | apply below_drew1) | exact HB.out)) hb); clear HB; have HB := n0_; clear n0_; (try clear hb); (try clear hb2); (try clear hk); (try clear hi)) | ((with_reducible refine gate_dst (N := 34) rfl ?_); refine Kd.R_lit k30 _ 30 ?hg (N := 34) ?hd (xs := ([(⟨a0, a1⟩ : S30), (⟨wrap64 ((Go.bits .and .i64 a0 65535) - 32768), wrap64 ((wrap64 ((Go.bits .and .i64 a0 65535) - 32768)) + (Go.bits .and .i64 a1 63))⟩ : S30), (⟨wrap64 ((Go.bits .and .i64 a0 65535) - 32768), wrap64 ((wrap64 ((Go.bits .and .i64 a0 65535) - 32768)) + 4096)⟩ : S30), (⟨wrap64 ((Go.bits .and .i64 a0 65535) - 32768), wrap64 ((wrap64 ((Go.bits .and .i64 a0 65535) - 32768)) + 4097)⟩ : S30), (⟨wrap64 ((Go.bits .and .i64 a0 65535) - 32768), wrap64 ((wrap64 ((Go.bits .and .i64 a0 65535) - 32768)) - 1)⟩ : S30)] : List (S30))) (inner := [.int .i64 a0, .int .i64 a1, .int .i64 (wrap64 ((Go.bits .and .i64 a0 65535) - 32768)), .int .i64 (wrap64 ((wrap64 ((Go.bits .and .i64 a0 65535) - 32768)) + (Go.bits .and .i64 a1 63))), .int .i64 (wrap64 ((Go.bits .and .i64 a0 65535) - 32768)), .int .i64 (wrap64 ((wrap64 ((Go.bits .and .i64 a0 65535) - 32768)) + 4096)), .int .i64 (wrap64 ((Go.bits .and .i64 a0 65535) - 32768)), .int .i64 (wrap64 ((wrap64 ((Go.bits .and .i64 a0 65535) - 32768)) + 4097)), .int .i64 (wrap64 ((Go.bits .and .i64 a0 65535) - 32768)), .int .i64 (wrap64 ((wrap64 ((Go.bits .and .i64 a0 65535) - 32768)) - 1))]) (ok := fun _ => True) (okp := fun _ => True) ?hr ?hp (fun _ hk => hk) trivial (Below.refl _ _) (Nat.le_refl _) (by simp) ?_; (case hd => rfl); (case hg => rfl); (case hr => first | (go_simp; done) | (go_simp; rfl)); (case hp => exact (Reps.c2 (show Kd.M k30 _ _ _ (⟨a0, a1⟩ : S30) [.int .i64 a0, .int .i64 a1] from (k30_mkM _ _ _ (⟨a0, a1⟩ : S30) )) (Reps.c2 (show Kd.M k30 _ _ _ (⟨wrap64 ((Go.bits .and .i64 a0 65535) - 32768), wrap64 ((wrap64 ((Go.bits .and .i64 a0 65535) - 32768)) + (Go.bits .and .i64 a1 63))⟩ : S30) [.int .i64 (wrap64 ((Go.bits .and .i64 a0 65535) - 32768)), .int .i64 (wrap64 ((wrap64 ((Go.bits .and .i64 a0 65535) - 32768)) + (Go.bits .and .i64 a1 63)))] from (k30_mkM _ _ _ (⟨wrap64 ((Go.bits .and .i64 a0 65535) - 32768), wrap64 ((wrap64 ((Go.bits .and .i64 a0 65535) - 32768)) + (Go.bits .and .i64 a1 63))⟩ : S30) )) (Reps.c2 (show Kd.M k30 _ _ _ (⟨wrap64 ((Go.bits .and .i64 a0 65535) - 32768), wrap64 ((wrap64 ((Go.bits .and .i64 a0 65535) - 32768)) + 4096)⟩ : S30) [.int .i64 (wrap64 ((Go.bits .and .i64 a0 65535) - 32768)), .int .i64 (wrap64 ((wrap64 ((Go.bits .and .i64 a0 65535) - 32768)) + 4096))] from (k30_mkM _ _ _ (⟨wrap64 ((Go.bits .and .i64 a0 65535) - 32768), wrap64 ((wrap64 ((Go.bits .and .i64 a0 65535) - 32768)) + 4096)⟩ : S30) )) (Reps.c2 (show Kd.M k30 _ _ _ (⟨wrap64 ((Go.bits .and .i64 a0 65535) - 32768), wrap64 ((wrap64 ((Go.bits .and .i64 a0 65535) - 32768)) + 4097)⟩ : S30) [.int .i64 (wrap64 ((Go.bits .and .i64 a0 65535) - 32768)), .int .i64 (wrap64 ((wrap64 ((Go.bits .and .i64 a0 65535) - 32768)) + 4097))] from (k30_mkM _ _ _ (⟨wrap64 ((Go.bits .and .i64 a0 65535) - 32768), wrap64 ((wrap64 ((Go.bits .and .i64 a0 65535) - 32768)) + 4097)⟩ : S30) )) (Reps.c2 (show Kd.M k30 _ _ _ (⟨wrap64 ((Go.bits .and .i64 a0 65535) - 32768), wrap64 ((wrap64 ((Go.bits .and .i64 a0 65535) - 32768)) - 1)⟩ : S30) [.int .i64 (wrap64 ((Go.bits .and .i64 a0 65535) - 32768)), .int .i64 (wrap64 ((wrap64 ((Go.bits .and .i64 a0 65535) - 32768)) - 1))] from (k30_mkM _ _ _ (⟨wrap64 ((Go.bits .and .i64 a0 65535) - 32768), wrap64 ((wrap64 ((Go.bits .and .i64 a0 65535) - 32768)) - 1)⟩ : S30) )) (Reps.none _ _))))))); intro v322 w5 ho6 hb hg_ hnew_; clear hg_ hnew_; (first | rw [← Ny321.out] at ho6 | (simp only [Int.reduceToNat] at ho6; rw [← Ny321.out] at ho6)); have n0_ := Aside0.mk (Kd.R_lower ho6 (below_size (by repeat (first | (with_reducible first | exact HB.out | apply below_alloc | apply pw_below_drewN | apply below_drew1) | exact HB.out)))); have n1_ := Aside0.mk (below_step (by repeat (first | (with_reducible first | exact HB.out | apply below_alloc | apply pw_below_drewN | apply below_drew1) | exact HB.out)) hb); clear HB; have HO323 := n0_; have HB := n1_; clear n0_ n1_; clear hb ho6; obtain ⟨Ao7, co7, eo7⟩ := Kd.R_slice HO323.out; subst eo7))
  go_loopg [36] k (fun kq v36 w' => ∃ (x36_1 : Int), v36 = .int .i64 x36_1 ∧ Aside0 (abugidalaw15_SetsRange.l0 kq t320 y321 (y321.length : Int) x36_1 = some r) ∧ Aside0 (kq ≤ k) ∧ Aside0 (Kd.R k30 30 w' w.heap.size (fun _ => True) (.slice Ao7 y321.length co7) y321) ∧ Aside0 (Below w.heap.size w w'))
  case atStart => exact ⟨(0), (by first | rfl | (simp; done) | (simp [*]; done)), H', ⟨Nat.le_refl _⟩, ⟨by (with_reducible repeat (first | apply Kd.R_alloc | apply Kd.R_drewN | apply Kd.R_drew)); exact HO323.out⟩, ⟨by repeat (first | (with_reducible first | exact HB.out | apply below_alloc | apply pw_below_drewN | apply below_drew1) | exact HB.out)⟩⟩
  case round =>
    clear H'
    try clear c1
    try clear c2
    try clear p2
    try clear c4
    try clear p6
    obtain ⟨x36_1, rfl, HA, HK1, HO_34, HB⟩ := hrel
    cases gk with
    | zero => exact absurd HA.out (by simp [abugidalaw15_SetsRange.l0])
    | succ k1 =>
      have H := HA.out
      clear HA
      simp only [abugidalaw15_SetsRange.l0] at H
      by_cases c8 : x36_1 < (y321.length : Int)
      · rw [if_pos c8] at H
        have c8b0 : decide (x36_1 < (y321.length : Int)) = true := decide_eq_true c8
        clear c8
        by_cases c9 : 0 ≤ x36_1
        · rw [if_pos c9] at H
          have c9b0 : decide (0 ≤ x36_1) = true := decide_eq_true c9
          clear c9
          by_cases c10 : x36_1 < (y321.length : Int)
          · rw [if_pos c10] at H
            have c10b0 : decide (x36_1 < (y321.length : Int)) = true := decide_eq_true c10
            clear c10
            have hix11 : ∀ (g_ : Nat) (w_ : World), (Instr.indexAt 30 (.pointer (some ⟨g_, 0, none⟩)) (.int .i64 0)).run Try.prog w_ = .ok (.pointer (some ⟨g_, 0, none⟩)) w_ := fun g_ w_ => by kernel_rfl
            have hix12 : ∀ (g_ : Nat) (w_ : World), (Instr.indexAt 30 (.pointer (some ⟨g_, 0, none⟩)) (.int .i64 1)).run Try.prog w_ = .ok (.pointer (some ⟨g_, 1, none⟩)) w_ := fun g_ w_ => by kernel_rfl
            replace H := Option.bind_eq_some_iff.mp H
            obtain ⟨t326, A130, H⟩ := H
            replace H : ((abugidaref15_Range.f k1 ((rd_T30 y321 x36_1).f0) ((rd_T30 y321 x36_1).f1)).bind fun t329 => ((abugidaref15_Same.f k1 t326 t329).bind fun t332 => (if t332 = true then (abugidalaw15_SetsRange.l0 k1 t320 y321 (y321.length : Int) (wrap64 (x36_1 + 1))) else (some false)))) = some r := H
            have A13 := Aside0.mk A130
            clear A130
            have hix14 : ∀ (g_ : Nat) (w_ : World), (Instr.indexAt 30 (.pointer (some ⟨g_, 0, none⟩)) (.int .i64 0)).run Try.prog w_ = .ok (.pointer (some ⟨g_, 0, none⟩)) w_ := fun g_ w_ => by kernel_rfl
            have hix15 : ∀ (g_ : Nat) (w_ : World), (Instr.indexAt 30 (.pointer (some ⟨g_, 0, none⟩)) (.int .i64 1)).run Try.prog w_ = .ok (.pointer (some ⟨g_, 1, none⟩)) w_ := fun g_ w_ => by kernel_rfl
            replace H := Option.bind_eq_some_iff.mp H
            obtain ⟨t329, A160, H⟩ := H
            replace H : ((abugidaref15_Same.f k1 t326 t329).bind fun t332 => (if t332 = true then (abugidalaw15_SetsRange.l0 k1 t320 y321 (y321.length : Int) (wrap64 (x36_1 + 1))) else (some false))) = some r := H
            have A16 := Aside0.mk A160
            clear A160
            replace H := Option.bind_eq_some_iff.mp H
            obtain ⟨t332, A170, H⟩ := H
            replace H : (if t332 = true then (abugidalaw15_SetsRange.l0 k1 t320 y321 (y321.length : Int) (wrap64 (x36_1 + 1))) else (some false)) = some r := H
            have A17 := Aside0.mk A170
            clear A170
            by_cases c18 : t332 = true
            · subst c18
              have H1 : (abugidalaw15_SetsRange.l0 k1 t320 y321 (y321.length : Int) (wrap64 (x36_1 + 1))) = some r := by rw [if_pos rfl] at H; exact H
              clear H
              have H := H1
              clear H1
              have H' := Aside0.mk H
              clear H
              have p324 : 0 ≤ (x36_1 : Int) := of_decide_eq_true (by first | (with_reducible assumption) | assumption)
              have q324 : x36_1 < (y321.length : Int) := of_decide_eq_true (by first | (with_reducible assumption) | assumption)
              obtain ⟨ad324, e324, hx324_0, hx324_1⟩ := at_T30 (Kd.R_reads' HO_34.out).2.2 x36_1 p324 q324
              cases e324
              replace p324 := eq_true p324
              replace q324 := eq_true q324
              try go_wp2_with (first | ((with_reducible refine gate_dst (N := 8) rfl ?_); refine box_event ?hg (N := 8) ?hd (cs := #[.int .i64 0, .int .i64 0]) (t := 30) ?hr ?_; (case hd => rfl); (case hg => rfl); (case hr => first | (go_simp; done) | (go_simp; rfl)); intro gb325 hg w19 hbox hb; have n0_ := Aside0.mk (Kd.R_below (Kd.R_elderB (by (with_reducible repeat (first | apply Kd.R_alloc | apply Kd.R_drewN | apply Kd.R_drew)); exact HO_34.out) gb325 (Nat.le_of_eq hg.symm)) hb); have n1_ := Aside0.mk (below_step (by repeat (first | (with_reducible first | exact HB.out | apply below_alloc | apply pw_below_drewN | apply below_drew1) | exact HB.out)) hb); have n2_ := Aside0.mk (hbox); have n3_ := Aside0.mk ((by rw [hg]; exact (below_size (by repeat (first | (with_reducible first | exact HB.out | apply below_alloc | apply pw_below_drewN | apply below_drew1) | exact HB.out))) : w.heap.size ≤ gb325)); have n4_ := Aside0.mk ((by rw [hg]; exact (below_size (by repeat (first | (with_reducible first | exact HB.out | apply below_alloc | apply pw_below_drewN | apply below_drew1) | exact HB.out))) : w.heap.size ≤ gb325)); clear HO_34; clear HB; have HO_34 := n0_; have HB := n1_; have BK325 := n2_; have GW325 := n3_; have GE325 := n4_; clear n0_ n1_ n2_ n3_ n4_; clear hb hbox hg; have hcz20_0 : w19.cell? ⟨gb325, 0, none⟩ = some (.int .i64 0) := (blk_cell BK325.out 0).trans rfl; have hcz20_1 : w19.cell? ⟨gb325, 1, none⟩ = some (.int .i64 0) := (blk_cell BK325.out 1).trans rfl; have hfz20_0 := blk_frozen BK325.out 0; have hfz20_1 := blk_frozen BK325.out 1))
              have n0_ : Aside0 (Kd.R k30 30 ((w19.setCell ⟨gb325, 0, none⟩ (.int .i64 ((rd_T30 y321 x36_1).f0))).setCell ⟨gb325, 1, none⟩ (.int .i64 ((rd_T30 y321 x36_1).f1))) w.heap.size (fun k_ => k_ ≠ gb325) (.slice (some ad324) y321.length co7) y321) := ⟨by (with_reducible repeat (first | apply Kd.R_alloc | apply Kd.R_drewN | apply Kd.R_drew)); exact Kd.R_mono (Kd.R_far (p := ⟨gb325, 1, none⟩) (Kd.R_far (p := ⟨gb325, 0, none⟩) (Kd.R_mono HO_34.out (fun k_ hk => (⟨hk, hk.2⟩ : _ ∧ k_ ≠ gb325))) (fun _ hk => hk.2) (.int .i64 ((rd_T30 y321 x36_1).f0))) (fun _ hk => hk.2) (.int .i64 ((rd_T30 y321 x36_1).f1))) (fun _ hk => hk.1.2)⟩
              have n1_ : Aside0 (((w19.setCell ⟨gb325, 0, none⟩ (.int .i64 ((rd_T30 y321 x36_1).f0))).setCell ⟨gb325, 1, none⟩ (.int .i64 ((rd_T30 y321 x36_1).f1))).heap[gb325]? = some (.cells #[.int .i64 ((rd_T30 y321 x36_1).f0), .int .i64 ((rd_T30 y321 x36_1).f1)] 30 (0, 0))) := ⟨by (with_reducible repeat (first | refine blk_drewN ?_ _ | refine blk_drew ?_ | refine blk_alloc ?_ _)); refine blk_put (cs := #[.int .i64 ((rd_T30 y321 x36_1).f0), .int .i64 0]) ?_ 1 _ rfl; (with_reducible repeat (first | refine blk_drewN ?_ _ | refine blk_drew ?_ | refine blk_alloc ?_ _)); refine blk_put (cs := #[.int .i64 0, .int .i64 0]) ?_ 0 _ rfl; (with_reducible repeat (first | refine blk_drewN ?_ _ | refine blk_drew ?_ | refine blk_alloc ?_ _)); exact BK325.out⟩
              have n2_ : Aside0 (Below w.heap.size w ((w19.setCell ⟨gb325, 0, none⟩ (.int .i64 ((rd_T30 y321 x36_1).f0))).setCell ⟨gb325, 1, none⟩ (.int .i64 ((rd_T30 y321 x36_1).f1)))) := ⟨by repeat (first | (with_reducible first | exact HB.out | apply below_alloc | apply pw_below_drewN | apply below_drew1 | refine below_set ?_ GE325.out) | exact HB.out)⟩
              (try clear HO_34)
              (try clear BK325)
              (try clear HB)
              generalize ((w19.setCell ⟨gb325, 0, none⟩ (.int .i64 ((rd_T30 y321 x36_1).f0))).setCell ⟨gb325, 1, none⟩ (.int .i64 ((rd_T30 y321 x36_1).f1))) = w21 at n0_ n1_ n2_ ⊢
              have HO_34 := n0_
              have BK325 := n1_
              have HB := n2_
              clear n0_ n1_ n2_
              have n0_ := Aside0.mk (Kd.R_drew HO_34.out)
              have n1_ := Aside0.mk (blk_drew BK325.out)
              have n2_ := Aside0.mk (below_drew1 HB.out)
              clear HO_34
              clear BK325
              clear HB
              have HO_34 := n0_
              have BK325 := n1_
              have HB := n2_
              clear n0_ n1_ n2_
              refine start_ (n := 12) (S := fun w' => w'.cell? ⟨gb325, 0, none⟩ = some (.int .i64 ((rd_T30 y321 x36_1).f0)) ∧ w'.cell? ⟨gb325, 1, none⟩ = some (.int .i64 ((rd_T30 y321 x36_1).f1))) (ds := []) #[false, false, false, false, false, false, false, false, false, false, false, false] (by kernel_rfl) rfl rfl ⟨(blk_cell BK325.out 0).trans rfl, (blk_cell BK325.out 1).trans rfl⟩ (fun hHeld => ?_); refine with_tabW abugidalaw15_SetsRange.tab6 abugidalaw15_SetsRange.bits6 (fun HT_ HW_ => ?_)
              generalize w21.drew = w22 at HO_34 BK325 HB hHeld ⊢
              refine pure_ (i := 0) (N := some 40) (v := ?_) (a' := ?_) #[true, false, false, false, false, false, false, false, false, false, false, false] rfl rfl (any_of HT_.out (by kernel_rfl)) (fun _ _ _ h => h) (Or.inl ⟨by rfl, ?_⟩) ?_ ?_
              rotate_left
              · intro w'
                go_simp
                with_reducible rfl
              rotate_left
              · simp only [Act.put, List.setIfInBounds_toArray, List.set_cons_zero, List.set_cons_succ, i64_w, i32_w]
                rfl
              refine pure_ (i := 2) (N := some 42) (v := ?_) (a' := ?_) #[true, false, true, false, false, false, false, false, false, false, false, false] rfl rfl (any_of HT_.out (by kernel_rfl)) (fun _ _ _ h => h) (Or.inl ⟨by rfl, ?_⟩) ?_ ?_
              rotate_left
              · intro w'
                go_simp
                with_reducible rfl
              rotate_left
              · simp only [Act.put, List.setIfInBounds_toArray, List.set_cons_zero, List.set_cons_succ, i64_w, i32_w]
                rfl
              refine pure_ (i := 5) (N := some 45) (v := ?_) (a' := ?_) #[true, false, true, false, false, true, false, false, false, false, false, false] rfl rfl (any_of HT_.out (by kernel_rfl)) (fun _ _ _ h => h) (Or.inl ⟨by rfl, ?_⟩) ?_ ?_
              rotate_left
              · intro w'
                go_simp
                with_reducible rfl
              rotate_left
              · simp only [Act.put, List.setIfInBounds_toArray, List.set_cons_zero, List.set_cons_succ, i64_w, i32_w]
                rfl
              refine pure_ (i := 7) (N := some 47) (v := ?_) (a' := ?_) #[true, false, true, false, false, true, false, true, false, false, false, false] rfl rfl (any_of HT_.out (by kernel_rfl)) (fun _ _ _ h => h) (Or.inl ⟨by rfl, ?_⟩) ?_ ?_
              rotate_left
              · intro w'
                go_simp
                with_reducible rfl
              rotate_left
              · simp only [Act.put, List.setIfInBounds_toArray, List.set_cons_zero, List.set_cons_succ, i64_w, i32_w]
                rfl
              refine take_ (i := 1) (N := some 41) (v := ?_) (a' := ?_) #[true, true, true, false, false, true, false, true, false, false, false, false] rfl rfl (take_ofW HT_.out HW_.out (by kernel_rfl)) (fun _ _ _ h => h) (Or.inl ⟨by rfl, ?_⟩) hHeld ?_ ?_
              rotate_left
              · rintro w' ⟨s0, s1⟩
                go_simp
                with_reducible rfl
              rotate_left
              · simp only [Act.put, List.setIfInBounds_toArray, List.set_cons_zero, List.set_cons_succ, i64_w, i32_w]
                rfl
              refine take_ (i := 3) (N := some 43) (v := ?_) (a' := ?_) #[true, true, true, true, false, true, false, true, false, false, false, false] rfl rfl (take_ofW HT_.out HW_.out (by kernel_rfl)) (fun _ _ _ h => h) (Or.inl ⟨by rfl, ?_⟩) hHeld ?_ ?_
              rotate_left
              · rintro w' ⟨s0, s1⟩
                go_simp
                with_reducible rfl
              rotate_left
              · simp only [Act.put, List.setIfInBounds_toArray, List.set_cons_zero, List.set_cons_succ, i64_w, i32_w]
                rfl
              refine take_ (i := 6) (N := some 46) (v := ?_) (a' := ?_) #[true, true, true, true, false, true, true, true, false, false, false, false] rfl rfl (take_ofW HT_.out HW_.out (by kernel_rfl)) (fun _ _ _ h => h) (Or.inl ⟨by rfl, ?_⟩) hHeld ?_ ?_
              rotate_left
              · rintro w' ⟨s0, s1⟩
                go_simp
                with_reducible rfl
              rotate_left
              · simp only [Act.put, List.setIfInBounds_toArray, List.set_cons_zero, List.set_cons_succ, i64_w, i32_w]
                rfl
              refine take_ (i := 8) (N := some 48) (v := ?_) (a' := ?_) #[true, true, true, true, false, true, true, true, true, false, false, false] rfl rfl (take_ofW HT_.out HW_.out (by kernel_rfl)) (fun _ _ _ h => h) (Or.inl ⟨by rfl, ?_⟩) hHeld ?_ ?_
              rotate_left
              · rintro w' ⟨s0, s1⟩
                go_simp
                with_reducible rfl
              rotate_left
              · simp only [Act.put, List.setIfInBounds_toArray, List.set_cons_zero, List.set_cons_succ, i64_w, i32_w]
                rfl
              refine one_ (i := 4) (N := some 44) #[true, true, true, true, true, true, true, true, true, false, false, false] rfl rfl (one_of HT_.out (by kernel_rfl)) (by decide) (fun K hK => ?_)
              refine goes_ Try.func27 (by kernel_rfl) rfl #[.int .i64 ((rd_T30 y321 x36_1).f0), .int .i64 ((rd_T30 y321 x36_1).f1)] (by rfl) rfl rfl (by (try simp only [List.map_toArray, List.map_cons, List.map_nil]); first | done | rfl | (simp only [List.length_drop, List.length_take]; rfl)) ?_
              with_reducible refine (sets_Range.calls k1 ((rd_T30 y321 x36_1).f0) ((rd_T30 y321 x36_1).f1) t326 _ A13.out).mono ?_
              rintro e w23 ⟨v327, rfl, ho0, hb⟩
              refine ⟨_, rfl, ?_⟩
              have n0_ := Aside0.mk (Kd.R_below (by (with_reducible repeat (first | apply Kd.R_alloc | apply Kd.R_drewN | apply Kd.R_drew)); exact HO_34.out) hb)
              have n1_ := Aside0.mk (Kd.R_lower ho0 (below_size (by repeat (first | (with_reducible first | exact HB.out | apply below_alloc | apply pw_below_drewN | apply below_drew1 | refine below_set ?_ GE325.out) | exact HB.out))))
              have n2_ := Aside0.mk (blk_below (g := gb325) (o := .cells #[.int .i64 ((rd_T30 y321 x36_1).f0), .int .i64 ((rd_T30 y321 x36_1).f1)] 30 (0, 0)) (by (with_reducible repeat (first | refine blk_drewN ?_ _ | refine blk_drew ?_ | refine blk_alloc ?_ _)); exact BK325.out) hb)
              have n3_ := Aside0.mk (below_step (by repeat (first | (with_reducible first | exact HB.out | apply below_alloc | apply pw_below_drewN | apply below_drew1 | refine below_set ?_ GE325.out) | exact HB.out)) hb)
              clear HO_34
              clear BK325
              clear HB
              have HO_34 := n0_
              have HO328 := n1_
              have BK325 := n2_
              have HB := n3_
              clear n0_ n1_ n2_ n3_
              (try clear hb)
              (try clear hb2)
              (try clear hk)
              (try clear hi)
              (try clear ho0)
              refine hK.out _ _ ⟨(blk_cell BK325.out 0).trans rfl, (blk_cell BK325.out 1).trans rfl⟩ (fun hHeld => ?_)
              clear hK K
              refine norm_ (a' := ?_) ?_ ?_
              rotate_left
              · show Act.put _ (some 44) _ = _
                simp only [Act.put, List.setIfInBounds_toArray, List.set_cons_zero, List.set_cons_succ, i64_w, i32_w]
                rfl
              refine one_ (i := 9) (N := some 49) #[true, true, true, true, true, true, true, true, true, true, false, false] rfl rfl (one_of HT_.out (by kernel_rfl)) (by decide) (fun K hK => ?_)
              refine goes_ Try.func28 (by kernel_rfl) rfl #[.int .i64 ((rd_T30 y321 x36_1).f0), .int .i64 ((rd_T30 y321 x36_1).f1)] (by rfl) rfl rfl (by (try simp only [List.map_toArray, List.map_cons, List.map_nil]); first | done | rfl | (simp only [List.length_drop, List.length_take]; rfl)) ?_
              with_reducible refine (abugidaref15_Range.calls k1 ((rd_T30 y321 x36_1).f0) ((rd_T30 y321 x36_1).f1) t329 _ A16.out).mono ?_
              rintro e w24 ⟨v330, rfl, ho0, hb⟩
              refine ⟨_, rfl, ?_⟩
              have n0_ := Aside0.mk (Kd.R_below (by (with_reducible repeat (first | apply Kd.R_alloc | apply Kd.R_drewN | apply Kd.R_drew)); exact HO_34.out) hb)
              have n1_ := Aside0.mk (Kd.R_elder' (by (with_reducible repeat (first | apply Kd.R_alloc | apply Kd.R_drewN | apply Kd.R_drew)); exact HO328.out) (Kd.R_base ho0) hb)
              have n2_ := Aside0.mk (Kd.R_lower (Kd.R_new' ho0 (Kd.R_lt (by (with_reducible repeat (first | apply Kd.R_alloc | apply Kd.R_drewN | apply Kd.R_drew)); exact HO328.out))) (below_size (by repeat (first | (with_reducible first | exact HB.out | apply below_alloc | apply pw_below_drewN | apply below_drew1 | refine below_set ?_ GE325.out) | exact HB.out))))
              have n3_ := Aside0.mk (blk_below (g := gb325) (o := .cells #[.int .i64 ((rd_T30 y321 x36_1).f0), .int .i64 ((rd_T30 y321 x36_1).f1)] 30 (0, 0)) (by (with_reducible repeat (first | refine blk_drewN ?_ _ | refine blk_drew ?_ | refine blk_alloc ?_ _)); exact BK325.out) hb)
              have n4_ := Aside0.mk (below_step (by repeat (first | (with_reducible first | exact HB.out | apply below_alloc | apply pw_below_drewN | apply below_drew1 | refine below_set ?_ GE325.out) | exact HB.out)) hb)
              clear HO_34
              clear HO328
              clear BK325
              clear HB
              have HO_34 := n0_
              have HO328 := n1_
              have HO331 := n2_
              have BK325 := n3_
              have HB := n4_
              clear n0_ n1_ n2_ n3_ n4_
              (try clear hb)
              (try clear hb2)
              (try clear hk)
              (try clear hi)
              (try clear ho0)
              obtain ⟨Ao25, co25, eo25⟩ := Kd.R_slice HO328.out
              (first | subst eo25 | (injection eo25 with f1_ f2_ f3_; have f4_ := f1_.symm; have f5_ := f3_.symm; clear f1_ f2_ f3_; subst f4_; subst f5_))
              obtain ⟨Ao26, co26, eo26⟩ := Kd.R_slice HO331.out
              (first | subst eo26 | (injection eo26 with f1_ f2_ f3_; have f4_ := f1_.symm; have f5_ := f3_.symm; clear f1_ f2_ f3_; subst f4_; subst f5_))
              refine hK.out _ _ ⟨(blk_cell BK325.out 0).trans rfl, (blk_cell BK325.out 1).trans rfl⟩ (fun hHeld => ?_)
              clear hK K
              refine norm_ (a' := ?_) ?_ ?_
              rotate_left
              · show Act.put _ (some 49) _ = _
                simp only [Act.put, List.setIfInBounds_toArray, List.set_cons_zero, List.set_cons_succ, i64_w, i32_w]
                rfl
              refine one_ (i := 10) (N := some 50) #[true, true, true, true, true, true, true, true, true, true, true, false] rfl rfl (one_of HT_.out (by kernel_rfl)) (by decide) (fun K hK => ?_)
              refine goes_ Try.func12 (by kernel_rfl) rfl #[.slice Ao25 t326.length co25, .slice Ao26 t329.length co26] (by rfl) rfl rfl (by (try simp only [List.map_toArray, List.map_cons, List.map_nil]); first | done | rfl | (simp only [List.length_drop, List.length_take]; rfl)) ?_
              with_reducible refine (abugidaref15_Same.calls k1 _ _ t326 _ _ t329 true _ ?side1 ?side2 ?side3 ?side4 A17.out).mono ?_
              (case side1 => repeat (first | exact (Kd.R_reads' HO328.out).2.2 | (with_reducible refine Kd.C_alloc ?_ _) | (with_reducible refine Kd.C_drewN ?_ _) | (with_reducible refine Kd.C_drew ?_)))
              (case side2 => exact (Kd.R_reads' HO328.out).2.1)
              (case side3 => repeat (first | exact (Kd.R_reads' HO331.out).2.2 | (with_reducible refine Kd.C_alloc ?_ _) | (with_reducible refine Kd.C_drewN ?_ _) | (with_reducible refine Kd.C_drew ?_)))
              (case side4 => exact (Kd.R_reads' HO331.out).2.1)
              rintro e w' ⟨rfl, ⟨nd, rfl⟩⟩
              refine ⟨_, rfl, ?_⟩
              refine hK.out _ _ ⟨(blk_cell BK325.out 0).trans rfl, (blk_cell BK325.out 1).trans rfl⟩ (fun hHeld => ?_)
              clear hK K
              refine norm_ (a' := ?_) ?_ ?_
              rotate_left
              · show Act.put _ (some 50) _ = _
                simp only [Act.put, List.setIfInBounds_toArray, List.set_cons_zero, List.set_cons_succ, i64_w, i32_w]
                rfl
              refine pure_ (i := 11) (N := some 51) (v := ?_) (a' := ?_) #[true, true, true, true, true, true, true, true, true, true, true, true] rfl rfl (any_of HT_.out (by kernel_rfl)) (fun _ _ _ h => h) (Or.inl ⟨by rfl, ?_⟩) ?_ ?_
              rotate_left
              · intro w'
                go_simp
                with_reducible rfl
              rotate_left
              · simp only [Act.put, List.setIfInBounds_toArray, List.set_cons_zero, List.set_cons_succ, i64_w, i32_w]
                rfl
              refine done_ (done_of HT_.out (by kernel_rfl)) ?_
              try go_wp2
              go_roundg k1
              case measure => have := HK1.out; omega
              case rel => exact ⟨(wrap64 (x36_1 + 1)), (by first | rfl | (simp; done) | (simp [*]; done)), H', ⟨by have := HK1.out; omega⟩, ⟨by (with_reducible repeat (first | apply Kd.R_alloc | apply Kd.R_drewN | apply Kd.R_drew)); exact Kd.R_mono HO_34.out (fun _ hk => trivial)⟩, ⟨by repeat (first | (with_reducible first | exact HB.out | apply below_alloc | apply pw_below_drewN | apply below_drew1 | refine below_set ?_ GE325.out) | exact HB.out)⟩⟩
            · replace c18 := Bool.eq_false_iff.mpr c18
              subst c18
              have H1 : (some false) = some r := by rw [if_neg (show ¬ (false = true) by decide)] at H; exact H
              clear H
              have H := H1
              clear H1
              obtain rfl := Option.some.inj H
              have p324 : 0 ≤ (x36_1 : Int) := of_decide_eq_true (by first | (with_reducible assumption) | assumption)
              have q324 : x36_1 < (y321.length : Int) := of_decide_eq_true (by first | (with_reducible assumption) | assumption)
              obtain ⟨ad324, e324, hx324_0, hx324_1⟩ := at_T30 (Kd.R_reads' HO_34.out).2.2 x36_1 p324 q324
              cases e324
              replace p324 := eq_true p324
              replace q324 := eq_true q324
              try go_wp2_with (first | ((with_reducible refine gate_dst (N := 8) rfl ?_); refine box_event ?hg (N := 8) ?hd (cs := #[.int .i64 0, .int .i64 0]) (t := 30) ?hr ?_; (case hd => rfl); (case hg => rfl); (case hr => first | (go_simp; done) | (go_simp; rfl)); intro gb325 hg w27 hbox hb; have n0_ := Aside0.mk (Kd.R_below (Kd.R_elderB (by (with_reducible repeat (first | apply Kd.R_alloc | apply Kd.R_drewN | apply Kd.R_drew)); exact HO_34.out) gb325 (Nat.le_of_eq hg.symm)) hb); have n1_ := Aside0.mk (below_step (by repeat (first | (with_reducible first | exact HB.out | apply below_alloc | apply pw_below_drewN | apply below_drew1) | exact HB.out)) hb); have n2_ := Aside0.mk (hbox); have n3_ := Aside0.mk ((by rw [hg]; exact (below_size (by repeat (first | (with_reducible first | exact HB.out | apply below_alloc | apply pw_below_drewN | apply below_drew1) | exact HB.out))) : w.heap.size ≤ gb325)); have n4_ := Aside0.mk ((by rw [hg]; exact (below_size (by repeat (first | (with_reducible first | exact HB.out | apply below_alloc | apply pw_below_drewN | apply below_drew1) | exact HB.out))) : w.heap.size ≤ gb325)); clear HO_34; clear HB; have HO_34 := n0_; have HB := n1_; have BK325 := n2_; have GW325 := n3_; have GE325 := n4_; clear n0_ n1_ n2_ n3_ n4_; clear hb hbox hg; have hcz28_0 : w27.cell? ⟨gb325, 0, none⟩ = some (.int .i64 0) := (blk_cell BK325.out 0).trans rfl; have hcz28_1 : w27.cell? ⟨gb325, 1, none⟩ = some (.int .i64 0) := (blk_cell BK325.out 1).trans rfl; have hfz28_0 := blk_frozen BK325.out 0; have hfz28_1 := blk_frozen BK325.out 1))
              have n0_ : Aside0 (Kd.R k30 30 ((w27.setCell ⟨gb325, 0, none⟩ (.int .i64 ((rd_T30 y321 x36_1).f0))).setCell ⟨gb325, 1, none⟩ (.int .i64 ((rd_T30 y321 x36_1).f1))) w.heap.size (fun k_ => k_ ≠ gb325) (.slice (some ad324) y321.length co7) y321) := ⟨by (with_reducible repeat (first | apply Kd.R_alloc | apply Kd.R_drewN | apply Kd.R_drew)); exact Kd.R_mono (Kd.R_far (p := ⟨gb325, 1, none⟩) (Kd.R_far (p := ⟨gb325, 0, none⟩) (Kd.R_mono HO_34.out (fun k_ hk => (⟨hk, hk.2⟩ : _ ∧ k_ ≠ gb325))) (fun _ hk => hk.2) (.int .i64 ((rd_T30 y321 x36_1).f0))) (fun _ hk => hk.2) (.int .i64 ((rd_T30 y321 x36_1).f1))) (fun _ hk => hk.1.2)⟩
              have n1_ : Aside0 (((w27.setCell ⟨gb325, 0, none⟩ (.int .i64 ((rd_T30 y321 x36_1).f0))).setCell ⟨gb325, 1, none⟩ (.int .i64 ((rd_T30 y321 x36_1).f1))).heap[gb325]? = some (.cells #[.int .i64 ((rd_T30 y321 x36_1).f0), .int .i64 ((rd_T30 y321 x36_1).f1)] 30 (0, 0))) := ⟨by (with_reducible repeat (first | refine blk_drewN ?_ _ | refine blk_drew ?_ | refine blk_alloc ?_ _)); refine blk_put (cs := #[.int .i64 ((rd_T30 y321 x36_1).f0), .int .i64 0]) ?_ 1 _ rfl; (with_reducible repeat (first | refine blk_drewN ?_ _ | refine blk_drew ?_ | refine blk_alloc ?_ _)); refine blk_put (cs := #[.int .i64 0, .int .i64 0]) ?_ 0 _ rfl; (with_reducible repeat (first | refine blk_drewN ?_ _ | refine blk_drew ?_ | refine blk_alloc ?_ _)); exact BK325.out⟩
              have n2_ : Aside0 (Below w.heap.size w ((w27.setCell ⟨gb325, 0, none⟩ (.int .i64 ((rd_T30 y321 x36_1).f0))).setCell ⟨gb325, 1, none⟩ (.int .i64 ((rd_T30 y321 x36_1).f1)))) := ⟨by repeat (first | (with_reducible first | exact HB.out | apply below_alloc | apply pw_below_drewN | apply below_drew1 | refine below_set ?_ GE325.out) | exact HB.out)⟩
              (try clear HO_34)
              (try clear BK325)
              (try clear HB)
              generalize ((w27.setCell ⟨gb325, 0, none⟩ (.int .i64 ((rd_T30 y321 x36_1).f0))).setCell ⟨gb325, 1, none⟩ (.int .i64 ((rd_T30 y321 x36_1).f1))) = w29 at n0_ n1_ n2_ ⊢
              have HO_34 := n0_
              have BK325 := n1_
              have HB := n2_
              clear n0_ n1_ n2_
              have n0_ := Aside0.mk (Kd.R_drew HO_34.out)
              have n1_ := Aside0.mk (blk_drew BK325.out)
              have n2_ := Aside0.mk (below_drew1 HB.out)
              clear HO_34
              clear BK325
              clear HB
              have HO_34 := n0_
              have BK325 := n1_
              have HB := n2_
              clear n0_ n1_ n2_
              refine start_ (n := 12) (S := fun w' => w'.cell? ⟨gb325, 0, none⟩ = some (.int .i64 ((rd_T30 y321 x36_1).f0)) ∧ w'.cell? ⟨gb325, 1, none⟩ = some (.int .i64 ((rd_T30 y321 x36_1).f1))) (ds := []) #[false, false, false, false, false, false, false, false, false, false, false, false] (by kernel_rfl) rfl rfl ⟨(blk_cell BK325.out 0).trans rfl, (blk_cell BK325.out 1).trans rfl⟩ (fun hHeld => ?_); refine with_tabW abugidalaw15_SetsRange.tab6 abugidalaw15_SetsRange.bits6 (fun HT_ HW_ => ?_)
              generalize w29.drew = w30 at HO_34 BK325 HB hHeld ⊢
              refine pure_ (i := 0) (N := some 40) (v := ?_) (a' := ?_) #[true, false, false, false, false, false, false, false, false, false, false, false] rfl rfl (any_of HT_.out (by kernel_rfl)) (fun _ _ _ h => h) (Or.inl ⟨by rfl, ?_⟩) ?_ ?_
              rotate_left
              · intro w'
                go_simp
                with_reducible rfl
              rotate_left
              · simp only [Act.put, List.setIfInBounds_toArray, List.set_cons_zero, List.set_cons_succ, i64_w, i32_w]
                rfl
              refine pure_ (i := 2) (N := some 42) (v := ?_) (a' := ?_) #[true, false, true, false, false, false, false, false, false, false, false, false] rfl rfl (any_of HT_.out (by kernel_rfl)) (fun _ _ _ h => h) (Or.inl ⟨by rfl, ?_⟩) ?_ ?_
              rotate_left
              · intro w'
                go_simp
                with_reducible rfl
              rotate_left
              · simp only [Act.put, List.setIfInBounds_toArray, List.set_cons_zero, List.set_cons_succ, i64_w, i32_w]
                rfl
              refine pure_ (i := 5) (N := some 45) (v := ?_) (a' := ?_) #[true, false, true, false, false, true, false, false, false, false, false, false] rfl rfl (any_of HT_.out (by kernel_rfl)) (fun _ _ _ h => h) (Or.inl ⟨by rfl, ?_⟩) ?_ ?_
              rotate_left
              · intro w'
                go_simp
                with_reducible rfl
              rotate_left
              · simp only [Act.put, List.setIfInBounds_toArray, List.set_cons_zero, List.set_cons_succ, i64_w, i32_w]
                rfl
              refine pure_ (i := 7) (N := some 47) (v := ?_) (a' := ?_) #[true, false, true, false, false, true, false, true, false, false, false, false] rfl rfl (any_of HT_.out (by kernel_rfl)) (fun _ _ _ h => h) (Or.inl ⟨by rfl, ?_⟩) ?_ ?_
              rotate_left
              · intro w'
                go_simp
                with_reducible rfl
              rotate_left
              · simp only [Act.put, List.setIfInBounds_toArray, List.set_cons_zero, List.set_cons_succ, i64_w, i32_w]
                rfl
              refine take_ (i := 1) (N := some 41) (v := ?_) (a' := ?_) #[true, true, true, false, false, true, false, true, false, false, false, false] rfl rfl (take_ofW HT_.out HW_.out (by kernel_rfl)) (fun _ _ _ h => h) (Or.inl ⟨by rfl, ?_⟩) hHeld ?_ ?_
              rotate_left
              · rintro w' ⟨s0, s1⟩
                go_simp
                with_reducible rfl
              rotate_left
              · simp only [Act.put, List.setIfInBounds_toArray, List.set_cons_zero, List.set_cons_succ, i64_w, i32_w]
                rfl
              refine take_ (i := 3) (N := some 43) (v := ?_) (a' := ?_) #[true, true, true, true, false, true, false, true, false, false, false, false] rfl rfl (take_ofW HT_.out HW_.out (by kernel_rfl)) (fun _ _ _ h => h) (Or.inl ⟨by rfl, ?_⟩) hHeld ?_ ?_
              rotate_left
              · rintro w' ⟨s0, s1⟩
                go_simp
                with_reducible rfl
              rotate_left
              · simp only [Act.put, List.setIfInBounds_toArray, List.set_cons_zero, List.set_cons_succ, i64_w, i32_w]
                rfl
              refine take_ (i := 6) (N := some 46) (v := ?_) (a' := ?_) #[true, true, true, true, false, true, true, true, false, false, false, false] rfl rfl (take_ofW HT_.out HW_.out (by kernel_rfl)) (fun _ _ _ h => h) (Or.inl ⟨by rfl, ?_⟩) hHeld ?_ ?_
              rotate_left
              · rintro w' ⟨s0, s1⟩
                go_simp
                with_reducible rfl
              rotate_left
              · simp only [Act.put, List.setIfInBounds_toArray, List.set_cons_zero, List.set_cons_succ, i64_w, i32_w]
                rfl
              refine take_ (i := 8) (N := some 48) (v := ?_) (a' := ?_) #[true, true, true, true, false, true, true, true, true, false, false, false] rfl rfl (take_ofW HT_.out HW_.out (by kernel_rfl)) (fun _ _ _ h => h) (Or.inl ⟨by rfl, ?_⟩) hHeld ?_ ?_
              rotate_left
              · rintro w' ⟨s0, s1⟩
                go_simp
                with_reducible rfl
              rotate_left
              · simp only [Act.put, List.setIfInBounds_toArray, List.set_cons_zero, List.set_cons_succ, i64_w, i32_w]
                rfl
              refine one_ (i := 4) (N := some 44) #[true, true, true, true, true, true, true, true, true, false, false, false] rfl rfl (one_of HT_.out (by kernel_rfl)) (by decide) (fun K hK => ?_)
              refine goes_ Try.func27 (by kernel_rfl) rfl #[.int .i64 ((rd_T30 y321 x36_1).f0), .int .i64 ((rd_T30 y321 x36_1).f1)] (by rfl) rfl rfl (by (try simp only [List.map_toArray, List.map_cons, List.map_nil]); first | done | rfl | (simp only [List.length_drop, List.length_take]; rfl)) ?_
              with_reducible refine (sets_Range.calls k1 ((rd_T30 y321 x36_1).f0) ((rd_T30 y321 x36_1).f1) t326 _ A13.out).mono ?_
              rintro e w31 ⟨v327, rfl, ho0, hb⟩
              refine ⟨_, rfl, ?_⟩
              have n0_ := Aside0.mk (Kd.R_below (by (with_reducible repeat (first | apply Kd.R_alloc | apply Kd.R_drewN | apply Kd.R_drew)); exact HO_34.out) hb)
              have n1_ := Aside0.mk (Kd.R_lower ho0 (below_size (by repeat (first | (with_reducible first | exact HB.out | apply below_alloc | apply pw_below_drewN | apply below_drew1 | refine below_set ?_ GE325.out) | exact HB.out))))
              have n2_ := Aside0.mk (blk_below (g := gb325) (o := .cells #[.int .i64 ((rd_T30 y321 x36_1).f0), .int .i64 ((rd_T30 y321 x36_1).f1)] 30 (0, 0)) (by (with_reducible repeat (first | refine blk_drewN ?_ _ | refine blk_drew ?_ | refine blk_alloc ?_ _)); exact BK325.out) hb)
              have n3_ := Aside0.mk (below_step (by repeat (first | (with_reducible first | exact HB.out | apply below_alloc | apply pw_below_drewN | apply below_drew1 | refine below_set ?_ GE325.out) | exact HB.out)) hb)
              clear HO_34
              clear BK325
              clear HB
              have HO_34 := n0_
              have HO328 := n1_
              have BK325 := n2_
              have HB := n3_
              clear n0_ n1_ n2_ n3_
              (try clear hb)
              (try clear hb2)
              (try clear hk)
              (try clear hi)
              (try clear ho0)
              refine hK.out _ _ ⟨(blk_cell BK325.out 0).trans rfl, (blk_cell BK325.out 1).trans rfl⟩ (fun hHeld => ?_)
              clear hK K
              refine norm_ (a' := ?_) ?_ ?_
              rotate_left
              · show Act.put _ (some 44) _ = _
                simp only [Act.put, List.setIfInBounds_toArray, List.set_cons_zero, List.set_cons_succ, i64_w, i32_w]
                rfl
              refine one_ (i := 9) (N := some 49) #[true, true, true, true, true, true, true, true, true, true, false, false] rfl rfl (one_of HT_.out (by kernel_rfl)) (by decide) (fun K hK => ?_)
              refine goes_ Try.func28 (by kernel_rfl) rfl #[.int .i64 ((rd_T30 y321 x36_1).f0), .int .i64 ((rd_T30 y321 x36_1).f1)] (by rfl) rfl rfl (by (try simp only [List.map_toArray, List.map_cons, List.map_nil]); first | done | rfl | (simp only [List.length_drop, List.length_take]; rfl)) ?_
              with_reducible refine (abugidaref15_Range.calls k1 ((rd_T30 y321 x36_1).f0) ((rd_T30 y321 x36_1).f1) t329 _ A16.out).mono ?_
              rintro e w32 ⟨v330, rfl, ho0, hb⟩
              refine ⟨_, rfl, ?_⟩
              have n0_ := Aside0.mk (Kd.R_below (by (with_reducible repeat (first | apply Kd.R_alloc | apply Kd.R_drewN | apply Kd.R_drew)); exact HO_34.out) hb)
              have n1_ := Aside0.mk (Kd.R_elder' (by (with_reducible repeat (first | apply Kd.R_alloc | apply Kd.R_drewN | apply Kd.R_drew)); exact HO328.out) (Kd.R_base ho0) hb)
              have n2_ := Aside0.mk (Kd.R_lower (Kd.R_new' ho0 (Kd.R_lt (by (with_reducible repeat (first | apply Kd.R_alloc | apply Kd.R_drewN | apply Kd.R_drew)); exact HO328.out))) (below_size (by repeat (first | (with_reducible first | exact HB.out | apply below_alloc | apply pw_below_drewN | apply below_drew1 | refine below_set ?_ GE325.out) | exact HB.out))))
              have n3_ := Aside0.mk (blk_below (g := gb325) (o := .cells #[.int .i64 ((rd_T30 y321 x36_1).f0), .int .i64 ((rd_T30 y321 x36_1).f1)] 30 (0, 0)) (by (with_reducible repeat (first | refine blk_drewN ?_ _ | refine blk_drew ?_ | refine blk_alloc ?_ _)); exact BK325.out) hb)
              have n4_ := Aside0.mk (below_step (by repeat (first | (with_reducible first | exact HB.out | apply below_alloc | apply pw_below_drewN | apply below_drew1 | refine below_set ?_ GE325.out) | exact HB.out)) hb)
              clear HO_34
              clear HO328
              clear BK325
              clear HB
              have HO_34 := n0_
              have HO328 := n1_
              have HO331 := n2_
              have BK325 := n3_
              have HB := n4_
              clear n0_ n1_ n2_ n3_ n4_
              (try clear hb)
              (try clear hb2)
              (try clear hk)
              (try clear hi)
              (try clear ho0)
              obtain ⟨Ao33, co33, eo33⟩ := Kd.R_slice HO328.out
              (first | subst eo33 | (injection eo33 with f1_ f2_ f3_; have f4_ := f1_.symm; have f5_ := f3_.symm; clear f1_ f2_ f3_; subst f4_; subst f5_))
              obtain ⟨Ao34, co34, eo34⟩ := Kd.R_slice HO331.out
              (first | subst eo34 | (injection eo34 with f1_ f2_ f3_; have f4_ := f1_.symm; have f5_ := f3_.symm; clear f1_ f2_ f3_; subst f4_; subst f5_))
              refine hK.out _ _ ⟨(blk_cell BK325.out 0).trans rfl, (blk_cell BK325.out 1).trans rfl⟩ (fun hHeld => ?_)
              clear hK K
              refine norm_ (a' := ?_) ?_ ?_
              rotate_left
              · show Act.put _ (some 49) _ = _
                simp only [Act.put, List.setIfInBounds_toArray, List.set_cons_zero, List.set_cons_succ, i64_w, i32_w]
                rfl
              refine one_ (i := 10) (N := some 50) #[true, true, true, true, true, true, true, true, true, true, true, false] rfl rfl (one_of HT_.out (by kernel_rfl)) (by decide) (fun K hK => ?_)
              refine goes_ Try.func12 (by kernel_rfl) rfl #[.slice Ao33 t326.length co33, .slice Ao34 t329.length co34] (by rfl) rfl rfl (by (try simp only [List.map_toArray, List.map_cons, List.map_nil]); first | done | rfl | (simp only [List.length_drop, List.length_take]; rfl)) ?_
              with_reducible refine (abugidaref15_Same.calls k1 _ _ t326 _ _ t329 false _ ?side1 ?side2 ?side3 ?side4 A17.out).mono ?_
              (case side1 => repeat (first | exact (Kd.R_reads' HO328.out).2.2 | (with_reducible refine Kd.C_alloc ?_ _) | (with_reducible refine Kd.C_drewN ?_ _) | (with_reducible refine Kd.C_drew ?_)))
              (case side2 => exact (Kd.R_reads' HO328.out).2.1)
              (case side3 => repeat (first | exact (Kd.R_reads' HO331.out).2.2 | (with_reducible refine Kd.C_alloc ?_ _) | (with_reducible refine Kd.C_drewN ?_ _) | (with_reducible refine Kd.C_drew ?_)))
              (case side4 => exact (Kd.R_reads' HO331.out).2.1)
              rintro e w' ⟨rfl, ⟨nd, rfl⟩⟩
              refine ⟨_, rfl, ?_⟩
              refine hK.out _ _ ⟨(blk_cell BK325.out 0).trans rfl, (blk_cell BK325.out 1).trans rfl⟩ (fun hHeld => ?_)
              clear hK K
              refine norm_ (a' := ?_) ?_ ?_
              rotate_left
              · show Act.put _ (some 50) _ = _
                simp only [Act.put, List.setIfInBounds_toArray, List.set_cons_zero, List.set_cons_succ, i64_w, i32_w]
                rfl
              refine pure_ (i := 11) (N := some 51) (v := ?_) (a' := ?_) #[true, true, true, true, true, true, true, true, true, true, true, true] rfl rfl (any_of HT_.out (by kernel_rfl)) (fun _ _ _ h => h) (Or.inl ⟨by rfl, ?_⟩) ?_ ?_
              rotate_left
              · intro w'
                go_simp
                with_reducible rfl
              rotate_left
              · simp only [Act.put, List.setIfInBounds_toArray, List.set_cons_zero, List.set_cons_succ, i64_w, i32_w]
                rfl
              refine done_ (done_of HT_.out (by kernel_rfl)) ?_
              try go_wp2
              go_ret
              exact ⟨by first | rfl | (simp [errW_none, errW_some] <;> rfl) | (simp [*, errW_none, errW_some] <;> rfl), by repeat (first | (with_reducible first | exact HB.out | apply below_alloc | apply pw_below_drewN | apply below_drew1 | refine below_set ?_ GE325.out) | exact HB.out)⟩
          · rw [if_neg c10] at H
            exact absurd H (by simp)
        · rw [if_neg c9] at H
          exact absurd H (by simp)
      · rw [if_neg c8] at H
        have c8b0 : decide (x36_1 < (y321.length : Int)) = false := decide_eq_false c8
        clear c8
        obtain rfl := Option.some.inj H
        go_wp2
        go_ret
        exact ⟨by first | rfl | (simp [errW_none, errW_some] <;> rfl) | (simp [*, errW_none, errW_some] <;> rfl), by repeat (first | (with_reducible first | exact HB.out | apply below_alloc | apply pw_below_drewN | apply below_drew1) | exact HB.out)⟩

/-- THE ONE PURE STATEMENT of abugidalaw15_SetsRange: yours. -/
def abugidalaw15_SetsRange.Pure : Prop := ∀ (a0 : Int) (a1 : Int), (Lit.int .i64 a0).wf = true → (Lit.int .i64 a1).wf = true → ∃ k, abugidalaw15_SetsRange.f k a0 a1 = some true
theorem abugidalaw15_SetsRange.walk (P : abugidalaw15_SetsRange.Pure) (a0 : Int) (a1 : Int) (w : World) (w0 : (Lit.int .i64 a0).wf = true) (w1 : (Lit.int .i64 a1).wf = true) :
    Calls Try.prog 4 #[.int .i64 a0, .int .i64 a1] w fun e w' => e = .returned (.bool true) ∧ Below w.heap.size w w' := by
  obtain ⟨k, h⟩ := P a0 a1 w0 w1
  refine (abugidalaw15_SetsRange.calls k a0 a1 true w h).mono ?_
  rintro e w' ⟨rfl, hd⟩
  exact ⟨rfl, hd⟩

end Go.Proofs.Ytfjiamhgennmbaa.Q
