-- Written by wip/tools/myprint.py, a program of this session that drives the kit's print.py; not a text of print.sh.
import Derived.Test.YtacnckneiklgpaaQx0
import Derived.Test.YtacnckneiklgpaaQx3
import Derived.RangeFuncNested
import Derived.RangeFuncBound
import Derived.RangeFuncCalls
import Derived.RangeFuncLeaves
import Derived.RangeFuncBox
import Derived.Shelf.Abstract
import Derived.Shelf.RegionOpen
import Derived.WalkKit
import Derived.OwnWalkIn
import Derived.TacticsInMore
import Derived.LoopNIn
import Derived.LoopIn
import Derived.WalkMore
import Derived.Lib.Hide
import Derived.Maps.AppendAt
namespace Go.Proofs.Ytacnckneiklgpaa.Q
open Go.RowKit Go.Proofs.YtacnckneiklgpaaW.PrintWords Go.Proofs.YtacnckneiklgpaaW.PrintLast Go.Proofs.YtacnckneiklgpaaW.PrintMore
attribute [local go_sem] max2_int min2_int max_two min_two max_three min_three max_four min_four   -- for this text's walks alone
set_option linter.unusedVariables false
set_option linter.unusedSimpArgs false

/-! ### cluster_Split: function 43 (by hand) -/
open Go.Shelf
attribute [local go_sem] Oper.semAt_some

theorem chars_of.l0_any (c : Int) (xs : List S74) (hl : xs.length ≤ 1000) (d : Nat) : ∀ (k : Nat) (i : Int), 0 ≤ i → i + d = xs.length → d < k → ∃ r, chars_of.l0 k c xs (xs.length : Int) i = some r := by
  induction d with
  | zero =>
    intro k i h0 h1 hk
    obtain ⟨k, rfl⟩ : ∃ m, k = m + 1 := ⟨k - 1, by omega⟩
    simp only [chars_of.l0]; rw [if_neg (by omega)]; exact ⟨_, rfl⟩
  | succ d ih =>
    intro k i h0 h1 hk
    obtain ⟨k, rfl⟩ : ∃ m, k = m + 1 := ⟨k - 1, by omega⟩
    have hlt : i < (xs.length : Int) := by omega
    obtain ⟨r, hr⟩ := ih k (i + 1) (by omega) (by omega) (by omega)
    have hw : wrap64 (i + 1) = i + 1 := by unfold wrap64; omega
    simp only [chars_of.l0]
    rw [if_pos hlt, if_pos h0, if_pos hlt, hw]
    split
    · split
      · exact ⟨_, rfl⟩
      · exact ⟨r, hr⟩
    · exact ⟨r, hr⟩

theorem chars_of.any (c : Int) : ∃ r, chars_of.f 40 c = some r := by
  unfold chars_of.f chars_blocks.f
  simp only [Option.bind_some]
  exact chars_of.l0_any c _ (by decide) 16 40 0 (by omega) (by decide) (by omega)

/-- The class of a number, and whether it extends. -/
def hcls (c : Int) : Int := (chars_Class.f 40 c).getD 0
def hext (c : Int) : Bool := (chars_Extends.f 40 c).getD false
theorem hcls_some (c : Int) : chars_Class.f 40 c = some (hcls c) := by
  obtain ⟨r, hr⟩ := chars_of.any c
  unfold hcls chars_Class.f
  rw [hr]; rfl
theorem hext_some (c : Int) : chars_Extends.f 40 c = some (hext c) := by
  have h := hcls_some c
  unfold hext chars_Extends.f
  rw [h]
  simp only [Option.bind_some]
  repeat' split
  all_goals rfl

/-- 'class' of the iterator: a character's class; the text is captured. -/
theorem cluster_class.calls (s : ByteArray) (j : Int) (h0 : 0 ≤ j) (h1 : j < (s.size : Int)) (Bn : Nat) (w : World) (hc : w.cell? ⟨Bn, 0, none⟩ = some (.string s)) :
    Calls Try.prog 58 #[.int .i64 j, .pointer (some ⟨Bn, 0, none⟩)] w fun e w' => e = .returned (.int .i64 (hcls (bt s j))) ∧ Below w.heap.size w w' := by
  have hx := bt_at s j
  have hb := bt_range s j
  have hk : wrap64 (bt s j) = bt s j := by unfold wrap64; omega
  have H : Aside0 (chars_Class.f 40 (wrap64 (bt s j)) = some (hcls (bt s j))) := ⟨by rw [hk]; exact hcls_some _⟩
  have p : (0 ≤ j) = True := eq_true h0
  have q : (j < (s.size : Int)) = True := eq_true h1
  clear h0 h1 hb hk
  go_enter Try.func58, Try.ntmps58
  go_wp2_with (go_at_call 46; (with_reducible refine (chars_Class.calls 40 _ _ _ H.out).mono ?_); rintro e w3 ⟨rfl, hb⟩)
  go_ret
  exact ⟨rfl, hb⟩

theorem cluster_starts.calls (s : ByteArray) (w : World) : Calls Try.prog 52 #[.string s] w fun e w' => e = .returned (.func (.func 57) #[] #[.pointer (some ⟨w.heap.size, 0, none⟩)]) ∧ w' = w.alloc (.cells #[.string s] 9) := by
  go_enter Try.func52, Try.ntmps52
  go_wp2
  go_ret
  exact ⟨rfl, rfl⟩

theorem stepR_scope {P : Program} {b : Frame} {a : Act} {k : List Item} {cs : List Frame} {w : World} {c : Code} : step P (lone (b.atR a (.code (.scope c) :: k)) cs w) = .next (lone (b.atR a (.code c :: .inScope c :: k)) cs w) :=
  step_lone_go (by simp [stepG, stepG.exec, Frame.atR])
theorem stepR_inScope {P : Program} {b : Frame} {a : Act} {k : List Item} {cs : List Frame} {w : World} {c : Code} : step P (lone (b.atR a (.inScope c :: k)) cs w) = .next (lone (b.atR a k) cs w) :=
  step_lone_go (by simp [stepG, stepG.exec, Frame.atR])
/-- A scope through which the run goes without a goto, inside a fence. -/
theorem wpIn_scope_straight {F : Fence} {n : Nat} {P : Program} {Q : Exit → Act → World → Prop} {a : Act} {w : World} {c : Code} (h : c.wpIn F n P (Exit.noGoto Q) a w) : (Code.scope c).wpIn F n P Q a w := by
  intro b k cs hro hb hr
  have h0 : (lone (b.atR a (.code (.scope c) :: k)) cs w).fenced P F := fenced_calm hb hr rfl
  obtain ⟨e, a₁, w₁, hq, harr⟩ := h b (.inScope c :: k) cs hro hb hr
  cases e with
  | normal => exact ⟨.normal, a₁, w₁, hq, .head h0 stepR_scope (StepsIn.trans harr (.one (fenced_calm hb hr rfl) stepR_inScope))⟩
  | exit id =>
    have hx : exitTo id (.inScope c :: k) = exitTo id k := by simp [exitTo]
    exact ⟨.exit id, a₁, w₁, hq, fun k' hk => .head h0 stepR_scope (harr.1 k' (by rw [hx]; exact hk)),
        fun hr' hk => let ⟨k₁, h1, h2⟩ := harr.2 hr' (by rw [hx]; exact hk); ⟨k₁, h1, .head h0 stepR_scope h2⟩⟩
  | goto l => exact hq.elim
  | ret => exact ⟨_, a₁, w₁, hq, .of_steps (.one h0 stepR_scope) harr⟩
  | panic ch => exact ⟨_, a₁, w₁, hq, .of_steps (.one h0 stepR_scope) harr⟩
  | outgrown => exact ⟨_, a₁, w₁, hq, .of_steps (.one h0 stepR_scope) harr⟩

/-- Does a cluster begin at i? from: where the last one begins. -/
def hbegin (s : ByteArray) (i frm : Nat) : Bool :=
  i == 0 || i == frm + 6 || hcls (bt s ((i : Int) - 1)) == 1 || !(hext (bt s i) || (hcls (bt s i) == 9 && hcls (bt s ((i : Int) - 1)) == 10))

def hstarts (s : ByteArray) : Nat → Nat → Nat → List Nat
  | 0, _, _ => []
  | d + 1, i, frm => if hbegin s i frm = true then i :: hstarts s d (i + 1) i else hstarts s d (i + 1) frm

theorem hstarts_step (s : ByteArray) (i frm : Nat) (h : i < s.size) : hstarts s (s.size - i) i frm = if hbegin s i frm = true then i :: hstarts s (s.size - (i + 1)) (i + 1) i else hstarts s (s.size - (i + 1)) (i + 1) frm := by
  obtain ⟨d, hd⟩ : ∃ d, s.size - i = d + 1 := ⟨s.size - i - 1, by omega⟩
  rw [hd, show s.size - (i + 1) = d by omega]
  rfl

set_option maxRecDepth 100000 in
set_option maxHeartbeats 4000000 in
theorem cluster_starts1 (s : ByteArray) (hs : s.size ≤ 140737488351232) (n l Bn : Nat) (J Jx : List Nat → World → Prop) (W : World) (hJ : AbidesFrom W.heap.size J)
    (hY : ∀ pre (x : Nat) W1, J pre W1 → pre.length < (hstarts s s.size 0 0).length → YieldAt Fence.wide (n - 1) Try.prog l #[.int .i64 x] W1 fun e W' =>
      (e = .returned (.bool true) ∧ J (pre ++ [x]) W' ∧ (W1.cell? ⟨Bn, 0, none⟩ = some (.string s) → W'.cell? ⟨Bn, 0, none⟩ = some (.string s))) ∨ (e = .returned (.bool false) ∧ Jx (pre ++ [x]) W'))
    (hc : W.cell? ⟨Bn, 0, none⟩ = some (.string s)) (h0 : J [] W) :
    CallsIn Fence.wide n Try.prog 57 #[.func (.yield l) #[] #[], .pointer (some ⟨Bn, 0, none⟩)] W fun e W' => (∃ v, e = .returned v) ∧
      ((∃ ys, ys = hstarts s s.size 0 0 ∧ J ys W') ∨ (∃ pre, pre <+: hstarts s s.size 0 0 ∧ Jx pre W')) := by
  refine callsIn_of_wp Try.func57 rfl trivial ?_ rfl
  simp only [Try.ntmps57, List.size_toArray, List.length_cons, List.length_nil, Nat.reduceAdd, Nat.reduceSub, Array.replicate_succ, Array.replicate_zero, List.push_toArray, List.append_toArray, List.nil_append, List.cons_append]
  apply wpIn_scope_straight
  gi_wp2
  apply wpIn_label
  gi_wp2
  gi_loopw [4, 9] (fun v4 v9 wr => ∃ (i frm : Nat) (pre : List Nat), v9 = .int .i64 i ∧ v4 = .int .i64 frm ∧ i ≤ s.size ∧ frm ≤ i ∧ pre ++ hstarts s (s.size - i) i frm = hstarts s s.size 0 0 ∧ J pre wr ∧ wr.cell? ⟨Bn, 0, none⟩ = some (.string s))
    (fun _ v9 _ => s.size - (intOf v9).toNat)
  case atStart =>
    exact ⟨0, 0, [], rfl, rfl, Nat.zero_le _, Nat.le_refl _, rfl, h0, hc⟩
  case round =>
    obtain ⟨i, frm, pre, rfl, rfl, hi, hf, hL, hJs, hcr⟩ := hrel
    by_cases hlt : i < s.size
    · have hstep := Lib.hid (hstarts_step s i frm hlt)
      have hx : ∀ (h : i < s.size), ((s[i]'h).toNat : Int) = bt s i := fun h => bt_at s i h
      have hrg := bt_range s i
      have hk : wrap64 (bt s i) = bt s i := by unfold wrap64; omega
      have hE : chars_Extends.f 40 (wrap64 (bt s i)) = some (hext (bt s i)) := by rw [hk]; exact hext_some _
      replace hE := Lib.hid hE
      clear hk hrg
      by_cases c0 : i = 0
      · have t0 : ((i : Int) == 0) = true := by rw [c0]; rfl
        clear hE
        have c0' := Lib.hid c0
        clear c0
        have hstep := hstep.out
        have hb1 : hbegin s i frm = true := by simp [hbegin, c0'.out]
        have hlen : pre.length < (hstarts s s.size 0 0).length := by rw [← hL, hstep, if_pos hb1]; simp
        obtain ⟨fn, tmps, assign, body, hy, hR⟩ := hY pre i wr hJs hlen
        gi_wp2
        refine ⟨(fun h => by cases h), hR.mono ?_⟩
        rintro e W3 (⟨rfl, hJ3, hk3⟩ | ⟨rfl, hJx3⟩)
        · gi_wp2
          go_roundw
          case rel => exact ⟨i + 1, i, pre ++ [i], by go_num, rfl, by omega, by omega, by rw [← hL, hstep, if_pos hb1]; simp, hJ3, hk3 hcr⟩
          case measure => simp [intOf]; omega
        · gi_wp2
          rw [Exit.noGoto_normal]
          go_end0
          exact ⟨⟨_, rfl⟩, .inr ⟨pre ++ [i], ⟨hstarts s (s.size - (i + 1)) (i + 1) i, by rw [← hL, hstep, if_pos hb1]; simp⟩, hJx3⟩⟩
      · have t0 : ((i : Int) == 0) = false := beq_eq_false_iff_ne.mpr (by omega)
        have n0 : Hid (¬ i = 0) := Lib.hid c0
        by_cases c1 : i = frm + 6
        · have t1 : ((i : Int) - frm == 6) = true := beq_iff_eq.mpr (by omega)
          have c1' := Lib.hid c1
          clear c1 hE
          have hstep := hstep.out
          have hb1 : hbegin s i frm = true := by simp [hbegin, c1'.out]
          have hlen : pre.length < (hstarts s s.size 0 0).length := by rw [← hL, hstep, if_pos hb1]; simp
          obtain ⟨fn, tmps, assign, body, hy, hR⟩ := hY pre i wr hJs hlen
          gi_wp2
          refine ⟨(fun h => by cases h), hR.mono ?_⟩
          rintro e W3 (⟨rfl, hJ3, hk3⟩ | ⟨rfl, hJx3⟩)
          · gi_wp2
            go_roundw
            case rel => exact ⟨i + 1, i, pre ++ [i], by go_num, rfl, by omega, by omega, by rw [← hL, hstep, if_pos hb1]; simp, hJ3, hk3 hcr⟩
            case measure => simp [intOf]; omega
          · gi_wp2
            rw [Exit.noGoto_normal]
            go_end0
            exact ⟨⟨_, rfl⟩, .inr ⟨pre ++ [i], ⟨hstarts s (s.size - (i + 1)) (i + 1) i, by rw [← hL, hstep, if_pos hb1]; simp⟩, hJx3⟩⟩
        · have t1 : ((i : Int) - frm == 6) = false := beq_eq_false_iff_ne.mpr (by omega)
          have n1 : Hid (¬ i = frm + 6) := Lib.hid c1
          clear c1
          cases c2 : hcls (bt s ((i : Int) - 1)) == 1 with
          | true =>
            have c2' := Lib.hid c2
            clear hE
            have hstep := hstep.out
            have hb1 : hbegin s i frm = true := by simp [hbegin, c2]
            have hlen : pre.length < (hstarts s s.size 0 0).length := by rw [← hL, hstep, if_pos hb1]; simp
            gi_wp2_with (first | (refine ⟨trivial, (fun h => by cases h), ?_⟩; gi_at_call 58; (with_reducible refine (callsIn_wide.2 (cluster_class.calls s _ (by omega) (by omega) Bn _ hcr)).mono ?_); rintro e w3 ⟨rfl, hb⟩; have hJ3 := hJ _ _ _ none hJs (grown_of_below hb none) (fun r e => by cases e); have hc3 := pw_cell_below hb hcr; clear hJs hcr hb; have hJs := hJ3; have hcr := hc3; clear hJ3 hc3; obtain ⟨fn, tmps, assign, body, hy, hR⟩ := hY pre i _ hJs hlen))
            refine ⟨(fun h => by cases h), hR.mono ?_⟩
            rintro e W3 (⟨rfl, hJ3, hk3⟩ | ⟨rfl, hJx3⟩)
            · gi_wp2
              go_roundw
              case rel => exact ⟨i + 1, i, pre ++ [i], by go_num, rfl, by omega, by omega, by rw [← hL, hstep, if_pos hb1]; simp, hJ3, hk3 hcr⟩
              case measure => simp [intOf]; omega
            · gi_wp2
              rw [Exit.noGoto_normal]
              go_end0
              exact ⟨⟨_, rfl⟩, .inr ⟨pre ++ [i], ⟨hstarts s (s.size - (i + 1)) (i + 1) i, by rw [← hL, hstep, if_pos hb1]; simp⟩, hJx3⟩⟩
          | false =>
            cases c3 : hext (bt s i) with
            | true =>
              have HE : Aside0 (chars_Extends.f 40 (wrap64 (bt s i)) = some true) := ⟨by rw [← c3]; exact hE.out⟩
              clear hE
              have hstep := hstep.out
              have hb0 : hbegin s i frm = false := by simp [hbegin, n0.out, n1.out, c2, c3]
              gi_wp2_with (first | (refine ⟨trivial, (fun h => by cases h), ?_⟩; gi_at_call 58; (with_reducible refine (callsIn_wide.2 (cluster_class.calls s _ (by omega) (by omega) Bn _ hcr)).mono ?_); rintro e w3 ⟨rfl, hb⟩; have hJ3 := hJ _ _ _ none hJs (grown_of_below hb none) (fun r e => by cases e); have hc3 := pw_cell_below hb hcr; clear hJs hcr hb; have hJs := hJ3; have hcr := hc3; clear hJ3 hc3) | ((first | refine ⟨trivial, (fun h => by cases h), ?_⟩ | refine ⟨trivial, ?_⟩); gi_at_call 53; (with_reducible refine (callsIn_wide.2 (chars_Extends.calls 40 _ _ _ HE.out)).mono ?_); rintro e w3 ⟨rfl, hb⟩; have hJ3 := hJ _ _ _ none hJs (grown_of_below hb none) (fun r e => by cases e); have hc3 := pw_cell_below hb hcr; clear hJs hcr hb; have hJs := hJ3; have hcr := hc3; clear hJ3 hc3))
              go_roundw
              case rel => exact ⟨i + 1, frm, pre, by go_num, rfl, by omega, by omega, by rw [← hL, hstep, if_neg (by rw [hb0]; decide)], hJs, hcr⟩
              case measure => simp [intOf]; omega
            | false =>
              have HE : Aside0 (chars_Extends.f 40 (wrap64 (bt s i)) = some false) := ⟨by rw [← c3]; exact hE.out⟩
              clear hE
              cases c4 : hcls (bt s i) == 9 with
              | false =>
                have hstep := hstep.out
                have hb1 : hbegin s i frm = true := by simp [hbegin, c3, c4]
                have hlen : pre.length < (hstarts s s.size 0 0).length := by rw [← hL, hstep, if_pos hb1]; simp
                gi_wp2_with (first | (refine ⟨trivial, (fun h => by cases h), ?_⟩; gi_at_call 58; (with_reducible refine (callsIn_wide.2 (cluster_class.calls s _ (by omega) (by omega) Bn _ hcr)).mono ?_); rintro e w3 ⟨rfl, hb⟩; have hJ3 := hJ _ _ _ none hJs (grown_of_below hb none) (fun r e => by cases e); have hc3 := pw_cell_below hb hcr; clear hJs hcr hb; have hJs := hJ3; have hcr := hc3; clear hJ3 hc3; obtain ⟨fn, tmps, assign, body, hy, hR⟩ := hY pre i _ hJs hlen) | ((first | refine ⟨trivial, (fun h => by cases h), ?_⟩ | refine ⟨trivial, ?_⟩); gi_at_call 53; (with_reducible refine (callsIn_wide.2 (chars_Extends.calls 40 _ _ _ HE.out)).mono ?_); rintro e w3 ⟨rfl, hb⟩; have hJ3 := hJ _ _ _ none hJs (grown_of_below hb none) (fun r e => by cases e); have hc3 := pw_cell_below hb hcr; clear hJs hcr hb; have hJs := hJ3; have hcr := hc3; clear hJ3 hc3; obtain ⟨fn, tmps, assign, body, hy, hR⟩ := hY pre i _ hJs hlen))
                refine ⟨(fun _ h => by cases h), ?_⟩
                gi_wp2
                refine ⟨(fun h => by cases h), hR.mono ?_⟩
                rintro e W3 (⟨rfl, hJ3, hk3⟩ | ⟨rfl, hJx3⟩)
                · gi_wp2
                  go_roundw
                  case rel => exact ⟨i + 1, i, pre ++ [i], by go_num, rfl, by omega, by omega, by rw [← hL, hstep, if_pos hb1]; simp, hJ3, hk3 hcr⟩
                  case measure => simp [intOf]; omega
                · gi_wp2
                  rw [Exit.noGoto_normal]
                  go_end0
                  exact ⟨⟨_, rfl⟩, .inr ⟨pre ++ [i], ⟨hstarts s (s.size - (i + 1)) (i + 1) i, by rw [← hL, hstep, if_pos hb1]; simp⟩, hJx3⟩⟩
              | true =>
                cases c5 : hcls (bt s ((i : Int) - 1)) == 10 with
                | false =>
                  have hstep := hstep.out
                  have hb1 : hbegin s i frm = true := by simp [hbegin, c3, c5]
                  have hlen : pre.length < (hstarts s s.size 0 0).length := by rw [← hL, hstep, if_pos hb1]; simp
                  gi_wp2_with (first | (refine ⟨trivial, (fun h => by cases h), ?_⟩; gi_at_call 58; (with_reducible refine (callsIn_wide.2 (cluster_class.calls s _ (by omega) (by omega) Bn _ hcr)).mono ?_); rintro e w3 ⟨rfl, hb⟩; have hJ3 := hJ _ _ _ none hJs (grown_of_below hb none) (fun r e => by cases e); have hc3 := pw_cell_below hb hcr; clear hJs hcr hb; have hJs := hJ3; have hcr := hc3; clear hJ3 hc3; obtain ⟨fn, tmps, assign, body, hy, hR⟩ := hY pre i _ hJs hlen) | ((first | refine ⟨trivial, (fun h => by cases h), ?_⟩ | refine ⟨trivial, ?_⟩); gi_at_call 53; (with_reducible refine (callsIn_wide.2 (chars_Extends.calls 40 _ _ _ HE.out)).mono ?_); rintro e w3 ⟨rfl, hb⟩; have hJ3 := hJ _ _ _ none hJs (grown_of_below hb none) (fun r e => by cases e); have hc3 := pw_cell_below hb hcr; clear hJs hcr hb; have hJs := hJ3; have hcr := hc3; clear hJ3 hc3; obtain ⟨fn, tmps, assign, body, hy, hR⟩ := hY pre i _ hJs hlen))
                  refine ⟨(fun h => by cases h), hR.mono ?_⟩
                  rintro e W3 (⟨rfl, hJ3, hk3⟩ | ⟨rfl, hJx3⟩)
                  · gi_wp2
                    go_roundw
                    case rel => exact ⟨i + 1, i, pre ++ [i], by go_num, rfl, by omega, by omega, by rw [← hL, hstep, if_pos hb1]; simp, hJ3, hk3 hcr⟩
                    case measure => simp [intOf]; omega
                  · gi_wp2
                    rw [Exit.noGoto_normal]
                    go_end0
                    exact ⟨⟨_, rfl⟩, .inr ⟨pre ++ [i], ⟨hstarts s (s.size - (i + 1)) (i + 1) i, by rw [← hL, hstep, if_pos hb1]; simp⟩, hJx3⟩⟩
                | true =>
                  have hstep := hstep.out
                  have hb0 : hbegin s i frm = false := by simp [hbegin, n0.out, n1.out, c2, c3, c4, c5]
                  gi_wp2_with (first | (refine ⟨trivial, (fun h => by cases h), ?_⟩; gi_at_call 58; (with_reducible refine (callsIn_wide.2 (cluster_class.calls s _ (by omega) (by omega) Bn _ hcr)).mono ?_); rintro e w3 ⟨rfl, hb⟩; have hJ3 := hJ _ _ _ none hJs (grown_of_below hb none) (fun r e => by cases e); have hc3 := pw_cell_below hb hcr; clear hJs hcr hb; have hJs := hJ3; have hcr := hc3; clear hJ3 hc3) | ((first | refine ⟨trivial, (fun h => by cases h), ?_⟩ | refine ⟨trivial, ?_⟩); gi_at_call 53; (with_reducible refine (callsIn_wide.2 (chars_Extends.calls 40 _ _ _ HE.out)).mono ?_); rintro e w3 ⟨rfl, hb⟩; have hJ3 := hJ _ _ _ none hJs (grown_of_below hb none) (fun r e => by cases e); have hc3 := pw_cell_below hb hcr; clear hJs hcr hb; have hJs := hJ3; have hcr := hc3; clear hJ3 hc3))
                  go_roundw
                  case rel => exact ⟨i + 1, frm, pre, by go_num, rfl, by omega, by omega, by rw [← hL, hstep, if_neg (by rw [hb0]; decide)], hJs, hcr⟩
                  case measure => simp [intOf]; omega
    · gi_wp2
      rw [Exit.noGoto_normal]
      go_end0
      have e : i = s.size := by omega
      subst e
      rw [Nat.sub_self] at hL
      exact ⟨⟨_, rfl⟩, .inl ⟨pre, by rw [← hL]; simp [hstarts], hJs⟩⟩

/-- The spans of a text of N bytes out of the places where clusters begin. -/
def hspans (N : Int) : List Nat → List S51
  | [] => []
  | [a] => [⟨a, N⟩]
  | a :: b :: t => ⟨a, b⟩ :: hspans N (b :: t)

theorem hspans_length (N : Int) : ∀ l : List Nat, (hspans N l).length = l.length
  | [] => rfl
  | [_] => rfl
  | _ :: b :: t => by simp [hspans, hspans_length N (b :: t)]

/-- Their cells. -/
def scells (l : List S51) : List Value := l.flatMap fun s => [.int .i64 s.f0, .int .i64 s.f1]
theorem scells_length (l : List S51) : (scells l).length = l.length * 2 := by
  induction l with
  | nil => rfl
  | cons a t ih => simp only [scells, List.flatMap_cons, List.length_append, List.length_cons, List.length_nil] at *; omega
theorem scells_append (a b : List S51) : scells (a ++ b) = scells a ++ scells b := by simp [scells]

/-- The next place: the last span ends there, and a new one begins. -/
theorem hspans_snoc (N : Int) (x : Nat) : ∀ l : List Nat, l ≠ [] → scells (hspans N (l ++ [x])) = (scells (hspans N l)).set (2 * l.length - 1) (.int .i64 x) ++ [.int .i64 x, .int .i64 N]
  | [], h => absurd rfl h
  | [a], _ => by simp [hspans, scells]
  | a :: b :: t, _ => by
    have ih := hspans_snoc N x (b :: t) (by simp)
    simp only [List.cons_append, hspans] at ih ⊢
    simp only [scells, List.flatMap_cons, List.length_cons] at ih ⊢
    rw [ih]
    have e : 2 * (t.length + 1 + 1) - 1 = (2 * (t.length + 1) - 1) + 1 + 1 := by omega
    rw [e]
    simp

theorem cluster_starts_stops (s : ByteArray) (hs : s.size ≤ 140737488351232) (n Bn : Nat) (w : World) (hBn : Bn < w.heap.size) (hc : w.cell? ⟨Bn, 0, none⟩ = some (.string s)) :
    SeqStopsK Fence.wide n Try.prog 57 #[.pointer (some ⟨Bn, 0, none⟩)] (fun x : Nat => #[Value.int .i64 (x : Int)]) (fun A B => A.cell? ⟨Bn, 0, none⟩ = some (.string s) → B.cell? ⟨Bn, 0, none⟩ = some (.string s))
      (fun ys => ys = hstarts s s.size 0 0) (fun pre => pre <+: hstarts s s.size 0 0) (hstarts s s.size 0 0).length w := fun l J Jx W hW hJ _ hY h0 =>
  cluster_starts1 s hs n l Bn J Jx W hJ hY ((hW.cell (p := ⟨Bn, 0, none⟩) hBn).trans hc) h0

theorem hstarts_length (s : ByteArray) : ∀ d i frm, (hstarts s d i frm).length ≤ d
  | 0, _, _ => Nat.le_refl _
  | d + 1, i, frm => by
    unfold hstarts
    have h1 := hstarts_length s d (i + 1) i
    have h2 := hstarts_length s d (i + 1) frm
    split
    · rw [List.length_cons]; omega
    · omega


theorem cell_two_new (w : World) (x y : Value) (t : TypeId) : ∀ j u, [x, y][j]? = some u → (w.alloc (.cells #[x, y] t)).cell? ((⟨w.heap.size, 0, none⟩ : Addr).add j) = some u := by
  intro j u h
  rw [add_plain, cell_of_row _ w.heap.size j #[x, y] t (0, 0) (World.alloc_heap_new w _)]
  rw [← h, List.getElem?_toArray]

theorem cell_two_at (w : World) (x y : Value) (t : TypeId) (n : Nat) (hn : w.heap.size = n) : ∀ j u, [x, y][j]? = some u → (w.alloc (.cells #[x, y] t)).cell? ((⟨n, 0, none⟩ : Addr).add j) = some u := by subst hn; exact cell_two_new w x y t

theorem split_append {w W w1 : World} {v v' : Value} {k m B : Nat} {xs ys : List Value} {tmp : Obj} {s : ByteArray} (hv : Boxed W (w.heap.size + 1) 59 v) (hrow : W.ownsRow w.heap.size 51 2 v k xs) (hT : Boxed W w.heap.size 9 (.string s)) (hN : Boxed W (w.heap.size + 1 + 1) 9 (.string s))
    (hB : Below w.heap.size w W) (hown' : w1.ownsRow w.heap.size 51 2 v' m ys) (hgrow : (W.alloc tmp).grownBy w1 v.ownBlock) :
    KeepsFrom B W (w1.setCell ⟨w.heap.size + 1, 0, none⟩ v') ∧ Boxed (w1.setCell ⟨w.heap.size + 1, 0, none⟩ v') (w.heap.size + 1) 59 v' ∧ (w1.setCell ⟨w.heap.size + 1, 0, none⟩ v').ownsRow w.heap.size 51 2 v' m ys ∧
    Boxed (w1.setCell ⟨w.heap.size + 1, 0, none⟩ v') w.heap.size 9 (.string s) ∧ Boxed (w1.setCell ⟨w.heap.size + 1, 0, none⟩ v') (w.heap.size + 1 + 1) 9 (.string s) ∧ Below w.heap.size w (w1.setCell ⟨w.heap.size + 1, 0, none⟩ v') := by
  obtain ⟨hv1, hv2, hr2, hk2, hb2⟩ := hv.appended (by decide) hrow hB.size (Nat.le_succ _) hown' hgrow
  exact ⟨hk2.from _, hv2, hr2, (((hT.alloc tmp).kept hgrow (hT.not_row (by decide) hrow)).other (by omega) _), (((hN.alloc tmp).kept hgrow (hN.not_row (by decide) hrow)).other (by omega) _), hB.trans hb2⟩

set_option maxRecDepth 100000 in
set_option maxHeartbeats 4000000 in
theorem cluster_Split.calls0 (s : ByteArray) (hs : s.size ≤ 8796093022207) (w : World) :
    Calls Try.prog 43 #[.string s] w fun e w' => ∃ v : Value, e = .returned v ∧ w'.ownsRow w.heap.size 51 2 v (hspans s.size (hstarts s s.size 0 0)).length (scells (hspans s.size (hstarts s s.size 0 0))) ∧ Below w.heap.size w w' := by
  obtain ⟨i0, hi, hz0, hz1, hz2⟩ := info_parts info51
  refine (callsIn_wide (n := 5)).1 ?_
  refine callsIn_of_wp_marks Try.func43 rfl trivial ?_ rfl
  simp only [Try.ntmps43, List.size_toArray, List.length_cons, List.length_nil, Nat.reduceAdd, Nat.reduceSub, Array.replicate_succ, Array.replicate_zero, List.push_toArray, List.append_toArray, List.nil_append, List.cons_append]
  gi_wp2_with ((first | refine ⟨trivial, (fun h => by cases h), ?_⟩ | refine ⟨trivial, ?_⟩); gi_at_call 52; refine (callsIn_wide.2 (cluster_starts.calls _ _)).mono ?_; rintro e w' ⟨rfl, rfl⟩)
  have bT := Boxed.new w 9 (.string s)
  have bO := Boxed.new (w.alloc (.cells #[.string s] 9)) 59 (.slice none 0 0)
  have bN := Boxed.new ((w.alloc (.cells #[.string s] 9)).alloc (.cells #[.slice none 0 0] 59)) 9 (.string s)
  rw [World.size_alloc] at bO
  rw [World.size_alloc, World.size_alloc] at bN
  have hB0 : Below w.heap.size w (((w.alloc (.cells #[.string s] 9)).alloc (.cells #[.slice none 0 0] 59)).alloc (.cells #[.string s] 9)) := (((Below.refl _ w).alloc (Nat.le_refl _) _).alloc (by simp) _).alloc (by simp; omega) _
  refine wpIn_rangeFunc_ownG rfl (by omega) (gf := 57) (lb := #[.pointer (some ⟨w.heap.size + 1 + 1, 0, none⟩)]) rfl trivial (enters_of Try.func57 (by kernel_rfl) rfl)
    (cluster_starts_stops s (by omega) 4 (w.heap.size + 1 + 1) _ (by simp) bN.cell) (fun h k c => k (h c)) (fun W l o o' hl ho hcs _ hc => cell_kept hc (grownBy_putObj' W l o') (fun r e => by cases e; exact ⟨_, ho, hcs⟩)) (Below.refl _ _) (fun _ => rfl)
    (fun pre W => (∃ v, Boxed W (w.heap.size + 1) 59 v ∧ W.ownsRow w.heap.size 51 2 v (hspans s.size pre).length (scells (hspans s.size pre)) ∧ True) ∧ Boxed W w.heap.size 9 (.string s) ∧ Boxed W (w.heap.size + 1 + 1) 9 (.string s) ∧ Below w.heap.size w W)
    (fun _ _ _ => False)
    (OwnFrom.and (Own.from (holdsRow_own w.heap.size (w.heap.size + 1) 59 51 2 (fun pre => (hspans s.size pre).length) (fun pre => scells (hspans s.size pre)) (fun _ _ => True)) _) (OwnFrom.and (Own.from (boxed_own w.heap.size 9 (fun _ => .string s)) _) (OwnFrom.and (Own.from (boxed_own (w.heap.size + 1 + 1) 9 (fun _ => .string s)) _) (ownFrom_below (Nat.le_refl _) (by simp; omega)))))
    (fun _ _ _ _ _ hs _ _ => hs)
    ⟨⟨_, bO.alloc _, World.ownsRow_nil _ _ _ _, trivial⟩, (bT.alloc _).alloc _, bN, hB0⟩
    (fun x => { tmps := #[.string s, .pointer (some ⟨w.heap.size, 0, none⟩), .slice none 0 0, .pointer (some ⟨w.heap.size + 1, 0, none⟩), .int .i64 x, undef, .string s, .func (.func 57) #[] #[.pointer (some ⟨w.heap.size + 1 + 1, 0, none⟩)], .int .i64 x, undef, undef, undef, undef, undef, undef, undef, undef, undef, undef, undef, undef, undef, undef, undef, undef, undef, undef], defers := [] }) ?assign ?body ?done ?stop
  case assign =>
    intro l x W K hK
    gi_wp2
    exact hK
  case body =>
    rintro l pre x W ⟨⟨v, hv, hrow, -⟩, hT, hN, hB⟩ hlt
    have hc := hv.cell
    have hcT := hT.cell
    have hln := hspans_length s.size pre
    have hll := hstarts_length s s.size 0 0
    cases pre with
    | nil =>
      obtain ⟨A, c, rfl⟩ := own_slice hrow
      have hln := Lib.hid hln
      gi_wp2_with (gi_at_builtin; refine wpListIn_append_own _ rfl _ _ 59 rfl w.heap.size 51 i0 (.agg #[.int .i64 0, .int .i64 0]) 2 16 Try.underlying59 hi hz0 hz1 hz2 rfl (by decide) _ _ _ rfl (hrow.alloc _) ⟨W.heap.size, 0, none⟩ 1 1 [.int .i64 x, .int .i64 s.size] rfl rfl (cell_two_new _ _ _ _) (by simp [Value.oneCell']) (by unfold maxLen; omega) (by omega) (by have := hB.size; simp; omega) ?_; intro v' w1 hown' hgrow _; obtain ⟨g', cap', rfl⟩ := ownsRow_succ hown'; have hw1 := (hv.alloc _).kept hgrow (hv.not_row (by decide) hrow); have hc1 := hw1.cell; have hf1 := hw1.frozen)
      obtain ⟨z1, z2, z3, z4, z5, z6⟩ := split_append (B := ((((w.alloc (.cells #[.string s] 9)).alloc (.cells #[.slice none 0 0] 59)).alloc (.cells #[.string s] 9))).heap.size) hv hrow hT hN hB hown' hgrow
      exact ⟨z1, (fun _ => z5.cell), ⟨_, z2, z3, trivial⟩, z4, z5, z6⟩
    | cons a t =>
      have hm : (hspans s.size (a :: t)).length = t.length + 1 := hln
      rw [hm] at hrow
      obtain ⟨g, cap, rfl⟩ := ownsRow_succ hrow
      have hlt2 : t.length < 8796093022207 := by simp only [List.length_cons] at hlt; omega
      obtain ⟨u, hu⟩ : ∃ u, (scells (hspans s.size (a :: t)))[t.length * 2 + 1]? = some u := ⟨_, List.getElem?_eq_getElem (by rw [scells_length, hm]; omega)⟩
      have hcl := hrow.cells (g := g) rfl _ u hu
      rw [add_plain] at hcl
      have hfr : W.frozen? ⟨g, t.length * 2 + 1, none⟩ = false := by
        obtain ⟨cells, hcs⟩ := own_typed hrow g rfl
        exact blk_frozen hcs _
      have hg1 : ¬ (g = w.heap.size + 1) := fun e => hv.not_row (by decide) hrow (by rw [e]; rfl)
      have hg2 : ¬ (g = w.heap.size) := fun e => hT.not_row (by decide) hrow (by rw [e]; rfl)
      have hg3 : ¬ (w.heap.size + 1 = g) := fun e => hg1 e.symm
      have hg4 : ¬ (w.heap.size = g) := fun e => hg2 e.symm
      clear hlt hll hln hu
      have hm := Lib.hid hm
      obtain ⟨W1, hW1⟩ : ∃ W1, W1 = W.setCell ⟨g, t.length * 2 + 1, none⟩ (.int .i64 x) := ⟨_, rfl⟩
      have hgw := (hrow.stored (t.length * 2 + 1) (.int .i64 x)).2
      have hrow1 := (hrow.stored (t.length * 2 + 1) (.int .i64 x)).1
      have hv1 : Boxed (W.setCell ⟨g, t.length * 2 + 1, none⟩ (.int .i64 x)) (w.heap.size + 1) 59 _ := hv.kept hgw (hv.not_row (by decide) hrow)
      have hT1 : Boxed (W.setCell ⟨g, t.length * 2 + 1, none⟩ (.int .i64 x)) w.heap.size 9 _ := hT.kept hgw (hT.not_row (by decide) hrow)
      have hN1 : Boxed (W.setCell ⟨g, t.length * 2 + 1, none⟩ (.int .i64 x)) (w.heap.size + 1 + 1) 9 _ := hN.kept hgw (hN.not_row (by decide) hrow)
      have hgb : w.heap.size ≤ g := own_base hrow g rfl
      have hB1 : Below w.heap.size w (W.setCell ⟨g, t.length * 2 + 1, none⟩ (.int .i64 x)) := hB.trans ((Below.refl _ W).setCell (p := ⟨g, t.length * 2 + 1, none⟩) hgb _)
      have hgw := Lib.hid hgw
      clear hW1 W1
      gi_wp2_with (gi_at_builtin; refine wpListIn_append_own _ rfl _ _ 59 rfl w.heap.size 51 i0 (.agg #[.int .i64 0, .int .i64 0]) 2 16 Try.underlying59 hi hz0 hz1 hz2 rfl (by decide) _ _ _ rfl (hrow1.alloc _) ⟨W.heap.size, 0, none⟩ 1 1 [.int .i64 x, .int .i64 s.size] rfl rfl (cell_two_at _ _ _ _ _ (by simp)) (by simp [Value.oneCell']) (by unfold maxLen; omega) (by omega) (by have := hB1.size; simp at this ⊢; omega) ?_; intro v' w1 hown' hgrow _; obtain ⟨g', cap', rfl⟩ := ownsRow_succ hown'; have hw1 := (hv1.alloc _).kept hgrow (hv1.not_row (by decide) hrow1); have hc1 := hw1.cell; have hf1 := hw1.frozen)
      obtain ⟨z1, z2, z3, z4, z5, z6⟩ := split_append (B := ((((w.alloc (.cells #[.string s] 9)).alloc (.cells #[.slice none 0 0] 59)).alloc (.cells #[.string s] 9))).heap.size) hv1 hrow1 hT1 hN1 hB1 hown' hgrow
      refine ⟨((KeepsOthers.setCell W _ _).from _).trans z1, (fun _ => z5.cell), ⟨_, z2, ?_, trivial⟩, z4, z5, z6⟩
      rw [hspans_snoc s.size x (a :: t) (by simp), hspans_length]
      have e : 2 * (a :: t).length - 1 = t.length * 2 + 1 := by simp only [List.length_cons]; omega
      rw [e, List.length_append, List.length_cons]
      exact z3
  case done =>
    rintro D ys W hD rfl ⟨⟨v, hv, hrow, -⟩, hT, hN, hB⟩ hK
    have hc := hv.cell
    gi_wp2
    refine ⟨by simp, .inl ⟨_, _, rfl, run_takeDeferred hK, ?_⟩⟩
    exact ⟨_, results_tmp rfl _ _ _, v, rfl, ownsRow_putObj hrow _ hK rfl, hB.trans (belowK_b (w := w) (Nat.le_refl _) W D _ _ (by simp at hD; omega) hK rfl rfl)⟩
  case stop =>
    rintro D c pre W _ _ h _
    exact h.elim

theorem scells_reps (w : World) (base : Nat) (ok : Nat → Prop) (l : List S51) : Reps (k51.M w base ok) k51.sz l (scells l) := by
  have key : ∀ (n : Nat) (l : List S51), l.length = n → Reps (k51.M w base ok) k51.sz l (scells l) := by
    intro n
    induction n with
    | zero => intro l hl; obtain rfl := List.length_eq_zero_iff.mp hl; exact Reps.none _ _
    | succ n ih =>
      intro l hl
      obtain ⟨a, b, rfl⟩ : ∃ a b, l = a ++ [b] := ⟨l.dropLast, l.getLast (by intro h; rw [h] at hl; cases hl), (List.dropLast_concat_getLast _).symm⟩
      rw [scells_append]
      exact (ih a (by simpa using hl)).snoc (k51_mkM w base ok b) rfl
  exact key _ l rfl

def cluster_Split.f (a0 : ByteArray) : Option (List S51) := if a0.size ≤ 8796093022207 then some (hspans a0.size (hstarts a0 a0.size 0 0)) else none

theorem cluster_Split.calls (a0 : ByteArray) (r : List S51) (w : World) (h : cluster_Split.f a0 = some r) :
    Calls Try.prog 43 #[.string a0] w fun e w' => ∃ v0_ : Value, e = .returned (v0_) ∧ Kd.R k51 51 w' w.heap.size (fun _ => True) v0_ r ∧ Below w.heap.size w w' := by
  unfold cluster_Split.f at h
  split at h
  · rename_i hs
    obtain rfl := Option.some.inj h
    exact (cluster_Split.calls0 a0 hs w).mono fun e w' ⟨v, he, hr, hb⟩ => ⟨v, he, ⟨fun _ _ => trivial, _, hr, scells_reps _ _ _ _⟩, hb⟩
  · cases h



end Go.Proofs.Ytacnckneiklgpaa.Q
