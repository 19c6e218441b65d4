/- BreaksGreedy: for every input the law returns true, and each argument reads afterwards as it read before. No condition. -/
-- Written by wip/tools/myprint.py, a program of this session that drives the kit's print.py; not a text of print.sh.
import Derived.Test.YthllgpjjjegenaaRows
import Derived.Test.YthllgpjjjegenaaQx17
import Derived.Test.YthllgpjjjegenaaPureBreaksGreedy
import Derived.WalkKit
import Derived.ProofKit
import Derived.OpenShut
import Derived.ShutString
import Derived.ChangeOld
import Derived.Below
import Derived.SizedLaws
import Derived.Lib.SmallJoins
import Derived.Carry
import Derived.Deep.Grids
import Derived.Test.YthllgpjjjegenaaWSized
namespace Go.Proofs.Ythllgpjjjegenaa.breaksGreedy
open Go.ChangeShapes Go.WideShapes Go.ChangeAt Go.RowKit
open Go.ChangeMaps (open_string shut_string)
set_option linter.unusedVariables false
theorem own : ownKnob Try.prog.godebug = none := by kernel_rfl
theorem laidOut : laidOutB Try.prog = true := by kernel_rfl
def IsRow (k : IntKind) (w : World) (a : Option Addr) (len cap : Nat) (zs : List Int) : Prop :=
  (a = none ∧ len = 0 ∧ cap = 0 ∧ zs = []) ∨
  ∃ x, a = some x ∧ len ≤ cap ∧ cap ≤ maxLen ∧ zs.length = cap ∧ (∀ i, i < zs.length → w.cell? (x.add i) = some (.int k (zs.getD i 0))) ∧ ∀ n ∈ zs, (Lit.int k n).wf = true
def IsRowB (w : World) (a : Option Addr) (len cap : Nat) (zs : List Bool) : Prop :=
  (a = none ∧ len = 0 ∧ cap = 0 ∧ zs = []) ∨
  ∃ x, a = some x ∧ len ≤ cap ∧ cap ≤ maxLen ∧ zs.length = cap ∧ ∀ i, i < zs.length → w.cell? (x.add i) = some (.bool (zs.getD i false))
set_option maxRecDepth 100000 in
theorem lifted (os : Os) (started : os.Started) (H : Type) (enc : TypeId × Value → H) :
    ReturnsInHanded {} Try.checked os 6 .any (Rows.breaksGreedySpec.pre6 enc Try.prog Try.f6 Rows.breaksGreedyRow.domain false) (Rows.breaksGreedySpec.post enc Try.prog Try.f6 false true false false) := by
  refine returnsInHanded_of_change_sized (C := Try.checked) own started (by kernel_rfl) Try.func6
    (ChangeSpec.witness6 (enc := enc) (C := Try.checked) false ⟨#[], #[.agg #[.slice none 0 0, .slice none 0 0, .slice none 0 0, .int .i64 0]], []⟩ 8 (by kernel_rfl) (by kernel_rfl) (by kernel_rfl) (by kernel_rfl)) ?_
  intro W base args ds gs before hval0 hW hcnd hsz0 _
  have hsz : (DataW.weightsEach Try.prog (Try.f6.params.toList ++ Rows.breaksGreedySpec.plain.varTypes Try.prog) (ds ++ gs)).all (· ≤ reachBytes) = true := hsz0
  have hval : ∀ (j : Nat) t v, Try.f6.params[j]? = some t → args[j]? = some v → Value.okWide Try.prog W .any base t v := hval0
  have hW' := hW
  obtain ⟨p, q, hA0, hV, rfl, hfz, hnd⟩ := hW
  have hA : DataW.TrodAll enc Try.prog W 0 (fun _ => true) true Try.f6.params.toList args.toList ds p := hA0
  rw [Try.params6] at hA hval hsz
  obtain ⟨v0, vs0, d0, ds0, p0, q0, hargs, rfl, rfl, h0, r0⟩ := trodAll_cons hA
  obtain ⟨rfl, rfl, rfl⟩ := trodAll_nil r0
  obtain rfl : args = #[v0] := by cases args; simp_all
  obtain ⟨rfl, rfl⟩ := trodVars_none hV
  have k0 := h0
  have lt0 : ∀ x ∈ p0, x.block < W.heap.size := by obtain ⟨m, hm⟩ := k0; exact DataW.trod_lt m _ _ _ hm
  obtain ⟨b0_0, b0_1, b0_2, b0_3, y0_0, y0_1, y0_2, y0_3, fu0, rfl, rfl, rfl, t0_0, t0_1, t0_2, t0_3⟩ := Joins.open_agg4 Try.underlying37 (by kernel_rfl) (by kernel_rfl) (hval 0 37 v0 rfl rfl) h0
  obtain ⟨a0_0, len0_0, cap0_0, e0_0⟩ := Joins.slice_form Try.underlying22 t0_0
  obtain rfl : b0_0 = .slice a0_0 len0_0 cap0_0 := by simpa using e0_0
  obtain ⟨z0_0, w0_0⟩ : ∃ zs, IsRow .i64 W a0_0 len0_0 cap0_0 zs := by
    rcases open_ints Try.underlying22 Try.underlying3 (by kernel_rfl) t0_0 with ⟨hcs, _⟩ | ⟨x, l, c, zs, hcs, _, hl, hm, hz, _, hcell, hwz⟩
    · simp at hcs
      obtain ⟨rfl, rfl, rfl⟩ := hcs
      exact ⟨[], .inl ⟨rfl, rfl, rfl, rfl⟩⟩
    · simp at hcs
      obtain ⟨rfl, rfl, rfl⟩ := hcs
      exact ⟨zs, .inr ⟨_, rfl, hl, hm, by simpa using hz, hcell, hwz⟩⟩
  obtain ⟨a0_1, len0_1, cap0_1, e0_1⟩ := Joins.slice_form Try.underlying22 t0_1
  obtain rfl : b0_1 = .slice a0_1 len0_1 cap0_1 := by simpa using e0_1
  obtain ⟨z0_1, w0_1⟩ : ∃ zs, IsRow .i64 W a0_1 len0_1 cap0_1 zs := by
    rcases open_ints Try.underlying22 Try.underlying3 (by kernel_rfl) t0_1 with ⟨hcs, _⟩ | ⟨x, l, c, zs, hcs, _, hl, hm, hz, _, hcell, hwz⟩
    · simp at hcs
      obtain ⟨rfl, rfl, rfl⟩ := hcs
      exact ⟨[], .inl ⟨rfl, rfl, rfl, rfl⟩⟩
    · simp at hcs
      obtain ⟨rfl, rfl, rfl⟩ := hcs
      exact ⟨zs, .inr ⟨_, rfl, hl, hm, by simpa using hz, hcell, hwz⟩⟩
  obtain ⟨a0_2, len0_2, cap0_2, e0_2⟩ := Joins.slice_form Try.underlying35 t0_2
  obtain rfl : b0_2 = .slice a0_2 len0_2 cap0_2 := by simpa using e0_2
  obtain ⟨z0_2, w0_2⟩ : ∃ zs, IsRowB W a0_2 len0_2 cap0_2 zs := by
    rcases Go.Deep.open_bools Try.underlying35 Try.underlying4 (by kernel_rfl) t0_2 with ⟨hcs, _⟩ | ⟨x, l, c, B, hcs, _, hl, hm, _, hcell⟩
    · simp at hcs
      obtain ⟨rfl, rfl, rfl⟩ := hcs
      exact ⟨[], .inl ⟨rfl, rfl, rfl, rfl⟩⟩
    · simp at hcs
      obtain ⟨rfl, rfl, rfl⟩ := hcs
      exact ⟨(List.range cap0_2).map B, .inr ⟨_, rfl, hl, hm, by simp, fun i hi => by rw [List.length_map, List.length_range] at hi; rw [hcell i hi]; simp [List.getD_eq_getElem?_getD, hi]⟩⟩
  obtain ⟨a0_3, e0_3, rfl, w0_3⟩ := DataW.trod_int Try.underlying3 t0_3
  obtain rfl : b0_3 = .int .i64 a0_3 := by simpa using e0_3
  clear hA0 hval0 hsz0 hsz
  refine (Q.abugidalaw08_BreaksGreedy.walk Pure.BreaksGreedy a0_0 len0_0 cap0_0 z0_0 a0_1 len0_1 cap0_1 z0_1 a0_2 len0_2 cap0_2 z0_2 a0_3 W w0_0 w0_1 w0_2 w0_3).mono fun e W' ⟨he, bel⟩ => ?_
  subst he
  exact ⟨_, rfl, _, _, _, [], _, [], hW', trodAll_mk1 (shut_bool Try.underlying4 _), (trodAll_cons_mk (Below.trod laidOut (by kernel_rfl) (of_decide_eq_true (by kernel_rfl)) k0 bel lt0) trodAll_mk0), rfl, bel.frame _, fun h => by cases h⟩
theorem over : Rows.breaksGreedyRow.holds Try.pinned (OpenSpec.ofChange Rows.breaksGreedySpec) :=
  OpenClaim.holds_of_wide 6 Try.f6 rfl rfl rfl rfl rfl rfl rfl ⟨rfl, rfl, rfl, rfl, rfl⟩ rfl rfl rfl rfl rfl (by kernel_rfl) Try.func6 (by kernel_rfl)
    (of_decide_eq_true (by kernel_rfl)) (by unfold Func.isWrapper; first | (rw [if_pos (by decide +kernel)]; kernel_rfl) | (rw [if_neg (by decide +kernel)]; exact ⟨rfl, rfl⟩))
    (fun os started H enc _ => lifted os started H enc)
theorem proved : Rows.BreaksGreedySaid := over
#print axioms proved
end Go.Proofs.Ythllgpjjjegenaa.breaksGreedy
namespace Go.Proofs.Ythllgpjjjegenaa
/-- The row, under a short name, for the claim. -/
theorem breaksGreedy_holds : Rows.BreaksGreedySaid := breaksGreedy.proved
end Go.Proofs.Ythllgpjjjegenaa
