/- (*pass).carry: the deferred closure. -/
import Derived.Test.YtlgkeaildncojaaAq
import Derived.Recover
import Derived.Laws.Pointers
namespace Go.Proofs.Ytlgkeaildncojaa.Q
open Go.RowKit Go.Shelf Go.Proofs.YtlgkeaildncojaaW.PrintWords Go.Proofs.YtlgkeaildncojaaW.PrintLast Go.Proofs.YtlgkeaildncojaaW.PrintMore
set_option linter.unusedSimpArgs false
set_option linter.unusedVariables false
set_option maxRecDepth 100000
theorem assert95 (v : Value) (w : World) : (Instr.typeAssert (.iface 95 v) 20 95 true).run Try.prog w = .ok (.tuple #[v, .bool true]) w := by
  simp [Instr.typeAssert, run_underlying Try.underlying95, go_sem, Result.andThen]
theorem assertNil (w : World) : (Instr.typeAssert .nilIface 20 95 true).run Try.prog w = .ok (.tuple #[.agg #[.int .i64 0], .bool false]) w := by
  have hz := Try.zeroValue95 w
  simp [Instr.typeAssert, run_underlying Try.underlying95, go_sem, Result.andThen, hz]
theorem catch_panicking (g : Nat) (x err : Int) (w : World) (hb : w.heap[g]? = some (.cells #[.int .i64 x] 40 (0, 0))) :
    CallsD Try.prog 56 #[.pointer (some ⟨g, 0, none⟩)] (.panicking [{ v := .iface 95 (.agg #[.int .i64 err]), recovered := false }]) w fun e u' w' =>
      e = .returned (.tuple #[]) ∧ u' = .panicking [{ v := .iface 95 (.agg #[.int .i64 err]), recovered := true }] ∧ w' = (w.alloc (.cells #[.int .i64 err] 95)).setCell ⟨g, 0, none⟩ (.int .i64 err) := by
  have h1 := assert95
  have hb2 := box_below hb (below_alloc (Below.refl w.heap.size w) (.cells #[.int .i64 err] 95))
  have hc := (blk_cell hb2 0).trans (show (#[Value.int .i64 x])[0]? = some (.int .i64 x) from rfl)
  have hz := blk_frozen hb2 0
  have hn := (blk_cell (blk_new w (.cells #[.int .i64 err] 95)) 0).trans (show (#[Value.int .i64 err])[0]? = some (.int .i64 err) from rfl)
  refine callsD_of_wpS Try.func56 rfl fun c₀ cs hu => ?_
  apply wpS_seq
  apply wpS_region
  simp [wpOpsS, go_sem, recoverD, hu, Try.ntmps56, Exit.thenS, h1]
  apply wpS_seq
  apply wpS_region
  simp [wpOpsS, go_sem, recoverD, Exit.thenS]
  refine wpS_cond (t := true) (by simp [Act.eval, Array.replicate]) ?_
  simp only [if_true]
  apply wpS_region
  simp [wpOpsS, go_sem, hc, hz, hn, bodyPostS, results, Try.results56]
theorem catch_idle (g : Nat) (w : World) :
    CallsD Try.prog 56 #[.pointer (some ⟨g, 0, none⟩)] .returning w fun e u' w' => e = .returned (.tuple #[]) ∧ u' = .returning ∧ w' = w.alloc (.cells #[.int .i64 0] 95) := by
  have h1 := assertNil
  refine callsD_of_wpS Try.func56 rfl fun c₀ cs hu => ?_
  apply wpS_seq
  apply wpS_region
  simp [wpOpsS, go_sem, recoverD, hu, Try.ntmps56, Exit.thenS, h1]
  apply wpS_seq
  apply wpS_region
  simp [wpOpsS, go_sem, recoverD, Exit.thenS]
  refine wpS_cond (t := false) (by simp [Act.eval, Array.replicate]) ?_
  simp only [Bool.false_eq_true, if_false]
  refine wpS_of_wp (wp_skip ?_)
  cases c₀
  simp_all [bodyPostS, results, Try.results56]
end Go.Proofs.Ytlgkeaildncojaa.Q
