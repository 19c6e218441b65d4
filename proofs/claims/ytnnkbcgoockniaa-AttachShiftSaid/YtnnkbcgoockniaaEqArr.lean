import Derived.Test.YtnnkbcgoockniaaProg
import Derived.Test.YtnnkbcgoockniaaWWords
import Derived.Test.YtnnkbcgoockniaaWLast
import Derived.ChangeKeysEq
set_option linter.unusedSimpArgs false
set_option linter.unusedVariables false
namespace Go.Proofs.Ytnnkbcgoockniaa.Q
open Go.RowKit Go.Proofs.YtnnkbcgoockniaaW.PrintWords
theorem run_eq37 (a b c d : Int) (w : World) : (Op.equal 37 (.agg #[.int .i64 a, .int .i64 b]) (.agg #[.int .i64 c, .int .i64 d])).run Try.prog w = .ok (a == c && b == d) w := by
  obtain ⟨i0, hi⟩ : ∃ i, Try.prog.info? 3 = some i := ⟨_, rfl⟩
  have hc : Try.prog.cellsOf 3 = 1 := by kernel_rfl
  have hm : Op.maxDepth = 9999 + 1 := by decide
  unfold Op.equal
  rw [hm, run_equalIn_array (P := Try.prog) (w := w) (hu := Try.underlying37) (hi := hi), hc]
  have e0 : ∀ (n : Nat) (x y : Int) (w : World), (Op.equalIn (n + 1) 3 (.int .i64 x) (.int .i64 y)).run Try.prog w = .ok (x == y) w := fun n x y w => by
    simp [Op.equalIn, run_underlying Try.underlying3, Result.andThen]
  have e : ∀ (x y : Int) (w : World), (Op.equalIn 9999 3 (.int .i64 x) (.int .i64 y)).run Try.prog w = .ok (x == y) w := fun x y w => e0 9998 x y w
  have p0 : (part 3 #[Value.int .i64 a, .int .i64 b] 0).run Try.prog w = .ok (.int .i64 a) w := by kernel_rfl
  have p1 : (part 3 #[Value.int .i64 a, .int .i64 b] 1).run Try.prog w = .ok (.int .i64 b) w := by kernel_rfl
  have q0 : (part 3 #[Value.int .i64 c, .int .i64 d] 0).run Try.prog w = .ok (.int .i64 c) w := by kernel_rfl
  have q1 : (part 3 #[Value.int .i64 c, .int .i64 d] 1).run Try.prog w = .ok (.int .i64 d) w := by kernel_rfl
  rw [show List.range 2 = [0, 1] from rfl]
  simp only [Op.eqItems, Nat.mul_one, Sem.run_bind, p0, q0, e, Result.andThen_ok]
  cases a == c
  · simp [Result.andThen]
  · simp only [Sem.run_bind, p1, q1, e, Result.andThen_ok, Bool.not_true, Bool.false_eq_true, if_false, Bool.true_and]
    cases b == d <;> simp [Op.eqItems, Result.andThen]
theorem run_eq37m (a b c d : Int) (w : World) : (Op.equalIn Op.maxDepth 37 (.agg #[.int .i64 a, .int .i64 b]) (.agg #[.int .i64 c, .int .i64 d])).run Try.prog w = .ok (a == c && b == d) w := run_eq37 a b c d w
theorem run_eq37n (a b c d : Int) (w : World) : (Op.equalIn 10000 37 (.agg #[.int .i64 a, .int .i64 b]) (.agg #[.int .i64 c, .int .i64 d])).run Try.prog w = .ok (a == c && b == d) w := run_eq37 a b c d w
end Go.Proofs.Ytnnkbcgoockniaa.Q
