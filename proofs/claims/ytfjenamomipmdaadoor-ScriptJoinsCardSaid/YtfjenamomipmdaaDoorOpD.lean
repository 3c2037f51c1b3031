/- When two operations are the same (under way). -/
import Derived.Test.YtfjenamomipmdaaDoorOpA
set_option linter.unusedSimpArgs false
set_option linter.unusedVariables false
namespace Go.Proofs.YtfjenamomipmdaaDoor
open Go.RowKit Go.Proofs Go.Trc

/-- Two names. -/
theorem run_neq_id (W : World) (s n s' n' : Int) : (binOp .neq 33 (.agg #[.int .i64 s, .int .i64 n]) (.agg #[.int .i64 s', .int .i64 n'])).run Tryd.prog W = .ok (.bool (!(decide (s = s') && decide (n = n')))) W := by
  go_simp
  by_cases h : s = s' <;> by_cases h' : n = n' <;> simp [h, h']

theorem ite_step {p : Prop} [Decidable p] {W : World} {X : Result Value} {b : Bool} (hx : X = .ok (.bool (!b)) W) : (if p then X else .ok (.bool true) W) = .ok (.bool (!(decide p && b))) W := by
  by_cases h : p <;> simp [h, hx]
theorem ite_last {p : Prop} [Decidable p] {W : World} : (if p then (.ok (.bool false) W : Result Value) else .ok (.bool true) W) = .ok (.bool (!(decide p))) W := by
  by_cases h : p <;> simp [h]

/-- Two operations, field by field. -/
def opEq (kd s n s1 n1 s2 n2 a1 a2 a3 a4 a5 b1 b2 b3 b4 b5 nn kd' s' n' s1' n1' s2' n2' a1' a2' a3' a4' a5' b1' b2' b3' b4' b5' nn' : Int) (oe oe' : Bool) (tx tx' : ByteArray) : Bool := decide (kd = kd') && (decide (s = s') && (decide (n = n') && (decide (s1 = s1') && (decide (n1 = n1') && (decide (s2 = s2') && (decide (n2 = n2') && (decide (a1 = a1') && (decide (a2 = a2') && (decide (a3 = a3') && (decide (a4 = a4') && (decide (a5 = a5') && (decide (b1 = b1') && (decide (b2 = b2') && (decide (b3 = b3') && (decide (b4 = b4') && (decide (b5 = b5') && (decide (oe = oe') && (decide (tx.toList = tx'.toList) && (decide (nn = nn'))))))))))))))))))))

set_option maxHeartbeats 4000000 in
theorem run_neq_op (W : World) (kd s n s1 n1 s2 n2 a1 a2 a3 a4 a5 b1 b2 b3 b4 b5 nn kd' s' n' s1' n1' s2' n2' a1' a2' a3' a4' a5' b1' b2' b3' b4' b5' nn' : Int) (oe oe' : Bool) (tx tx' : ByteArray) :
    (binOp .neq 39 (.agg #[.int .i64 kd, .int .i64 s, .int .i64 n, .int .i64 s1, .int .i64 n1, .int .i64 s2, .int .i64 n2, .int .i64 a1, .int .i64 a2, .int .i64 a3, .int .i64 a4, .int .i64 a5, .int .i64 b1, .int .i64 b2, .int .i64 b3, .int .i64 b4, .int .i64 b5, .bool oe, .string tx, .int .i64 nn]) (.agg #[.int .i64 kd', .int .i64 s', .int .i64 n', .int .i64 s1', .int .i64 n1', .int .i64 s2', .int .i64 n2', .int .i64 a1', .int .i64 a2', .int .i64 a3', .int .i64 a4', .int .i64 a5', .int .i64 b1', .int .i64 b2', .int .i64 b3', .int .i64 b4', .int .i64 b5', .bool oe', .string tx', .int .i64 nn'])).run Tryd.prog W = .ok (.bool (!(opEq kd s n s1 n1 s2 n2 a1 a2 a3 a4 a5 b1 b2 b3 b4 b5 nn kd' s' n' s1' n1' s2' n2' a1' a2' a3' a4' a5' b1' b2' b3' b4' b5' nn' oe oe' tx tx'))) W := by
  go_simp
  unfold opEq
  exact ite_step (ite_step (ite_step (ite_step (ite_step (ite_step (ite_step (ite_step (ite_step (ite_step (ite_step (ite_step (ite_step (ite_step (ite_step (ite_step (ite_step (ite_step (ite_step (ite_last)))))))))))))))))))
end Go.Proofs.YtfjenamomipmdaaDoor

