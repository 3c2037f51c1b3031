/- Script: line, whatever the text. -/
import Derived.Test.YtfjenamomipmdaaDoorScL
set_option linter.unusedSimpArgs false
set_option linter.unusedVariables false
namespace Go.Proofs.YtfjenamomipmdaaDoor
open Go Go.RowKit Go.Shelf Go.Proofs Go.Trc
attribute [local go_sem] Oper.semAt_some
set_option maxRecDepth 100000 in
set_option maxHeartbeats 4000000 in
theorem line_odd (w : World) (xs : List UInt8) (m : Nat) (hm : xs.length = 2 * m + 1) (hl : xs.length ≤ 70000) :
    CallsIn Fence.wide 5 Tryd.prog 60 #[.string ⟨xs.toArray⟩] w (TakeSE w (zeroS, 240)) := by
  have hro : Fence.wide.round = none := rfl
  have hs : (⟨xs.toArray⟩ : ByteArray).size = 2 * m + 1 := by show xs.toArray.size = _; simpa using hm
  have hr : Int.tmod (2 * (m : Int) + 1) 2 = 1 := by rw [Int.tmod_eq_emod_of_nonneg (by omega)]; omega
  refine callsIn_of_wp Tryd.func60 rfl trivial ?_ hro
  simp only [Tryd.ntmps60, List.size_toArray, List.length_cons, List.length_nil, Nat.reduceAdd, Nat.reduceSub, Array.replicate_succ, Array.replicate_zero, List.push_toArray, List.append_toArray, List.nil_append, List.cons_append]
  gi_wp2
  have p2 := heap_alloc1 w (.cells #[.int .i64 0, .int .i64 0, .int .i64 0, .int .i64 0, .slice none 0 0] 54) (.cells #[.int .i64 240] 27)
  have p3 := heap_alloc2 w (.cells #[.int .i64 0, .int .i64 0, .int .i64 0, .int .i64 0, .slice none 0 0] 54) (.cells #[.int .i64 240] 27)
  have hB : Below w.heap.size w ((w.alloc (.cells #[.int .i64 0, .int .i64 0, .int .i64 0, .int .i64 0, .slice none 0 0] 54)).alloc (.cells #[.int .i64 240] 27)) := ((Below.refl _ w).alloc (Nat.le_refl _) _).alloc (by simp) _
  obtain ⟨Y, hY⟩ : ∃ Y, Y = ((w.alloc (.cells #[.int .i64 0, .int .i64 0, .int .i64 0, .int .i64 0, .slice none 0 0] 54)).alloc (.cells #[.int .i64 240] 27)) := ⟨_, rfl⟩
  rw [← hY] at p2 p3 hB ⊢
  have k20 : Y.cell? ⟨w.heap.size, 0, none⟩ = some (.int .i64 0) := (Lib.cell_of_heap p2 _).trans rfl
  have k21 : Y.cell? ⟨w.heap.size, 1, none⟩ = some (.int .i64 0) := (Lib.cell_of_heap p2 _).trans rfl
  have k22 : Y.cell? ⟨w.heap.size, 2, none⟩ = some (.int .i64 0) := (Lib.cell_of_heap p2 _).trans rfl
  have k23 : Y.cell? ⟨w.heap.size, 3, none⟩ = some (.int .i64 0) := (Lib.cell_of_heap p2 _).trans rfl
  have k24 : Y.cell? ⟨w.heap.size, 4, none⟩ = some (.slice none 0 0) := (Lib.cell_of_heap p2 _).trans rfl
  have k30 : Y.cell? ⟨w.heap.size + 1, 0, none⟩ = some (.int .i64 240) := (Lib.cell_of_heap p3 _).trans rfl
  refine bodyPost_ret (v := .tuple #[.agg #[.int .i64 0, .int .i64 0, .int .i64 0, .int .i64 0, .slice none 0 0], .int .i64 240]) ?_ rfl ⟨none, 0, 0, rfl, own_nil0 _ _ _, hB⟩
  simp [results, Tryd.f60, go_sem, k20, k21, k22, k23, k24, k30]
/-- What a line is taken as. -/
noncomputable def lineV (xs : List UInt8) : StepV × Int := if xs.length % 2 = 0 then lineE xs (xs.length / 2) else (zeroS, 240)
theorem line_all (w : World) (xs : List UInt8) (hl : xs.length ≤ 70000) : Calls Tryd.prog 60 #[.string ⟨xs.toArray⟩] w (TakeSE w (lineV xs)) := by
  by_cases h : xs.length % 2 = 0
  · rw [lineV, if_pos h]
    exact callsIn_wide.1 (line_c w xs (xs.length / 2) (by omega) hl)
  · rw [lineV, if_neg h]
    exact callsIn_wide.1 (line_odd w xs (xs.length / 2) (by omega) hl)
#print axioms line_all
end Go.Proofs.YtfjenamomipmdaaDoor
