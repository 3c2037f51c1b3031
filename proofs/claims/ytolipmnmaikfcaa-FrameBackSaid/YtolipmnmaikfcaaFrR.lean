/- Frames: what the arguments read as; the walks of the laws, as the rows ask for them. -/
import Derived.Test.YtolipmnmaikfcaaFrE
import Derived.Test.YtolipmnmaikfcaaStruct
set_option linter.unusedSimpArgs false
set_option linter.unusedVariables false
namespace Go.Proofs.Ytolipmnmaikfcaa
open Go Go.RowKit Go.Proofs Go.Trc Go.Sx

abbrev FrT := Int × Int × Int × Int × Int × Int × List UInt8
theorem rd_frame : Rd Try.prog 24 FrT :=
  rd_struct Try.underlying24 (by kernel_rfl)
    (rdF_cons (by kernel_rfl) (rd_int Try.underlying3) rfl (rdF_cons (by kernel_rfl) (rd_int Try.underlying3) rfl (rdF_cons (by kernel_rfl) (rd_int Try.underlying3) rfl (rdF_cons (by kernel_rfl) (rd_int Try.underlying3) rfl
      (rdF_cons (by kernel_rfl) (rd_int Try.underlying3) rfl (rdF_cons (by kernel_rfl) (rd_int Try.underlying3) rfl (rdF_last (by kernel_rfl) (rd_slice Try.underlying22 (by kernel_rfl) (rd_byte Try.underlying5)))))))))
/-- A value of two or more cells is a row of them. -/
theorem agg_of {v : Value} {cs : Array Value} (h : v.cells.toList = cs.toList) (n : 2 ≤ cs.size) : v = .agg cs := by
  have e : v.cells = cs := Array.ext' h
  cases v
  case agg a => exact congrArg Value.agg e
  all_goals (exfalso; rw [← e] at n; simp only [Value.cells] at n; simp at n)
/-- A frame's cells. -/
theorem frame_of {w : World} {ok : Nat → Prop} {v : Value} {x : FrT} (h : Rep.K w ok x v.cells.toList) :
    ∃ A n c, v = .agg #[.int .i64 x.1, .int .i64 x.2.1, .int .i64 x.2.2.1, .int .i64 x.2.2.2.1, .int .i64 x.2.2.2.2.1, .int .i64 x.2.2.2.2.2.1, .slice A n c] ∧
      (∀ u ∈ [x.2.2.2.1, x.2.2.2.2.1, x.2.2.2.2.2.1], -9223372036854775808 ≤ u ∧ u ≤ 9223372036854775807) ∧ Sl w ok (.slice A n c) x.2.2.2.2.2.2 := by
  obtain ⟨kd, fr, to, ep, sq, ak, bd⟩ := x
  obtain ⟨c1, c2, h, ⟨rfl, _⟩, ⟨c3, c4, rfl, ⟨rfl, _⟩, ⟨c5, c6, rfl, ⟨rfl, _⟩, ⟨c7, c8, rfl, ⟨rfl, r1⟩, ⟨c9, c10, rfl, ⟨rfl, r2⟩, ⟨c11, c12, rfl, ⟨rfl, r3⟩, ⟨u, rfl, hs⟩⟩⟩⟩⟩⟩⟩ := h
  have hs0 := hs
  obtain ⟨A, c, rfl, _⟩ := hs0
  refine ⟨A, _, c, agg_of h (by simp), ?_, hs⟩
  intro u hu
  simp only [List.mem_cons, List.not_mem_nil, or_false] at hu
  rcases hu with rfl | rfl | rfl <;> assumption

theorem framePuts_walk (w : World) (v : Value) (x : FrT) (h : Rep.K w (fun b => b < w.heap.size) x v.cells.toList) :
    Calls Try.prog 3 #[v] w fun e w' => e = .returned (.bool true) ∧ Below w.heap.size w w' := by
  obtain ⟨A, n, c, rfl, hr, hs⟩ := frame_of h
  exact framePuts_wk hr hs
end Go.Proofs.Ytolipmnmaikfcaa
