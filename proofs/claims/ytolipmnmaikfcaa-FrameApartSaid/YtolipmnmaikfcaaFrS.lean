/- Frames: the walk of FrameApart, as the row asks for it. -/
import Derived.Test.YtolipmnmaikfcaaFrR
import Derived.Test.YtolipmnmaikfcaaFrF
set_option linter.unusedVariables false
namespace Go.Proofs.Ytolipmnmaikfcaa
open Go Go.RowKit Go.Proofs Go.Trc Go.Sx
theorem frameApart_walk (w : World) (v : Value) (x : FrT) (h : Rep.K w (fun b => b < w.heap.size) x v.cells.toList) (wh : Int) (hw : -9223372036854775808 ≤ wh ∧ wh ≤ 9223372036854775807) (y : Int) (hy : -9223372036854775808 ≤ y ∧ y ≤ 9223372036854775807) :
    Calls Try.prog 4 #[v, .int .i64 wh, .int .i64 y] w fun e w' => e = .returned (.bool true) ∧ Below w.heap.size w w' := by
  obtain ⟨A, n, c, rfl, hr, hs⟩ := frame_of h
  exact frameApart_wk hr hs wh y hy
end Go.Proofs.Ytolipmnmaikfcaa
