/- Frames: the walk of FrameSums, as the row asks for it. -/
import Derived.Test.YtolipmnmaikfcaaFrT
import Derived.Test.YtolipmnmaikfcaaRead
set_option linter.unusedVariables false
namespace Go.Proofs.Ytolipmnmaikfcaa
open Go Go.RowKit Go.Proofs Go.Trc Go.Sx
theorem rd_bytes : Rd Try.prog 22 (List UInt8) := rd_slice Try.underlying22 (by kernel_rfl) (rd_byte Try.underlying5)
theorem frameSums_walk (w : World) (A : Option Addr) (n c : Nat) (xs : List UInt8) (h : Sl w (fun b => b < w.heap.size) (.slice A n c) xs) (A' : Option Addr) (n' c' : Nat) (ys : List UInt8) (h' : Sl w (fun b => b < w.heap.size) (.slice A' n' c') ys)
    (A2 : Option Addr) (n2 c2 : Nat) (bz : List UInt8) (h2 : Sl w (fun b => b < w.heap.size) (.slice A2 n2 c2) bz) :
    Calls Try.prog 5 #[.slice A n c, .slice A' n' c', .slice A2 n2 c2] w fun e w' => e = .returned (.bool true) ∧ Below w.heap.size w w' := frameSums_wk h h' h2
end Go.Proofs.Ytolipmnmaikfcaa
