/- Script: what is left of slices.Chunk. -/
import Derived.Test.YtfjenamomipmdaaDoorProg
import Derived.Test.YtfjenamomipmdaaDoorSs
import Derived.KernelRfl
set_option linter.unusedVariables false
namespace Go.Proofs.YtfjenamomipmdaaDoor
open Go Go.RowKit Go.Proofs Go.Trc
set_option maxRecDepth 100000
/-- slices.Chunk[[]byte,byte]: what is left of it. -/
theorem chunk_sx (R : Ending → World → Prop) (S : Nat → Prop) (w0 : World) (A0 : Option Addr) (n1 : Nat) (n2 : Nat) (i3 : Int) (h :
 ∀ g4 : Nat, w0.heap.size ≤ g4 → ∀ g5 : Nat, w0.heap.size ≤ g5 → ((i3 < (1 : Int) →
 False) ∧
 ((1 : Int) ≤ i3 →
 (∀ w1 : World, Go.Sx.Fr S w0 w1 → Below w0.heap.size w0 w1 → w0.heap.size ≤ g5 → w1.heap[g5]? = some (.cells #[.int .i64 i3] 3 (0, 0)) → w0.heap.size ≤ g4 → w1.heap[g4]? = some (.cells #[.slice A0 n1 n2] 22 (0, 0)) → ∃ v6 : Value, (Instr.makeFunc (.func 104) #[] #[(.pointer (some ⟨g4, 0, none⟩)), (.pointer (some ⟨g5, 0, none⟩))]).run Tryd.prog w1 = .ok (v6) w1 ∧
  (R (.returned (v6)) w1))))) :
    Calls Tryd.prog 84 #[(.slice A0 n1 n2), (.int .i64 i3)] w0 R :=
  Go.Sx.fn_sound0 (P := Tryd.prog) (S := S) (w0 := w0) (R := R) (ws := []) (an := [⟨999999, [], [], 0⟩]) (f := 84) (n := 4) (xs := [.one (.slice (.var 0) (.var 1) (.var 2)), .one (.int .i64 (.var 3))]) (e := [.a A0, .n n1, .n n2, .i i3]) rfl (by kernel_rfl) (Eq.mp (by kernel_rfl) h)


end Go.Proofs.YtfjenamomipmdaaDoor
