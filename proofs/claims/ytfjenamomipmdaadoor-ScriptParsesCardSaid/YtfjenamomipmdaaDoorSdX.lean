/- Script: what is left of ScriptParses. -/
import Derived.Test.YtfjenamomipmdaaDoorProg
import Derived.Test.YtfjenamomipmdaaDoorSs
import Derived.KernelRfl
set_option linter.unusedVariables false
namespace Go.Proofs.YtfjenamomipmdaaDoor
open Go Go.RowKit Go.Proofs Go.Trc
set_option maxRecDepth 100000
/-- tracery/tracerylaw23.ScriptParses: what is left of it. -/
theorem scParses_sx (R : Ending → World → Prop) (S : Nat → Prop) (w0 : World) (s0 : ByteArray) (h :
 (
 Calls Tryd.prog 23 #[] w0 fun r w1 => ∃ b1 : Bool, r = .returned (.bool b1) ∧ (Go.Sx.Fr S w0 w1 ∧ Go.Sx.Mild [] w0 w1) ∧ 
 (((66000 : Int) < ((s0).size : Int) →
 (∃ s2 : ByteArray, (Instr.sliceAt 9 (.string s0) none (some (.int .i64 (66000 : Int))) none).run Tryd.prog w1 = .ok (.string s2) w1 ∧
  (
  Calls Tryd.prog 32 #[(.string s2)] w1 fun r w2 => ∃ A3 : Option Addr, ∃ n4 : Nat, ∃ n5 : Nat, ∃ i6 : Int, ∃ i7 : Int, r = .returned (.tuple #[.slice A3 n4 n5, .int .i64 i6, .int .i64 i7]) ∧ (Go.Sx.Fr S w0 w2 ∧ Go.Sx.Mild [] w1 w2) ∧ 
  (
  Calls Tryd.prog 33 #[(.string s2)] w2 fun r w3 => ∃ A8 : Option Addr, ∃ n9 : Nat, ∃ n10 : Nat, ∃ i11 : Int, ∃ i12 : Int, r = .returned (.tuple #[.slice A8 n9 n10, .int .i64 i11, .int .i64 i12]) ∧ (Go.Sx.Fr S w0 w3 ∧ Go.Sx.Mild [] w2 w3) ∧ 
  (
  Calls Tryd.prog 27 #[(.slice A3 n4 n5), (.slice A8 n9 n10)] w3 fun r w4 => ∃ b13 : Bool, r = .returned (.bool b13) ∧ (Go.Sx.Fr S w0 w4 ∧ Go.Sx.Mild [] w3 w4) ∧ 
  ((b1 = true →
  ((b13 = true →
   ((i6 = i11 →
    (R (.returned (.bool (i7 == i12))) w4)) ∧
    (¬ i6 = i11 →
    (R (.returned (.bool false)) w4)))) ∧
   (b13 = false →
   (R (.returned (.bool false)) w4)))) ∧
  (b1 = false →
  (R (.returned (.bool false)) w4)))))))) ∧
 (((s0).size : Int) ≤ (66000 : Int) →
 (
  Calls Tryd.prog 32 #[(.string s0)] w1 fun r w2 => ∃ A2 : Option Addr, ∃ n3 : Nat, ∃ n4 : Nat, ∃ i5 : Int, ∃ i6 : Int, r = .returned (.tuple #[.slice A2 n3 n4, .int .i64 i5, .int .i64 i6]) ∧ (Go.Sx.Fr S w0 w2 ∧ Go.Sx.Mild [] w1 w2) ∧ 
  (
  Calls Tryd.prog 33 #[(.string s0)] w2 fun r w3 => ∃ A7 : Option Addr, ∃ n8 : Nat, ∃ n9 : Nat, ∃ i10 : Int, ∃ i11 : Int, r = .returned (.tuple #[.slice A7 n8 n9, .int .i64 i10, .int .i64 i11]) ∧ (Go.Sx.Fr S w0 w3 ∧ Go.Sx.Mild [] w2 w3) ∧ 
  (
  Calls Tryd.prog 27 #[(.slice A2 n3 n4), (.slice A7 n8 n9)] w3 fun r w4 => ∃ b12 : Bool, r = .returned (.bool b12) ∧ (Go.Sx.Fr S w0 w4 ∧ Go.Sx.Mild [] w3 w4) ∧ 
  ((b1 = true →
  ((b12 = true →
   ((i5 = i10 →
    (R (.returned (.bool (i6 == i11))) w4)) ∧
    (¬ i5 = i10 →
    (R (.returned (.bool false)) w4)))) ∧
   (b12 = false →
   (R (.returned (.bool false)) w4)))) ∧
  (b1 = false →
  (R (.returned (.bool false)) w4)))))))))) :
    Calls Tryd.prog 11 #[(.string s0)] w0 R :=
  Go.Sx.fn_sound0 (P := Tryd.prog) (S := S) (w0 := w0) (R := R) (ws := []) (an := [⟨999999, [], [], 0⟩, ⟨999998, [], [], 0⟩]) (f := 11) (n := 1) (xs := [.one (.str (.var 0))]) (e := [.s s0]) rfl (by kernel_rfl) (Eq.mp (by kernel_rfl) h)


end Go.Proofs.YtfjenamomipmdaaDoor
