/- Script: what is left of ScriptJoins. -/
import Derived.Test.YtfjenamomipmdaaDoorProg
import Derived.Test.YtfjenamomipmdaaDoorSs
import Derived.KernelRfl
set_option linter.unusedVariables false
namespace Go.Proofs.YtfjenamomipmdaaDoor
open Go Go.RowKit Go.Proofs Go.Trc
set_option maxRecDepth 100000
/-- tracery/tracerylaw23.ScriptJoins: what is left of it. -/
theorem scJoins_sx (R : Ending → World → Prop) (S : Nat → Prop) (w0 : World) (A0 : Option Addr) (n1 : Nat) (n2 : Nat) (A3 : Option Addr) (n4 : Nat) (n5 : Nat) (h :
 (
 Calls Tryd.prog 23 #[] w0 fun r w1 => ∃ b6 : Bool, r = .returned (.bool b6) ∧ (Go.Sx.Fr S w0 w1 ∧ Go.Sx.Mild [] w0 w1) ∧ 
 ∀ g7 : Nat, w0.heap.size ≤ g7 → (∀ w2 : World, Go.Sx.Fr S w0 w2 → Below w1.heap.size w1 w2 → w1.heap.size ≤ g7 → w2.heap[g7]? = some (.cells #[] 54 (0, 0)) → 
 Calls Tryd.prog 24 #[(.slice A0 n1 n2)] w2 fun r w3 => ∃ A8 : Option Addr, ∃ n9 : Nat, ∃ n10 : Nat, r = .returned (.slice A8 n9 n10) ∧ (Go.Sx.Fr S w0 w3 ∧ Go.Sx.Mild [g7] w2 w3) ∧ 
 ∀ g11 : Nat, w0.heap.size ≤ g11 → (∀ w4 : World, Go.Sx.Fr S w0 w4 → Below w3.heap.size w3 w4 → w3.heap.size ≤ g11 → w4.heap[g11]? = some (.cells #[] 54 (0, 0)) → 
 ∃ w5 : World, ∃ A12 : Option Addr, ∃ n13 : Nat, ∃ n14 : Nat, (Builtin.append_ #[51, 51] 51 #[(.slice (some ⟨g11, 0, none⟩) 0 0), (.slice A8 n9 n10)]).run Tryd.prog w4 = .ok (.slice A12 n13 n14) w5 ∧ (Go.Sx.Fr S w0 w5 ∧ Go.Sx.Mild [g11, g7] w4 w5) ∧ 
 (
 Calls Tryd.prog 24 #[(.slice A3 n4 n5)] w5 fun r w6 => ∃ A15 : Option Addr, ∃ n16 : Nat, ∃ n17 : Nat, r = .returned (.slice A15 n16 n17) ∧ (Go.Sx.Fr S w0 w6 ∧ Go.Sx.Mild [g11, g7] w5 w6) ∧ 
 (
 ∃ w7 : World, ∃ A18 : Option Addr, ∃ n19 : Nat, ∃ n20 : Nat, (Builtin.append_ #[51, 51] 51 #[(.slice A12 n13 n14), (.slice A15 n16 n17)]).run Tryd.prog w6 = .ok (.slice A18 n19 n20) w7 ∧ (Go.Sx.Fr S w0 w7 ∧ Go.Sx.Mild [g11, g7] w6 w7) ∧ 
 (∃ (I0 : Option Addr → Nat → Nat → ByteArray → Int → ByteArray → Int → World → Prop) (M0 : Option Addr → Nat → Nat → ByteArray → Int → ByteArray → Int → World → Nat), (I0 (some ⟨g7, 0, none⟩) 0 0 (⟨#[]⟩ : ByteArray) (0 : Int) (⟨#[]⟩ : ByteArray) (0 : Int) w7) ∧
 ∀ A21 : Option Addr, ∀ n22 : Nat, ∀ n23 : Nat, ∀ s24 : ByteArray, ∀ i25 : Int, ∀ s26 : ByteArray, ∀ i27 : Int, ∀ w8 : World, Go.Sx.Fr S w0 w8 → I0 A21 n22 n23 s24 i25 s26 i27 w8 → 
  ((i27 < (n19 : Int) →
  (∃ A28 : Option Addr, ∃ n29 : Nat, ∃ n30 : Nat, (Instr.sliceAt 51 (.slice A18 n19 n20) (some (.int .i64 i27)) (some (.int .i64 (IntKind.i64.wrap (i27 + (1 : Int))))) none).run Tryd.prog w8 = .ok (.slice A28 n29 n30) w8 ∧
   (
   Calls Tryd.prog 30 #[(.slice A28 n29 n30)] w8 fun r w9 => ∃ s31 : ByteArray, ∃ i32 : Int, r = .returned (.tuple #[.string s31, .int .i64 i32]) ∧ (Go.Sx.Fr S w0 w9 ∧ Go.Sx.Mild [g11, g7] w8 w9) ∧ 
   ((¬ i32 = (0 : Int) →
   (I0 A21 n22 n23 s24 i25 s26 (IntKind.i64.wrap (i27 + (1 : Int))) w9 ∧ M0 A21 n22 n23 s24 i25 s26 (IntKind.i64.wrap (i27 + (1 : Int))) w9 < M0 A21 n22 n23 s24 i25 s26 i27 w8)) ∧
   (i32 = (0 : Int) →
   ((0 : Int) ≤ i27 ∧ i27 < (n19 : Int) ∧ ∃ p33 : Nat, ∃ o34 : Nat, A18 = some ⟨p33, o34, none⟩ ∧
    (∃ i35 : Int, ∃ i36 : Int, ∃ i37 : Int, ∃ i38 : Int, ∃ A39 : Option Addr, ∃ n40 : Nat, ∃ n41 : Nat, Go.Sx.CellsAt w9 p33 (o34 + (i27).toNat * 5 + 0) [.int .i64 i35, .int .i64 i36, .int .i64 i37, .int .i64 i38, .slice A39 n40 n41] ∧ 
    ∀ g42 : Nat, w0.heap.size ≤ g42 → (∀ w10 : World, Go.Sx.Fr S w0 w10 → Below w9.heap.size w9 w10 → w9.heap.size ≤ g42 → w10.heap[g42]? = some (.cells #[.int .i64 i35, .int .i64 i36, .int .i64 i37, .int .i64 i38, .slice A39 n40 n41] 54 (0, 0)) → 
    ∃ w11 : World, ∃ A43 : Option Addr, ∃ n44 : Nat, ∃ n45 : Nat, (Builtin.append_ #[51, 51] 51 #[(.slice A21 n22 n23), (.slice (some ⟨g42, 0, none⟩) 1 1)]).run Tryd.prog w10 = .ok (.slice A43 n44 n45) w11 ∧ (Go.Sx.Fr S w0 w11 ∧ Go.Sx.Mild [g42, g11, g7] w10 w11) ∧ 
    ((i27 < (n9 : Int) →
    (∃ s46 : ByteArray, (binOp .add 9 (.string s24) (.string s31)).run Tryd.prog w11 = .ok (.string s46) w11 ∧
     (I0 A43 n44 n45 s46 (IntKind.i64.wrap (i25 + (1 : Int))) s26 (IntKind.i64.wrap (i27 + (1 : Int))) w11 ∧ M0 A43 n44 n45 s46 (IntKind.i64.wrap (i25 + (1 : Int))) s26 (IntKind.i64.wrap (i27 + (1 : Int))) w11 < M0 A21 n22 n23 s24 i25 s26 i27 w8))) ∧
    ((n9 : Int) ≤ i27 →
    (∃ s46 : ByteArray, (binOp .add 9 (.string s26) (.string s31)).run Tryd.prog w11 = .ok (.string s46) w11 ∧
     (I0 A43 n44 n45 s24 i25 s46 (IntKind.i64.wrap (i27 + (1 : Int))) w11 ∧ M0 A43 n44 n45 s24 i25 s46 (IntKind.i64.wrap (i27 + (1 : Int))) w11 < M0 A21 n22 n23 s24 i25 s26 i27 w8)))))))))))) ∧
  ((n19 : Int) ≤ i27 →
  (((65527 : Int) < (IntKind.i64.wrap (((s24).size : Int) + ((s26).size : Int))) →
   (R (.returned (.bool b6)) w8)) ∧
   ((IntKind.i64.wrap (((s24).size : Int) + ((s26).size : Int))) ≤ (65527 : Int) →
   (∃ s28 : ByteArray, (binOp .add 9 (.string s24) (.string s26)).run Tryd.prog w8 = .ok (.string s28) w8 ∧
    (
    Calls Tryd.prog 32 #[(.string s28)] w8 fun r w9 => ∃ A29 : Option Addr, ∃ n30 : Nat, ∃ n31 : Nat, ∃ i32 : Int, ∃ i33 : Int, r = .returned (.tuple #[.slice A29 n30 n31, .int .i64 i32, .int .i64 i33]) ∧ (Go.Sx.Fr S w0 w9 ∧ Go.Sx.Mild [g11, g7] w8 w9) ∧ 
    (
    Calls Tryd.prog 27 #[(.slice A29 n30 n31), (.slice A21 n22 n23)] w9 fun r w10 => ∃ b34 : Bool, r = .returned (.bool b34) ∧ (Go.Sx.Fr S w0 w10 ∧ Go.Sx.Mild [g11, g7] w9 w10) ∧ 
    (∃ s35 : ByteArray, (binOp .add 9 (.string s24) (.string (⟨#[48, 103, 10]⟩ : ByteArray))).run Tryd.prog w10 = .ok (.string s35) w10 ∧
    (∃ s36 : ByteArray, (binOp .add 9 (.string s35) (.string s26)).run Tryd.prog w10 = .ok (.string s36) w10 ∧
    (
    Calls Tryd.prog 32 #[(.string s36)] w10 fun r w11 => ∃ A37 : Option Addr, ∃ n38 : Nat, ∃ n39 : Nat, ∃ i40 : Int, ∃ i41 : Int, r = .returned (.tuple #[.slice A37 n38 n39, .int .i64 i40, .int .i64 i41]) ∧ (Go.Sx.Fr S w0 w11 ∧ Go.Sx.Mild [g11, g7] w10 w11) ∧ 
    ((b6 = true →
    ((b34 = true →
     ((i32 = (0 : Int) →
      ((i33 = (0 : Int) →
       (((n38 : Int) = (0 : Int) →
        ((i40 = (IntKind.i64.wrap (i25 + (1 : Int))) →
         (R (.returned (.bool (i41 == (240 : Int)))) w11)) ∧
         (¬ i40 = (IntKind.i64.wrap (i25 + (1 : Int))) →
         (R (.returned (.bool false)) w11)))) ∧
        (¬ (n38 : Int) = (0 : Int) →
        (R (.returned (.bool false)) w11)))) ∧
       (¬ i33 = (0 : Int) →
       (R (.returned (.bool false)) w11)))) ∧
      (¬ i32 = (0 : Int) →
      (R (.returned (.bool false)) w11)))) ∧
     (b34 = false →
     (R (.returned (.bool false)) w11)))) ∧
    (b6 = false →
    (R (.returned (.bool false)) w11)))))))))))))))))))) :
    Calls Tryd.prog 13 #[(.slice A0 n1 n2), (.slice A3 n4 n5)] w0 R :=
  Go.Sx.fn_sound0 (P := Tryd.prog) (S := S) (w0 := w0) (R := R) (ws := []) (an := [⟨999999, [], [], 0⟩, ⟨999998, [], [], 0⟩]) (f := 13) (n := 6) (xs := [.one (.slice (.var 0) (.var 1) (.var 2)), .one (.slice (.var 3) (.var 4) (.var 5))]) (e := [.a A0, .n n1, .n n2, .a A3, .n n4, .n n5]) rfl (by kernel_rfl) (Eq.mp (by kernel_rfl) h)


end Go.Proofs.YtfjenamomipmdaaDoor
