/- Script: what is left of ScriptSteps. -/
import Derived.Test.YtfjenamomipmdaaDoorProg
import Derived.Test.YtfjenamomipmdaaDoorSs
import Derived.KernelRfl
set_option linter.unusedVariables false
namespace Go.Proofs.YtfjenamomipmdaaDoor
open Go Go.RowKit Go.Proofs Go.Trc
set_option maxRecDepth 100000
/-- tracery/tracerylaw23.ScriptSteps: what is left of it. -/
theorem scSteps_sx (R : Ending → World → Prop) (S : Nat → Prop) (w0 : World) (A0 : Option Addr) (n1 : Nat) (n2 : Nat) (A3 : Option Addr) (n4 : Nat) (n5 : Nat) (h :
 (
 Calls Tryd.prog 23 #[] w0 fun r w1 => ∃ b6 : Bool, r = .returned (.bool b6) ∧ (Go.Sx.Fr S w0 w1 ∧ Go.Sx.Mild [] w0 w1) ∧ 
 (
 Calls Tryd.prog 24 #[(.slice A0 n1 n2)] w1 fun r w2 => ∃ A7 : Option Addr, ∃ n8 : Nat, ∃ n9 : Nat, r = .returned (.slice A7 n8 n9) ∧ (Go.Sx.Fr S w0 w2 ∧ Go.Sx.Mild [] w1 w2) ∧ 
 (((600 : Int) < (n4 : Int) →
 (∃ A10 : Option Addr, ∃ n11 : Nat, ∃ n12 : Nat, (Instr.sliceAt 22 (.slice A3 n4 n5) none (some (.int .i64 (600 : Int))) none).run Tryd.prog w2 = .ok (.slice A10 n11 n12) w2 ∧
  ∀ g13 : Nat, w0.heap.size ≤ g13 → (∀ w3 : World, Go.Sx.Fr S w0 w3 → Below w2.heap.size w2 w3 → w2.heap.size ≤ g13 → w3.heap[g13]? = some (.cells #[] 5 (0, 0)) → 
  ∃ w4 : World, ∃ A14 : Option Addr, ∃ n15 : Nat, ∃ n16 : Nat, (Builtin.append_ #[22, 22] 22 #[(.slice (some ⟨g13, 0, none⟩) 0 0), (.slice A10 n11 n12)]).run Tryd.prog w3 = .ok (.slice A14 n15 n16) w4 ∧ (Go.Sx.Fr S w0 w4 ∧ Go.Sx.Mild [g13] w3 w4) ∧ 
  (
  Calls Tryd.prog 25 #[(.slice A14 n15 n16)] w4 fun r w5 => ∃ i17 : Int, ∃ i18 : Int, ∃ i19 : Int, ∃ i20 : Int, ∃ A21 : Option Addr, ∃ n22 : Nat, ∃ n23 : Nat, ∃ i24 : Int, r = .returned (.tuple #[.agg #[.int .i64 i17, .int .i64 i18, .int .i64 i19, .int .i64 i20, .slice A21 n22 n23], .int .i64 i24]) ∧ (Go.Sx.Fr S w0 w5 ∧ Go.Sx.Mild [g13] w4 w5) ∧ 
  ∀ g25 : Nat, w0.heap.size ≤ g25 → (∀ w6 : World, Go.Sx.Fr S w0 w6 → Below w5.heap.size w5 w6 → w5.heap.size ≤ g25 → w6.heap[g25]? = some (.cells #[.int .i64 i17, .int .i64 i18, .int .i64 i19, .int .i64 i20, .slice A21 n22 n23] 54 (0, 0)) → 
  Calls Tryd.prog 26 #[(.slice A10 n11 n12)] w6 fun r w7 => ∃ i26 : Int, ∃ i27 : Int, ∃ i28 : Int, ∃ i29 : Int, ∃ A30 : Option Addr, ∃ n31 : Nat, ∃ n32 : Nat, ∃ i33 : Int, r = .returned (.tuple #[.agg #[.int .i64 i26, .int .i64 i27, .int .i64 i28, .int .i64 i29, .slice A30 n31 n32], .int .i64 i33]) ∧ (Go.Sx.Fr S w0 w7 ∧ Go.Sx.Mild [g25, g13] w6 w7) ∧ 
  ∀ g34 : Nat, w0.heap.size ≤ g34 → ∀ g35 : Nat, w0.heap.size ≤ g35 → ∀ g36 : Nat, w0.heap.size ≤ g36 → (∀ w8 : World, Go.Sx.Fr S w0 w8 → Below w7.heap.size w7 w8 → w7.heap.size ≤ g36 → w8.heap[g36]? = some (.cells #[.int .i64 i26, .int .i64 i27, .int .i64 i28, .int .i64 i29, .slice A30 n31 n32] 54 (0, 0)) → w7.heap.size ≤ g35 → w8.heap[g35]? = some (.cells #[.int .i64 i17, .int .i64 i18, .int .i64 i19, .int .i64 i20, .slice A21 n22 n23] 54 (0, 0)) → w7.heap.size ≤ g34 → w8.heap[g34]? = some (.cells #[.int .i64 i26, .int .i64 i27, .int .i64 i28, .int .i64 i29, .slice A30 n31 n32] 54 (0, 0)) → 
  Calls Tryd.prog 27 #[(.slice (some ⟨g35, 0, none⟩) 1 1), (.slice (some ⟨g36, 0, none⟩) 1 1)] w8 fun r w9 => ∃ b37 : Bool, r = .returned (.bool b37) ∧ (Go.Sx.Fr S w0 w9 ∧ Go.Sx.Mild [g36, g35, g34, g25, g13] w8 w9) ∧ 
  (∃ (I0 : Bool → Int → World → Prop) (M0 : Bool → Int → World → Nat), (I0 false (0 : Int) w9) ∧
  ∀ b38 : Bool, ∀ i39 : Int, ∀ w10 : World, Go.Sx.Fr S w0 w10 → I0 b38 i39 w10 → 
   ((i39 < (n8 : Int) →
   ((0 : Int) ≤ i39 ∧ i39 < (n8 : Int) ∧ ∃ p40 : Nat, ∃ o41 : Nat, A7 = some ⟨p40, o41, none⟩ ∧
    (∃ i42 : Int, ∃ i43 : Int, ∃ i44 : Int, ∃ i45 : Int, ∃ A46 : Option Addr, ∃ n47 : Nat, ∃ n48 : Nat, Go.Sx.CellsAt w10 p40 (o41 + (i39).toNat * 5 + 0) [.int .i64 i42, .int .i64 i43, .int .i64 i44, .int .i64 i45, .slice A46 n47 n48] ∧ 
    (
    Calls Tryd.prog 28 #[(.agg #[.int .i64 i42, .int .i64 i43, .int .i64 i44, .int .i64 i45, .slice A46 n47 n48])] w10 fun r w11 => ∃ A49 : Option Addr, ∃ n50 : Nat, ∃ n51 : Nat, ∃ i52 : Int, r = .returned (.tuple #[.slice A49 n50 n51, .int .i64 i52]) ∧ (Go.Sx.Fr S w0 w11 ∧ Go.Sx.Mild [g36, g35, g34, g25, g13] w10 w11) ∧ 
    ((0 : Int) ≤ i39 ∧ i39 < (n8 : Int) ∧ ∃ p53 : Nat, ∃ o54 : Nat, A7 = some ⟨p53, o54, none⟩ ∧
    (∃ i55 : Int, ∃ i56 : Int, ∃ i57 : Int, ∃ i58 : Int, ∃ A59 : Option Addr, ∃ n60 : Nat, ∃ n61 : Nat, Go.Sx.CellsAt w11 p53 (o54 + (i39).toNat * 5 + 0) [.int .i64 i55, .int .i64 i56, .int .i64 i57, .int .i64 i58, .slice A59 n60 n61] ∧ 
    (
    Calls Tryd.prog 29 #[(.agg #[.int .i64 i55, .int .i64 i56, .int .i64 i57, .int .i64 i58, .slice A59 n60 n61])] w11 fun r w12 => ∃ A62 : Option Addr, ∃ n63 : Nat, ∃ n64 : Nat, ∃ i65 : Int, r = .returned (.tuple #[.slice A62 n63 n64, .int .i64 i65]) ∧ (Go.Sx.Fr S w0 w12 ∧ Go.Sx.Mild [g36, g35, g34, g25, g13] w11 w12) ∧ 
    (∃ s66 : ByteArray, (convert 22 9 (.slice A49 n50 n51)).run Tryd.prog w12 = .ok (.string s66) w12 ∧
    (∃ s67 : ByteArray, (convert 22 9 (.slice A62 n63 n64)).run Tryd.prog w12 = .ok (.string s67) w12 ∧
    ((((s66).toList == (s67).toList) = false →
    (R (.returned (.bool false)) w12)) ∧
    (((s66).toList == (s67).toList) = true →
    ((¬ i52 = i65 →
     (R (.returned (.bool false)) w12)) ∧
     (i52 = i65 →
     (I0 b38 (IntKind.i64.wrap (i39 + (1 : Int))) w12 ∧ M0 b38 (IntKind.i64.wrap (i39 + (1 : Int))) w12 < M0 b38 i39 w10)))))))))))))) ∧
   ((n8 : Int) ≤ i39 →
   (
    Calls Tryd.prog 30 #[(.slice A7 n8 n9)] w10 fun r w11 => ∃ s40 : ByteArray, ∃ i41 : Int, r = .returned (.tuple #[.string s40, .int .i64 i41]) ∧ (Go.Sx.Fr S w0 w11 ∧ Go.Sx.Mild [g36, g35, g34, g25, g13] w10 w11) ∧ 
    (
    Calls Tryd.prog 31 #[(.slice A7 n8 n9)] w11 fun r w12 => ∃ s42 : ByteArray, ∃ i43 : Int, r = .returned (.tuple #[.string s42, .int .i64 i43]) ∧ (Go.Sx.Fr S w0 w12 ∧ Go.Sx.Mild [g36, g35, g34, g25, g13] w11 w12) ∧ 
    ((b6 = true →
    ((b37 = true →
     ((i24 = i33 →
      (((s40).toList = (s42).toList →
       (R (.returned (.bool (i41 == i43))) w12)) ∧
       (¬ (s40).toList = (s42).toList →
       (R (.returned (.bool false)) w12)))) ∧
      (¬ i24 = i33 →
      (R (.returned (.bool false)) w12)))) ∧
     (b37 = false →
     (R (.returned (.bool false)) w12)))) ∧
    (b6 = false →
    (R (.returned (.bool false)) w12)))))))))))))) ∧
 ((n4 : Int) ≤ (600 : Int) →
 ∀ g10 : Nat, w0.heap.size ≤ g10 → (∀ w3 : World, Go.Sx.Fr S w0 w3 → Below w2.heap.size w2 w3 → w2.heap.size ≤ g10 → w3.heap[g10]? = some (.cells #[] 5 (0, 0)) → 
  ∃ w4 : World, ∃ A11 : Option Addr, ∃ n12 : Nat, ∃ n13 : Nat, (Builtin.append_ #[22, 22] 22 #[(.slice (some ⟨g10, 0, none⟩) 0 0), (.slice A3 n4 n5)]).run Tryd.prog w3 = .ok (.slice A11 n12 n13) w4 ∧ (Go.Sx.Fr S w0 w4 ∧ Go.Sx.Mild [g10] w3 w4) ∧ 
  (
  Calls Tryd.prog 25 #[(.slice A11 n12 n13)] w4 fun r w5 => ∃ i14 : Int, ∃ i15 : Int, ∃ i16 : Int, ∃ i17 : Int, ∃ A18 : Option Addr, ∃ n19 : Nat, ∃ n20 : Nat, ∃ i21 : Int, r = .returned (.tuple #[.agg #[.int .i64 i14, .int .i64 i15, .int .i64 i16, .int .i64 i17, .slice A18 n19 n20], .int .i64 i21]) ∧ (Go.Sx.Fr S w0 w5 ∧ Go.Sx.Mild [g10] w4 w5) ∧ 
  ∀ g22 : Nat, w0.heap.size ≤ g22 → (∀ w6 : World, Go.Sx.Fr S w0 w6 → Below w5.heap.size w5 w6 → w5.heap.size ≤ g22 → w6.heap[g22]? = some (.cells #[.int .i64 i14, .int .i64 i15, .int .i64 i16, .int .i64 i17, .slice A18 n19 n20] 54 (0, 0)) → 
  Calls Tryd.prog 26 #[(.slice A3 n4 n5)] w6 fun r w7 => ∃ i23 : Int, ∃ i24 : Int, ∃ i25 : Int, ∃ i26 : Int, ∃ A27 : Option Addr, ∃ n28 : Nat, ∃ n29 : Nat, ∃ i30 : Int, r = .returned (.tuple #[.agg #[.int .i64 i23, .int .i64 i24, .int .i64 i25, .int .i64 i26, .slice A27 n28 n29], .int .i64 i30]) ∧ (Go.Sx.Fr S w0 w7 ∧ Go.Sx.Mild [g22, g10] w6 w7) ∧ 
  ∀ g31 : Nat, w0.heap.size ≤ g31 → ∀ g32 : Nat, w0.heap.size ≤ g32 → ∀ g33 : Nat, w0.heap.size ≤ g33 → (∀ w8 : World, Go.Sx.Fr S w0 w8 → Below w7.heap.size w7 w8 → w7.heap.size ≤ g33 → w8.heap[g33]? = some (.cells #[.int .i64 i23, .int .i64 i24, .int .i64 i25, .int .i64 i26, .slice A27 n28 n29] 54 (0, 0)) → w7.heap.size ≤ g32 → w8.heap[g32]? = some (.cells #[.int .i64 i14, .int .i64 i15, .int .i64 i16, .int .i64 i17, .slice A18 n19 n20] 54 (0, 0)) → w7.heap.size ≤ g31 → w8.heap[g31]? = some (.cells #[.int .i64 i23, .int .i64 i24, .int .i64 i25, .int .i64 i26, .slice A27 n28 n29] 54 (0, 0)) → 
  Calls Tryd.prog 27 #[(.slice (some ⟨g32, 0, none⟩) 1 1), (.slice (some ⟨g33, 0, none⟩) 1 1)] w8 fun r w9 => ∃ b34 : Bool, r = .returned (.bool b34) ∧ (Go.Sx.Fr S w0 w9 ∧ Go.Sx.Mild [g33, g32, g31, g22, g10] w8 w9) ∧ 
  (∃ (I0 : Bool → Int → World → Prop) (M0 : Bool → Int → World → Nat), (I0 false (0 : Int) w9) ∧
  ∀ b35 : Bool, ∀ i36 : Int, ∀ w10 : World, Go.Sx.Fr S w0 w10 → I0 b35 i36 w10 → 
   ((i36 < (n8 : Int) →
   ((0 : Int) ≤ i36 ∧ i36 < (n8 : Int) ∧ ∃ p37 : Nat, ∃ o38 : Nat, A7 = some ⟨p37, o38, none⟩ ∧
    (∃ i39 : Int, ∃ i40 : Int, ∃ i41 : Int, ∃ i42 : Int, ∃ A43 : Option Addr, ∃ n44 : Nat, ∃ n45 : Nat, Go.Sx.CellsAt w10 p37 (o38 + (i36).toNat * 5 + 0) [.int .i64 i39, .int .i64 i40, .int .i64 i41, .int .i64 i42, .slice A43 n44 n45] ∧ 
    (
    Calls Tryd.prog 28 #[(.agg #[.int .i64 i39, .int .i64 i40, .int .i64 i41, .int .i64 i42, .slice A43 n44 n45])] w10 fun r w11 => ∃ A46 : Option Addr, ∃ n47 : Nat, ∃ n48 : Nat, ∃ i49 : Int, r = .returned (.tuple #[.slice A46 n47 n48, .int .i64 i49]) ∧ (Go.Sx.Fr S w0 w11 ∧ Go.Sx.Mild [g33, g32, g31, g22, g10] w10 w11) ∧ 
    ((0 : Int) ≤ i36 ∧ i36 < (n8 : Int) ∧ ∃ p50 : Nat, ∃ o51 : Nat, A7 = some ⟨p50, o51, none⟩ ∧
    (∃ i52 : Int, ∃ i53 : Int, ∃ i54 : Int, ∃ i55 : Int, ∃ A56 : Option Addr, ∃ n57 : Nat, ∃ n58 : Nat, Go.Sx.CellsAt w11 p50 (o51 + (i36).toNat * 5 + 0) [.int .i64 i52, .int .i64 i53, .int .i64 i54, .int .i64 i55, .slice A56 n57 n58] ∧ 
    (
    Calls Tryd.prog 29 #[(.agg #[.int .i64 i52, .int .i64 i53, .int .i64 i54, .int .i64 i55, .slice A56 n57 n58])] w11 fun r w12 => ∃ A59 : Option Addr, ∃ n60 : Nat, ∃ n61 : Nat, ∃ i62 : Int, r = .returned (.tuple #[.slice A59 n60 n61, .int .i64 i62]) ∧ (Go.Sx.Fr S w0 w12 ∧ Go.Sx.Mild [g33, g32, g31, g22, g10] w11 w12) ∧ 
    (∃ s63 : ByteArray, (convert 22 9 (.slice A46 n47 n48)).run Tryd.prog w12 = .ok (.string s63) w12 ∧
    (∃ s64 : ByteArray, (convert 22 9 (.slice A59 n60 n61)).run Tryd.prog w12 = .ok (.string s64) w12 ∧
    ((((s63).toList == (s64).toList) = false →
    (R (.returned (.bool false)) w12)) ∧
    (((s63).toList == (s64).toList) = true →
    ((¬ i49 = i62 →
     (R (.returned (.bool false)) w12)) ∧
     (i49 = i62 →
     (I0 b35 (IntKind.i64.wrap (i36 + (1 : Int))) w12 ∧ M0 b35 (IntKind.i64.wrap (i36 + (1 : Int))) w12 < M0 b35 i36 w10)))))))))))))) ∧
   ((n8 : Int) ≤ i36 →
   (
    Calls Tryd.prog 30 #[(.slice A7 n8 n9)] w10 fun r w11 => ∃ s37 : ByteArray, ∃ i38 : Int, r = .returned (.tuple #[.string s37, .int .i64 i38]) ∧ (Go.Sx.Fr S w0 w11 ∧ Go.Sx.Mild [g33, g32, g31, g22, g10] w10 w11) ∧ 
    (
    Calls Tryd.prog 31 #[(.slice A7 n8 n9)] w11 fun r w12 => ∃ s39 : ByteArray, ∃ i40 : Int, r = .returned (.tuple #[.string s39, .int .i64 i40]) ∧ (Go.Sx.Fr S w0 w12 ∧ Go.Sx.Mild [g33, g32, g31, g22, g10] w11 w12) ∧ 
    ((b6 = true →
    ((b34 = true →
     ((i21 = i30 →
      (((s37).toList = (s39).toList →
       (R (.returned (.bool (i38 == i40))) w12)) ∧
       (¬ (s37).toList = (s39).toList →
       (R (.returned (.bool false)) w12)))) ∧
      (¬ i21 = i30 →
      (R (.returned (.bool false)) w12)))) ∧
     (b34 = false →
     (R (.returned (.bool false)) w12)))) ∧
    (b6 = false →
    (R (.returned (.bool false)) w12))))))))))))))))) :
    Calls Tryd.prog 9 #[(.slice A0 n1 n2), (.slice A3 n4 n5)] w0 R :=
  Go.Sx.fn_sound0 (P := Tryd.prog) (S := S) (w0 := w0) (R := R) (ws := []) (an := [⟨999999, [], [], 0⟩, ⟨999998, [], [], 0⟩]) (f := 9) (n := 6) (xs := [.one (.slice (.var 0) (.var 1) (.var 2)), .one (.slice (.var 3) (.var 4) (.var 5))]) (e := [.a A0, .n n1, .n n2, .a A3, .n n4, .n n5]) rfl (by kernel_rfl) (Eq.mp (by kernel_rfl) h)


end Go.Proofs.YtfjenamomipmdaaDoor
