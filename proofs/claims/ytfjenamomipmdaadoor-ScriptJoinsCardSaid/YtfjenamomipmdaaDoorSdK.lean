/- Script: what is left of ScriptBack. -/
import Derived.Test.YtfjenamomipmdaaDoorProg
import Derived.Test.YtfjenamomipmdaaDoorSs
import Derived.KernelRfl
set_option linter.unusedVariables false
namespace Go.Proofs.YtfjenamomipmdaaDoor
open Go Go.RowKit Go.Proofs Go.Trc
set_option maxRecDepth 100000
/-- tracery/tracerylaw23.ScriptBack: what is left of it. -/
theorem scBack_sx (R : Ending → World → Prop) (S : Nat → Prop) (w0 : World) (A0 : Option Addr) (n1 : Nat) (n2 : Nat) (s3 : ByteArray) (h :
 (
 Calls Tryd.prog 23 #[] w0 fun r w1 => ∃ b4 : Bool, r = .returned (.bool b4) ∧ (Go.Sx.Fr S w0 w1 ∧ Go.Sx.Mild [] w0 w1) ∧ 
 (
 Calls Tryd.prog 24 #[(.slice A0 n1 n2)] w1 fun r w2 => ∃ A5 : Option Addr, ∃ n6 : Nat, ∃ n7 : Nat, r = .returned (.slice A5 n6 n7) ∧ (Go.Sx.Fr S w0 w2 ∧ Go.Sx.Mild [] w1 w2) ∧ 
 ∀ g8 : Nat, w0.heap.size ≤ g8 → (∃ (I0 : Option Addr → Nat → Nat → Int → World → Prop) (M0 : Option Addr → Nat → Nat → Int → World → Nat), (∀ w3 : World, Go.Sx.Fr S w0 w3 → Below w2.heap.size w2 w3 → w2.heap.size ≤ g8 → w3.heap[g8]? = some (.cells #[] 54 (0, 0)) → I0 (some ⟨g8, 0, none⟩) 0 0 (0 : Int) w3) ∧
 ∀ A9 : Option Addr, ∀ n10 : Nat, ∀ n11 : Nat, ∀ i12 : Int, ∀ w4 : World, Go.Sx.Fr S w0 w4 → I0 A9 n10 n11 i12 w4 → 
  ((i12 < (n6 : Int) →
  ((0 : Int) ≤ i12 ∧ i12 < (n6 : Int) ∧ ∃ p13 : Nat, ∃ o14 : Nat, A5 = some ⟨p13, o14, none⟩ ∧
   (∃ i15 : Int, ∃ i16 : Int, ∃ i17 : Int, ∃ i18 : Int, ∃ A19 : Option Addr, ∃ n20 : Nat, ∃ n21 : Nat, Go.Sx.CellsAt w4 p13 (o14 + (i12).toNat * 5 + 0) [.int .i64 i15, .int .i64 i16, .int .i64 i17, .int .i64 i18, .slice A19 n20 n21] ∧ 
   (
   Calls Tryd.prog 28 #[(.agg #[.int .i64 i15, .int .i64 i16, .int .i64 i17, .int .i64 i18, .slice A19 n20 n21])] w4 fun r w5 => ∃ A22 : Option Addr, ∃ n23 : Nat, ∃ n24 : Nat, ∃ i25 : Int, r = .returned (.tuple #[.slice A22 n23 n24, .int .i64 i25]) ∧ (Go.Sx.Fr S w0 w5 ∧ Go.Sx.Mild [g8] w4 w5) ∧ 
   ((i25 = (0 : Int) →
   ((0 : Int) ≤ i12 ∧ i12 < (n6 : Int) ∧ ∃ p26 : Nat, ∃ o27 : Nat, A5 = some ⟨p26, o27, none⟩ ∧
    (∃ i28 : Int, ∃ i29 : Int, ∃ i30 : Int, ∃ i31 : Int, ∃ A32 : Option Addr, ∃ n33 : Nat, ∃ n34 : Nat, Go.Sx.CellsAt w5 p26 (o27 + (i12).toNat * 5 + 0) [.int .i64 i28, .int .i64 i29, .int .i64 i30, .int .i64 i31, .slice A32 n33 n34] ∧ 
    ∀ g35 : Nat, w0.heap.size ≤ g35 → (∀ w6 : World, Go.Sx.Fr S w0 w6 → Below w5.heap.size w5 w6 → w5.heap.size ≤ g35 → w6.heap[g35]? = some (.cells #[.int .i64 i28, .int .i64 i29, .int .i64 i30, .int .i64 i31, .slice A32 n33 n34] 54 (0, 0)) → 
    ∃ w7 : World, ∃ A36 : Option Addr, ∃ n37 : Nat, ∃ n38 : Nat, (Builtin.append_ #[51, 51] 51 #[(.slice A9 n10 n11), (.slice (some ⟨g35, 0, none⟩) 1 1)]).run Tryd.prog w6 = .ok (.slice A36 n37 n38) w7 ∧ (Go.Sx.Fr S w0 w7 ∧ Go.Sx.Mild [g35, g8] w6 w7) ∧ 
    (I0 A36 n37 n38 (IntKind.i64.wrap (i12 + (1 : Int))) w7 ∧ M0 A36 n37 n38 (IntKind.i64.wrap (i12 + (1 : Int))) w7 < M0 A9 n10 n11 i12 w4))))) ∧
   (¬ i25 = (0 : Int) →
   (I0 A9 n10 n11 (IntKind.i64.wrap (i12 + (1 : Int))) w5 ∧ M0 A9 n10 n11 (IntKind.i64.wrap (i12 + (1 : Int))) w5 < M0 A9 n10 n11 i12 w4))))))) ∧
  ((n6 : Int) ≤ i12 →
  (((3000 : Int) < ((s3).size : Int) →
   (∃ s13 : ByteArray, (Instr.sliceAt 9 (.string s3) none (some (.int .i64 (3000 : Int))) none).run Tryd.prog w4 = .ok (.string s13) w4 ∧
    (
    Calls Tryd.prog 30 #[(.slice A9 n10 n11)] w4 fun r w5 => ∃ s14 : ByteArray, ∃ i15 : Int, r = .returned (.tuple #[.string s14, .int .i64 i15]) ∧ (Go.Sx.Fr S w0 w5 ∧ Go.Sx.Mild [g8] w4 w5) ∧ 
    ((¬ i15 = (0 : Int) →
    (R (.returned (.bool false)) w5)) ∧
    (i15 = (0 : Int) →
    ((((s14).size : Int) ≤ (65536 : Int) →
     (
      Calls Tryd.prog 32 #[(.string s14)] w5 fun r w6 => ∃ A16 : Option Addr, ∃ n17 : Nat, ∃ n18 : Nat, ∃ i19 : Int, ∃ i20 : Int, r = .returned (.tuple #[.slice A16 n17 n18, .int .i64 i19, .int .i64 i20]) ∧ (Go.Sx.Fr S w0 w6 ∧ Go.Sx.Mild [g8] w5 w6) ∧ 
      (
      Calls Tryd.prog 27 #[(.slice A9 n10 n11), (.slice A16 n17 n18)] w6 fun r w7 => ∃ b21 : Bool, r = .returned (.bool b21) ∧ (Go.Sx.Fr S w0 w7 ∧ Go.Sx.Mild [g8] w6 w7) ∧ 
      ((¬ i20 = (0 : Int) →
      (R (.returned (.bool false)) w7)) ∧
      (i20 = (0 : Int) →
      ((¬ i19 = (0 : Int) →
       (R (.returned (.bool false)) w7)) ∧
       (i19 = (0 : Int) →
       ((b21 = false →
        (R (.returned (.bool false)) w7)) ∧
        (b21 = true →
        (
         Calls Tryd.prog 32 #[(.string s13)] w7 fun r w8 => ∃ A22 : Option Addr, ∃ n23 : Nat, ∃ n24 : Nat, ∃ i25 : Int, ∃ i26 : Int, r = .returned (.tuple #[.slice A22 n23 n24, .int .i64 i25, .int .i64 i26]) ∧ (Go.Sx.Fr S w0 w8 ∧ Go.Sx.Mild [g8] w7 w8) ∧ 
         ((¬ i26 = (0 : Int) →
         ((b4 = true →
          (R (.returned (.bool ((n23 : Int) == (0 : Int)))) w8)) ∧
          (b4 = false →
          (R (.returned (.bool false)) w8)))) ∧
         (i26 = (0 : Int) →
         (
          Calls Tryd.prog 30 #[(.slice A22 n23 n24)] w8 fun r w9 => ∃ s27 : ByteArray, ∃ i28 : Int, r = .returned (.tuple #[.string s27, .int .i64 i28]) ∧ (Go.Sx.Fr S w0 w9 ∧ Go.Sx.Mild [g8] w8 w9) ∧ 
          ((b4 = true →
          ((i28 = (0 : Int) →
           (R (.returned (.bool ((s27).toList == (s13).toList))) w9)) ∧
           (¬ i28 = (0 : Int) →
           (R (.returned (.bool false)) w9)))) ∧
          (b4 = false →
          (R (.returned (.bool false)) w9)))))))))))))))) ∧
     ((65536 : Int) < ((s14).size : Int) →
     (
      Calls Tryd.prog 32 #[(.string s13)] w5 fun r w6 => ∃ A16 : Option Addr, ∃ n17 : Nat, ∃ n18 : Nat, ∃ i19 : Int, ∃ i20 : Int, r = .returned (.tuple #[.slice A16 n17 n18, .int .i64 i19, .int .i64 i20]) ∧ (Go.Sx.Fr S w0 w6 ∧ Go.Sx.Mild [g8] w5 w6) ∧ 
      ((¬ i20 = (0 : Int) →
      ((b4 = true →
       (R (.returned (.bool ((n17 : Int) == (0 : Int)))) w6)) ∧
       (b4 = false →
       (R (.returned (.bool false)) w6)))) ∧
      (i20 = (0 : Int) →
      (
       Calls Tryd.prog 30 #[(.slice A16 n17 n18)] w6 fun r w7 => ∃ s21 : ByteArray, ∃ i22 : Int, r = .returned (.tuple #[.string s21, .int .i64 i22]) ∧ (Go.Sx.Fr S w0 w7 ∧ Go.Sx.Mild [g8] w6 w7) ∧ 
       ((b4 = true →
       ((i22 = (0 : Int) →
        (R (.returned (.bool ((s21).toList == (s13).toList))) w7)) ∧
        (¬ i22 = (0 : Int) →
        (R (.returned (.bool false)) w7)))) ∧
       (b4 = false →
       (R (.returned (.bool false)) w7)))))))))))))) ∧
   (((s3).size : Int) ≤ (3000 : Int) →
   (
    Calls Tryd.prog 30 #[(.slice A9 n10 n11)] w4 fun r w5 => ∃ s13 : ByteArray, ∃ i14 : Int, r = .returned (.tuple #[.string s13, .int .i64 i14]) ∧ (Go.Sx.Fr S w0 w5 ∧ Go.Sx.Mild [g8] w4 w5) ∧ 
    ((¬ i14 = (0 : Int) →
    (R (.returned (.bool false)) w5)) ∧
    (i14 = (0 : Int) →
    ((((s13).size : Int) ≤ (65536 : Int) →
     (
      Calls Tryd.prog 32 #[(.string s13)] w5 fun r w6 => ∃ A15 : Option Addr, ∃ n16 : Nat, ∃ n17 : Nat, ∃ i18 : Int, ∃ i19 : Int, r = .returned (.tuple #[.slice A15 n16 n17, .int .i64 i18, .int .i64 i19]) ∧ (Go.Sx.Fr S w0 w6 ∧ Go.Sx.Mild [g8] w5 w6) ∧ 
      (
      Calls Tryd.prog 27 #[(.slice A9 n10 n11), (.slice A15 n16 n17)] w6 fun r w7 => ∃ b20 : Bool, r = .returned (.bool b20) ∧ (Go.Sx.Fr S w0 w7 ∧ Go.Sx.Mild [g8] w6 w7) ∧ 
      ((¬ i19 = (0 : Int) →
      (R (.returned (.bool false)) w7)) ∧
      (i19 = (0 : Int) →
      ((¬ i18 = (0 : Int) →
       (R (.returned (.bool false)) w7)) ∧
       (i18 = (0 : Int) →
       ((b20 = false →
        (R (.returned (.bool false)) w7)) ∧
        (b20 = true →
        (
         Calls Tryd.prog 32 #[(.string s3)] w7 fun r w8 => ∃ A21 : Option Addr, ∃ n22 : Nat, ∃ n23 : Nat, ∃ i24 : Int, ∃ i25 : Int, r = .returned (.tuple #[.slice A21 n22 n23, .int .i64 i24, .int .i64 i25]) ∧ (Go.Sx.Fr S w0 w8 ∧ Go.Sx.Mild [g8] w7 w8) ∧ 
         ((¬ i25 = (0 : Int) →
         ((b4 = true →
          (R (.returned (.bool ((n22 : Int) == (0 : Int)))) w8)) ∧
          (b4 = false →
          (R (.returned (.bool false)) w8)))) ∧
         (i25 = (0 : Int) →
         (
          Calls Tryd.prog 30 #[(.slice A21 n22 n23)] w8 fun r w9 => ∃ s26 : ByteArray, ∃ i27 : Int, r = .returned (.tuple #[.string s26, .int .i64 i27]) ∧ (Go.Sx.Fr S w0 w9 ∧ Go.Sx.Mild [g8] w8 w9) ∧ 
          ((b4 = true →
          ((i27 = (0 : Int) →
           (R (.returned (.bool ((s26).toList == (s3).toList))) w9)) ∧
           (¬ i27 = (0 : Int) →
           (R (.returned (.bool false)) w9)))) ∧
          (b4 = false →
          (R (.returned (.bool false)) w9)))))))))))))))) ∧
     ((65536 : Int) < ((s13).size : Int) →
     (
      Calls Tryd.prog 32 #[(.string s3)] w5 fun r w6 => ∃ A15 : Option Addr, ∃ n16 : Nat, ∃ n17 : Nat, ∃ i18 : Int, ∃ i19 : Int, r = .returned (.tuple #[.slice A15 n16 n17, .int .i64 i18, .int .i64 i19]) ∧ (Go.Sx.Fr S w0 w6 ∧ Go.Sx.Mild [g8] w5 w6) ∧ 
      ((¬ i19 = (0 : Int) →
      ((b4 = true →
       (R (.returned (.bool ((n16 : Int) == (0 : Int)))) w6)) ∧
       (b4 = false →
       (R (.returned (.bool false)) w6)))) ∧
      (i19 = (0 : Int) →
      (
       Calls Tryd.prog 30 #[(.slice A15 n16 n17)] w6 fun r w7 => ∃ s20 : ByteArray, ∃ i21 : Int, r = .returned (.tuple #[.string s20, .int .i64 i21]) ∧ (Go.Sx.Fr S w0 w7 ∧ Go.Sx.Mild [g8] w6 w7) ∧ 
       ((b4 = true →
       ((i21 = (0 : Int) →
        (R (.returned (.bool ((s20).toList == (s3).toList))) w7)) ∧
        (¬ i21 = (0 : Int) →
        (R (.returned (.bool false)) w7)))) ∧
       (b4 = false →
       (R (.returned (.bool false)) w7)))))))))))))))))))) :
    Calls Tryd.prog 12 #[(.slice A0 n1 n2), (.string s3)] w0 R :=
  Go.Sx.fn_sound0 (P := Tryd.prog) (S := S) (w0 := w0) (R := R) (ws := []) (an := [⟨999999, [], [], 0⟩, ⟨999998, [], [], 0⟩]) (f := 12) (n := 4) (xs := [.one (.slice (.var 0) (.var 1) (.var 2)), .one (.str (.var 3))]) (e := [.a A0, .n n1, .n n2, .s s3]) rfl (by kernel_rfl) (Eq.mp (by kernel_rfl) h)


end Go.Proofs.YtfjenamomipmdaaDoor
