/- Script: what is left of slices.Chunk. -/
import Derived.Test.YtfjenamomipmdaaDoorProg
import Derived.Test.YtfjenamomipmdaaDoorSs
import Derived.KernelRfl
set_option linter.unusedVariables false
namespace Go.Proofs.YtfjenamomipmdaaDoor
open Go Go.RowKit Go.Proofs Go.Trc
set_option maxRecDepth 100000
/-- slices.Chunk[[]byte,byte]: what is left of it. -/
theorem chunk_sx (R : Ending → World → Prop) (S : Nat → Prop) (w0 : World) (A0 : Option Addr) (n1 : Nat) (n2 : Nat) (i3 : Int) (h :
 ∀ g4 : Nat, w0.heap.size ≤ g4 → ∀ g5 : Nat, w0.heap.size ≤ g5 → ((i3 < (1 : Int) →
 False) ∧
 ((1 : Int) ≤ i3 →
 (∀ w1 : World, Go.Sx.Fr S w0 w1 → Below w0.heap.size w0 w1 → w0.heap.size ≤ g5 → w1.heap[g5]? = some (.cells #[.int .i64 i3] 3 (0, 0)) → w0.heap.size ≤ g4 → w1.heap[g4]? = some (.cells #[.slice A0 n1 n2] 22 (0, 0)) → ∃ v6 : Value, (Instr.makeFunc (.func 104) #[] #[(.pointer (some ⟨g4, 0, none⟩)), (.pointer (some ⟨g5, 0, none⟩))]).run Tryd.prog w1 = .ok (v6) w1 ∧
  (R (.returned (v6)) w1))))) :
    Calls Tryd.prog 84 #[(.slice A0 n1 n2), (.int .i64 i3)] w0 R :=
  Go.Sx.fn_sound0 (P := Tryd.prog) (S := S) (w0 := w0) (R := R) (ws := []) (an := [⟨999999, [], [], 0⟩]) (f := 84) (n := 4) (xs := [.one (.slice (.var 0) (.var 1) (.var 2)), .one (.int .i64 (.var 3))]) (e := [.a A0, .n n1, .n n2, .i i3]) rfl (by kernel_rfl) (Eq.mp (by kernel_rfl) h)


end Go.Proofs.YtfjenamomipmdaaDoor


/- Script: what is left of Parse and what it calls. -/
set_option linter.unusedVariables false
namespace Go.Proofs.YtfjenamomipmdaaDoor
open Go Go.RowKit Go.Proofs Go.Trc
set_option maxRecDepth 100000
/-- tracery/traceryref23.digit: what is left of it. -/
theorem refDigit_sx (R : Ending → World → Prop) (S : Nat → Prop) (w0 : World) (i0 : Int) (h :
 (∃ (I0 : Int → Int → World → Prop) (M0 : Int → Int → World → Nat), (I0 (0 : Int) (0 : Int) w0) ∧
 ∀ i1 : Int, ∀ i2 : Int, ∀ w1 : World, Go.Sx.Fr S w0 w1 → I0 i1 i2 w1 → 
  ((i2 < (16 : Int) →
  (∃ i3 : Int, (Instr.index 9 (.string (⟨#[48, 49, 50, 51, 52, 53, 54, 55, 56, 57, 97, 98, 99, 100, 101, 102]⟩ : ByteArray)) (.int .i64 i2)).run Tryd.prog w1 = .ok (.int .u8 i3) w1 ∧
   ((i3 = i0 →
   (R (.returned (.int .u8 (IntKind.u8.wrap i2))) w1)) ∧
   (¬ i3 = i0 →
   (I0 i1 (IntKind.i64.wrap (i2 + (1 : Int))) w1 ∧ M0 i1 (IntKind.i64.wrap (i2 + (1 : Int))) w1 < M0 i1 i2 w1))))) ∧
  ((16 : Int) ≤ i2 →
  (R (.returned (.int .u8 (0 : Int))) w1))))) :
    Calls Tryd.prog 86 #[(.int .u8 i0)] w0 R :=
  Go.Sx.fn_sound0 (P := Tryd.prog) (S := S) (w0 := w0) (R := R) (ws := []) (an := [⟨999999, [], [], 0⟩]) (f := 86) (n := 1) (xs := [.one (.int .u8 (.var 0))]) (e := [.i i0]) rfl (by kernel_rfl) (Eq.mp (by kernel_rfl) h)


/-- tracery/traceryref23.line: what is left of it. -/
theorem refLine_sx (R : Ending → World → Prop) (S : Nat → Prop) (w0 : World) (s0 : ByteArray) (h :
 ∀ g1 : Nat, w0.heap.size ≤ g1 → ∀ g2 : Nat, w0.heap.size ≤ g2 → (∃ (I0 : Option Addr → Nat → Nat → Int → World → Prop) (M0 : Option Addr → Nat → Nat → Int → World → Nat), (∀ w1 : World, Go.Sx.Fr S w0 w1 → Below w0.heap.size w0 w1 → w0.heap.size ≤ g2 → w1.heap[g2]? = some (.cells #[] 5 (0, 0)) → w0.heap.size ≤ g1 → w1.heap[g1]? = some (.cells #[.int .i64 (0 : Int), .int .i64 (0 : Int), .int .i64 (0 : Int), .int .i64 (0 : Int), .slice none 0 0] 54 (0, 0)) → I0 (some ⟨g2, 0, none⟩) 0 0 (0 : Int) w1) ∧
 ∀ A3 : Option Addr, ∀ n4 : Nat, ∀ n5 : Nat, ∀ i6 : Int, ∀ w2 : World, Go.Sx.Fr S w0 w2 → I0 A3 n4 n5 i6 w2 → 
  (((IntKind.i64.wrap (i6 + (1 : Int))) < ((s0).size : Int) →
  (
   (∀ w3 : World, Go.Sx.Fr S w0 w3 → Below w2.heap.size w2 w3 → ∃ i8 : Int, (∀ w', Go.Sx.Keep w2.heap.size [] w3 w' → (Instr.index 9 (.string s0) (.int .i64 i6)).run Tryd.prog w' = .ok (.int .u8 i8) w') ∧
   (((
   Calls Tryd.prog 86 #[(.int .u8 i8)] w3 fun r w4 => ∃ i9 : Int, r = .returned (.int .u8 i9) ∧ (Go.Sx.Fr S w0 w4 ∧ Go.Sx.Mild [g2, g1] w3 w4) ∧ 
   (∃ i10 : Int, (Instr.index 9 (.string s0) (.int .i64 (IntKind.i64.wrap (i6 + (1 : Int))))).run Tryd.prog w4 = .ok (.int .u8 i10) w4 ∧
   (
   Calls Tryd.prog 86 #[(.int .u8 i10)] w4 fun r w5 => ∃ i11 : Int, r = .returned (.int .u8 i11) ∧ (Go.Sx.Fr S w0 w5 ∧ Go.Sx.Mild [g2, g1] w4 w5) ∧ 
   ∀ g12 : Nat, w0.heap.size ≤ g12 → (∀ w6 : World, Go.Sx.Fr S w0 w6 → Below w5.heap.size w5 w6 → w5.heap.size ≤ g12 → w6.heap[g12]? = some (.cells #[.int .u8 (IntKind.u8.wrap ((IntKind.u8.wrap ((16 : Int) * i9)) + i11))] 5 (0, 0)) → 
   ∃ w7 : World, ∃ A13 : Option Addr, ∃ n14 : Nat, ∃ n15 : Nat, (Builtin.append_ #[22, 22] 22 #[(.slice A3 n4 n5), (.slice (some ⟨g12, 0, none⟩) 1 1)]).run Tryd.prog w6 = .ok (.slice A13 n14 n15) w7 ∧ (Go.Sx.Fr S w0 w7 ∧ Go.Sx.Mild [g12, g2, g1] w6 w7) ∧ 
   (I0 A13 n14 n15 (IntKind.i64.wrap (i6 + (2 : Int))) w7 ∧ M0 A13 n14 n15 (IntKind.i64.wrap (i6 + (2 : Int))) w7 < M0 A3 n4 n5 i6 w2)))))) ∧
   ((∃ i9 : Int, (∀ w', Go.Sx.Keep w2.heap.size [] w3 w' → (Instr.index 9 (.string s0) (.int .i64 (IntKind.i64.wrap (i6 + (1 : Int))))).run Tryd.prog w' = .ok (.int .u8 i9) w') ∧
   (
   Calls Tryd.prog 86 #[(.int .u8 i8)] w3 fun r w4 => ∃ i10 : Int, r = .returned (.int .u8 i10) ∧ (Go.Sx.Fr S w0 w4 ∧ Go.Sx.Mild [g2, g1] w3 w4) ∧ 
   (
   Calls Tryd.prog 86 #[(.int .u8 i9)] w4 fun r w5 => ∃ i11 : Int, r = .returned (.int .u8 i11) ∧ (Go.Sx.Fr S w0 w5 ∧ Go.Sx.Mild [g2, g1] w4 w5) ∧ 
   ∀ g12 : Nat, w0.heap.size ≤ g12 → (∀ w6 : World, Go.Sx.Fr S w0 w6 → Below w5.heap.size w5 w6 → w5.heap.size ≤ g12 → w6.heap[g12]? = some (.cells #[.int .u8 (IntKind.u8.wrap ((IntKind.u8.wrap ((16 : Int) * i10)) + i11))] 5 (0, 0)) → 
   ∃ w7 : World, ∃ A13 : Option Addr, ∃ n14 : Nat, ∃ n15 : Nat, (Builtin.append_ #[22, 22] 22 #[(.slice A3 n4 n5), (.slice (some ⟨g12, 0, none⟩) 1 1)]).run Tryd.prog w6 = .ok (.slice A13 n14 n15) w7 ∧ (Go.Sx.Fr S w0 w7 ∧ Go.Sx.Mild [g12, g2, g1] w6 w7) ∧ 
   (I0 A13 n14 n15 (IntKind.i64.wrap (i6 + (2 : Int))) w7 ∧ M0 A13 n14 n15 (IntKind.i64.wrap (i6 + (2 : Int))) w7 < M0 A3 n4 n5 i6 w2)))))))))) ∧
  (((s0).size : Int) ≤ (IntKind.i64.wrap (i6 + (1 : Int))) →
  (
   Calls Tryd.prog 57 #[(.slice A3 n4 n5)] w2 fun r w3 => ∃ s7 : ByteArray, r = .returned (.string s7) ∧ (Go.Sx.Fr S w0 w3 ∧ Go.Sx.Mild [g2, g1] w2 w3) ∧ 
   ((((s7).toList == (s0).toList) = false →
   (∀ w4 : World, Go.Sx.Fr S w0 w4 → Go.Sx.Fr (fun b => b ∈ [g1]) w3 w4 → R (.returned (.tuple #[.agg #[.int .i64 (0 : Int), .int .i64 (0 : Int), .int .i64 (0 : Int), .int .i64 (0 : Int), .slice none 0 0], .int .i64 (240 : Int)])) w4)) ∧
   (((s7).toList == (s0).toList) = true →
   (
    Calls Tryd.prog 26 #[(.slice A3 n4 n5)] w3 fun r w4 => ∃ i8 : Int, ∃ i9 : Int, ∃ i10 : Int, ∃ i11 : Int, ∃ A12 : Option Addr, ∃ n13 : Nat, ∃ n14 : Nat, ∃ i15 : Int, r = .returned (.tuple #[.agg #[.int .i64 i8, .int .i64 i9, .int .i64 i10, .int .i64 i11, .slice A12 n13 n14], .int .i64 i15]) ∧ (Go.Sx.Fr S w0 w4 ∧ Go.Sx.Mild [g2, g1] w3 w4) ∧ 
    (∀ w5 : World, Go.Sx.Fr S w0 w5 → Go.Sx.Fr (fun b => b ∈ [g1]) w4 w5 → R (.returned (.tuple #[.agg #[.int .i64 i8, .int .i64 i9, .int .i64 i10, .int .i64 i11, .slice A12 n13 n14], .int .i64 i15])) w5))))))))) :
    Calls Tryd.prog 61 #[(.string s0)] w0 R :=
  Go.Sx.fn_sound0 (P := Tryd.prog) (S := S) (w0 := w0) (R := R) (ws := []) (an := [⟨999999, [], [], 0⟩]) (f := 61) (n := 1) (xs := [.one (.str (.var 0))]) (e := [.s s0]) rfl (by kernel_rfl) (Eq.mp (by kernel_rfl) h)


/-- tracery/traceryref23.Parse: what is left of it. -/
theorem refParse_sx (R : Ending → World → Prop) (S : Nat → Prop) (w0 : World) (s0 : ByteArray) (h :
 (∃ (I0 : Int → Int → World → Prop) (M0 : Int → Int → World → Nat), (I0 (0 : Int) (0 : Int) w0) ∧
 ∀ i1 : Int, ∀ i2 : Int, ∀ w1 : World, Go.Sx.Fr S w0 w1 → I0 i1 i2 w1 → 
  ((i2 < ((s0).size : Int) →
  (∃ i3 : Int, (Instr.index 9 (.string s0) (.int .i64 i2)).run Tryd.prog w1 = .ok (.int .u8 i3) w1 ∧
   ((i3 = (10 : Int) →
   (I0 (IntKind.i64.wrap (i1 + (1 : Int))) (IntKind.i64.wrap (i2 + (1 : Int))) w1 ∧ M0 (IntKind.i64.wrap (i1 + (1 : Int))) (IntKind.i64.wrap (i2 + (1 : Int))) w1 < M0 i1 i2 w1)) ∧
   (¬ i3 = (10 : Int) →
   (I0 i1 (IntKind.i64.wrap (i2 + (1 : Int))) w1 ∧ M0 i1 (IntKind.i64.wrap (i2 + (1 : Int))) w1 < M0 i1 i2 w1))))) ∧
  (((s0).size : Int) ≤ i2 →
  (((65536 : Int) < ((s0).size : Int) →
   (R (.returned (.tuple #[.slice none 0 0, .int .i64 (0 : Int), .int .i64 (3 : Int)])) w1)) ∧
   (((s0).size : Int) ≤ (65536 : Int) →
   (((2048 : Int) < i1 →
    (R (.returned (.tuple #[.slice none 0 0, .int .i64 (0 : Int), .int .i64 (3 : Int)])) w1)) ∧
    (i1 ≤ (2048 : Int) →
    ∀ g3 : Nat, w0.heap.size ≤ g3 → (∃ (I1 : Option Addr → Nat → Nat → Int → Int → Option Addr → Nat → Nat → Int → Int → World → Prop) (M1 : Option Addr → Nat → Nat → Int → Int → Option Addr → Nat → Nat → Int → Int → World → Nat), (∀ w2 : World, Go.Sx.Fr S w0 w2 → Below w1.heap.size w1 w2 → w1.heap.size ≤ g3 → w2.heap[g3]? = some (.cells #[] 54 (0, 0)) → I1 none 0 0 (0 : Int) (0 : Int) (some ⟨g3, 0, none⟩) 0 0 (0 : Int) (0 : Int) w2) ∧
     ∀ A4 : Option Addr, ∀ n5 : Nat, ∀ n6 : Nat, ∀ i7 : Int, ∀ i8 : Int, ∀ A9 : Option Addr, ∀ n10 : Nat, ∀ n11 : Nat, ∀ i12 : Int, ∀ i13 : Int, ∀ w3 : World, Go.Sx.Fr S w0 w3 → I1 A4 n5 n6 i7 i8 A9 n10 n11 i12 i13 w3 → 
      ((i13 < ((s0).size : Int) →
      (∃ i14 : Int, (Instr.index 9 (.string s0) (.int .i64 i13)).run Tryd.prog w3 = .ok (.int .u8 i14) w3 ∧
       ((¬ i14 = (10 : Int) →
       (I1 A4 n5 n6 i7 i8 A9 n10 n11 i12 (IntKind.i64.wrap (i13 + (1 : Int))) w3 ∧ M1 A4 n5 n6 i7 i8 A9 n10 n11 i12 (IntKind.i64.wrap (i13 + (1 : Int))) w3 < M1 A4 n5 n6 i7 i8 A9 n10 n11 i12 i13 w3)) ∧
       (i14 = (10 : Int) →
       (∃ s15 : ByteArray, (Instr.sliceAt 9 (.string s0) (some (.int .i64 i12)) (some (.int .i64 i13)) none).run Tryd.prog w3 = .ok (.string s15) w3 ∧
        (
        Calls Tryd.prog 61 #[(.string s15)] w3 fun r w4 => ∃ i16 : Int, ∃ i17 : Int, ∃ i18 : Int, ∃ i19 : Int, ∃ A20 : Option Addr, ∃ n21 : Nat, ∃ n22 : Nat, ∃ i23 : Int, r = .returned (.tuple #[.agg #[.int .i64 i16, .int .i64 i17, .int .i64 i18, .int .i64 i19, .slice A20 n21 n22], .int .i64 i23]) ∧ (Go.Sx.Fr S w0 w4 ∧ Go.Sx.Mild [g3] w3 w4) ∧ 
        ∀ g24 : Nat, w0.heap.size ≤ g24 → ((¬ i23 = (0 : Int) →
        (∀ w5 : World, Go.Sx.Fr S w0 w5 → Below w4.heap.size w4 w5 → w4.heap.size ≤ g24 → w5.heap[g24]? = some (.cells #[.int .i64 i16, .int .i64 i17, .int .i64 i18, .int .i64 i19, .slice A20 n21 n22] 54 (0, 0)) → R (.returned (.tuple #[.slice none 0 0, .int .i64 (IntKind.i64.wrap ((n10 : Int) + (1 : Int))), .int .i64 (240 : Int)])) w5)) ∧
        (i23 = (0 : Int) →
        ∀ g25 : Nat, w0.heap.size ≤ g25 → (∀ w5 : World, Go.Sx.Fr S w0 w5 → Below w4.heap.size w4 w5 → w4.heap.size ≤ g25 → w5.heap[g25]? = some (.cells #[.int .i64 i16, .int .i64 i17, .int .i64 i18, .int .i64 i19, .slice A20 n21 n22] 54 (0, 0)) → w4.heap.size ≤ g24 → w5.heap[g24]? = some (.cells #[.int .i64 i16, .int .i64 i17, .int .i64 i18, .int .i64 i19, .slice A20 n21 n22] 54 (0, 0)) → 
         ∃ w6 : World, ∃ A26 : Option Addr, ∃ n27 : Nat, ∃ n28 : Nat, (Builtin.append_ #[51, 51] 51 #[(.slice A9 n10 n11), (.slice (some ⟨g25, 0, none⟩) 1 1)]).run Tryd.prog w5 = .ok (.slice A26 n27 n28) w6 ∧ (Go.Sx.Fr S w0 w6 ∧ Go.Sx.Mild [g25, g24, g3] w5 w6) ∧ 
         (I1 A4 n5 n6 i7 i8 A26 n27 n28 (IntKind.i64.wrap (i13 + (1 : Int))) (IntKind.i64.wrap (i13 + (1 : Int))) w6 ∧ M1 A4 n5 n6 i7 i8 A26 n27 n28 (IntKind.i64.wrap (i13 + (1 : Int))) (IntKind.i64.wrap (i13 + (1 : Int))) w6 < M1 A4 n5 n6 i7 i8 A9 n10 n11 i12 i13 w3)))))))))) ∧
      (((s0).size : Int) ≤ i13 →
      ((¬ i12 = ((s0).size : Int) →
       (R (.returned (.tuple #[.slice none 0 0, .int .i64 (IntKind.i64.wrap ((n10 : Int) + (1 : Int))), .int .i64 (240 : Int)])) w3)) ∧
       (i12 = ((s0).size : Int) →
       (R (.returned (.tuple #[.slice A9 n10 n11, .int .i64 (0 : Int), .int .i64 (0 : Int)])) w3)))))))))))))) :
    Calls Tryd.prog 33 #[(.string s0)] w0 R :=
  Go.Sx.fn_sound0 (P := Tryd.prog) (S := S) (w0 := w0) (R := R) (ws := []) (an := [⟨999999, [], [], 0⟩]) (f := 33) (n := 1) (xs := [.one (.str (.var 0))]) (e := [.s s0]) rfl (by kernel_rfl) (Eq.mp (by kernel_rfl) h)


/-- tracery/script.Parse: what is left of it. -/
theorem scParse_sx (R : Ending → World → Prop) (S : Nat → Prop) (w0 : World) (s0 : ByteArray) (h :
 (((65536 : Int) < ((s0).size : Int) →
 (R (.returned (.tuple #[.slice none 0 0, .int .i64 (0 : Int), .int .i64 (3 : Int)])) w0)) ∧
 (((s0).size : Int) ≤ (65536 : Int) →
 (
  Calls Tryd.prog 58 #[(.string s0), (.string (⟨#[10]⟩ : ByteArray))] w0 fun r w1 => ∃ i1 : Int, r = .returned (.int .i64 i1) ∧ (Go.Sx.Fr S w0 w1 ∧ Go.Sx.Mild [] w0 w1) ∧ 
  (((2048 : Int) < i1 →
  (R (.returned (.tuple #[.slice none 0 0, .int .i64 (0 : Int), .int .i64 (3 : Int)])) w1)) ∧
  (i1 ≤ (2048 : Int) →
  (∃ (I0 : Option Addr → Nat → Nat → Int → Int → Option Addr → Nat → Nat → ByteArray → World → Prop) (M0 : Option Addr → Nat → Nat → Int → Int → Option Addr → Nat → Nat → ByteArray → World → Nat), (I0 none 0 0 (0 : Int) (0 : Int) none 0 0 s0 w1) ∧
   ∀ A2 : Option Addr, ∀ n3 : Nat, ∀ n4 : Nat, ∀ i5 : Int, ∀ i6 : Int, ∀ A7 : Option Addr, ∀ n8 : Nat, ∀ n9 : Nat, ∀ s10 : ByteArray, ∀ w2 : World, Go.Sx.Fr S w0 w2 → I0 A2 n3 n4 i5 i6 A7 n8 n9 s10 w2 → 
    ((((s10).toList == ((⟨#[]⟩ : ByteArray)).toList) = false →
    (
     Calls Tryd.prog 59 #[(.string s10), (.string (⟨#[10]⟩ : ByteArray))] w2 fun r w3 => ∃ s11 : ByteArray, ∃ s12 : ByteArray, ∃ b13 : Bool, r = .returned (.tuple #[.string s11, .string s12, .bool b13]) ∧ (Go.Sx.Fr S w0 w3 ∧ Go.Sx.Mild [] w2 w3) ∧ 
     (
     Calls Tryd.prog 60 #[(.string s11)] w3 fun r w4 => ∃ i14 : Int, ∃ i15 : Int, ∃ i16 : Int, ∃ i17 : Int, ∃ A18 : Option Addr, ∃ n19 : Nat, ∃ n20 : Nat, ∃ i21 : Int, r = .returned (.tuple #[.agg #[.int .i64 i14, .int .i64 i15, .int .i64 i16, .int .i64 i17, .slice A18 n19 n20], .int .i64 i21]) ∧ (Go.Sx.Fr S w0 w4 ∧ Go.Sx.Mild [] w3 w4) ∧ 
     ∀ g22 : Nat, w0.heap.size ≤ g22 → ((b13 = false →
     (∀ w5 : World, Go.Sx.Fr S w0 w5 → Below w4.heap.size w4 w5 → w4.heap.size ≤ g22 → w5.heap[g22]? = some (.cells #[.int .i64 i14, .int .i64 i15, .int .i64 i16, .int .i64 i17, .slice A18 n19 n20] 54 (0, 0)) → R (.returned (.tuple #[.slice none 0 0, .int .i64 (IntKind.i64.wrap ((n8 : Int) + (1 : Int))), .int .i64 (240 : Int)])) w5)) ∧
     (b13 = true →
     ((¬ i21 = (0 : Int) →
      (∀ w5 : World, Go.Sx.Fr S w0 w5 → Below w4.heap.size w4 w5 → w4.heap.size ≤ g22 → w5.heap[g22]? = some (.cells #[.int .i64 i14, .int .i64 i15, .int .i64 i16, .int .i64 i17, .slice A18 n19 n20] 54 (0, 0)) → R (.returned (.tuple #[.slice none 0 0, .int .i64 (IntKind.i64.wrap ((n8 : Int) + (1 : Int))), .int .i64 (240 : Int)])) w5)) ∧
      (i21 = (0 : Int) →
      ∀ g23 : Nat, w0.heap.size ≤ g23 → (∀ w5 : World, Go.Sx.Fr S w0 w5 → Below w4.heap.size w4 w5 → w4.heap.size ≤ g23 → w5.heap[g23]? = some (.cells #[.int .i64 i14, .int .i64 i15, .int .i64 i16, .int .i64 i17, .slice A18 n19 n20] 54 (0, 0)) → w4.heap.size ≤ g22 → w5.heap[g22]? = some (.cells #[.int .i64 i14, .int .i64 i15, .int .i64 i16, .int .i64 i17, .slice A18 n19 n20] 54 (0, 0)) → 
       ∃ w6 : World, ∃ A24 : Option Addr, ∃ n25 : Nat, ∃ n26 : Nat, (Builtin.append_ #[51, 51] 51 #[(.slice A7 n8 n9), (.slice (some ⟨g23, 0, none⟩) 1 1)]).run Tryd.prog w5 = .ok (.slice A24 n25 n26) w6 ∧ (Go.Sx.Fr S w0 w6 ∧ Go.Sx.Mild [g23, g22] w5 w6) ∧ 
       (I0 A2 n3 n4 i5 i6 A24 n25 n26 s12 w6 ∧ M0 A2 n3 n4 i5 i6 A24 n25 n26 s12 w6 < M0 A2 n3 n4 i5 i6 A7 n8 n9 s10 w2))))))))) ∧
    (((s10).toList == ((⟨#[]⟩ : ByteArray)).toList) = true →
    (R (.returned (.tuple #[.slice A7 n8 n9, .int .i64 (0 : Int), .int .i64 (0 : Int)])) w2)))))))))) :
    Calls Tryd.prog 32 #[(.string s0)] w0 R :=
  Go.Sx.fn_sound0 (P := Tryd.prog) (S := S) (w0 := w0) (R := R) (ws := []) (an := [⟨999999, [], [], 0⟩]) (f := 32) (n := 1) (xs := [.one (.str (.var 0))]) (e := [.s s0]) rfl (by kernel_rfl) (Eq.mp (by kernel_rfl) h)


/-- strings.Cut: what is left of it. -/
theorem cut_sx (R : Ending → World → Prop) (S : Nat → Prop) (w0 : World) (s0 : ByteArray) (s1 : ByteArray) (h :
 (
 Calls Tryd.prog 83 #[(.string s0), (.string s1)] w0 fun r w1 => ∃ s2 : ByteArray, ∃ s3 : ByteArray, ∃ b4 : Bool, r = .returned (.tuple #[.string s2, .string s3, .bool b4]) ∧ (Go.Sx.Fr S w0 w1 ∧ Go.Sx.Mild [] w0 w1) ∧ 
 (R (.returned (.tuple #[.string s2, .string s3, .bool b4])) w1))) :
    Calls Tryd.prog 59 #[(.string s0), (.string s1)] w0 R :=
  Go.Sx.fn_sound0 (P := Tryd.prog) (S := S) (w0 := w0) (R := R) (ws := []) (an := [⟨999999, [], [], 0⟩]) (f := 59) (n := 2) (xs := [.one (.str (.var 0)), .one (.str (.var 1))]) (e := [.s s0, .s s1]) rfl (by kernel_rfl) (Eq.mp (by kernel_rfl) h)


/-- internal/stringslite.Cut: what is left of it. -/
theorem slCut_sx (R : Ending → World → Prop) (S : Nat → Prop) (w0 : World) (s0 : ByteArray) (s1 : ByteArray) (h :
 (
 Calls Tryd.prog 103 #[(.string s0), (.string s1)] w0 fun r w1 => ∃ i2 : Int, r = .returned (.int .i64 i2) ∧ (Go.Sx.Fr S w0 w1 ∧ Go.Sx.Mild [] w0 w1) ∧ 
 (((0 : Int) ≤ i2 →
 (
  (∀ w2 : World, Go.Sx.Fr S w0 w2 → Below w1.heap.size w1 w2 → ∃ s4 : ByteArray, (∀ w', Go.Sx.Keep w1.heap.size [] w2 w' → (Instr.sliceAt 9 (.string s0) none (some (.int .i64 i2)) none).run Tryd.prog w' = .ok (.string s4) w') ∧
  (∃ s5 : ByteArray, (∀ w', Go.Sx.Keep w1.heap.size [] w2 w' → (Instr.sliceAt 9 (.string s0) (some (.int .i64 (IntKind.i64.wrap (i2 + ((s1).size : Int))))) none none).run Tryd.prog w' = .ok (.string s5) w') ∧
  (R (.returned (.tuple #[.string s4, .string s5, .bool true])) w2))))) ∧
 (i2 < (0 : Int) →
 (R (.returned (.tuple #[.string s0, .string (⟨#[]⟩ : ByteArray), .bool false])) w1))))) :
    Calls Tryd.prog 83 #[(.string s0), (.string s1)] w0 R :=
  Go.Sx.fn_sound0 (P := Tryd.prog) (S := S) (w0 := w0) (R := R) (ws := []) (an := [⟨999999, [], [], 0⟩]) (f := 83) (n := 2) (xs := [.one (.str (.var 0)), .one (.str (.var 1))]) (e := [.s s0, .s s1]) rfl (by kernel_rfl) (Eq.mp (by kernel_rfl) h)


end Go.Proofs.YtfjenamomipmdaaDoor
