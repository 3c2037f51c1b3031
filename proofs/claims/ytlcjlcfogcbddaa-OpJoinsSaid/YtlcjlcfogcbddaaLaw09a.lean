/- What is left of the laws on operations, by Sx. -/
import Derived.Test.YtlcjlcfogcbddaaProg
import Derived.Test.YtlcjlcfogcbddaaSs
import Derived.KernelRfl
set_option linter.unusedVariables false
namespace Go.Proofs.Ytlcjlcfogcbddaa
open Go Go.RowKit Go.Proofs Go.Trc
set_option maxRecDepth 100000
/-- tracery/tracerylaw09.OpZero: what is left of it. -/
theorem opZero_sx (R : Ending → World → Prop) (S : Nat → Prop) (w0 : World) (i0 : Int) (i1 : Int) (i2 : Int) (i3 : Int) (i4 : Int) (i5 : Int) (i6 : Int) (i7 : Int) (i8 : Int) (i9 : Int) (i10 : Int) (i11 : Int) (i12 : Int) (i13 : Int) (i14 : Int) (i15 : Int) (i16 : Int) (b17 : Bool) (s18 : ByteArray) (i19 : Int) (i20 : Int) (s21 : ByteArray) (h :
 ∀ g22 : Nat, w0.heap.size ≤ g22 → (∀ w1 : World, Go.Sx.Fr S w0 w1 → Below w0.heap.size w0 w1 → 
 Calls Try.prog 9 #[] w1 fun r w2 => ∃ b23 : Bool, r = .returned (.bool b23) ∧ (Go.Sx.Fr S w0 w2 ∧ Go.Sx.Mild [g22] w1 w2) ∧ 
 (
 Calls Try.prog 10 #[(.agg #[.int .i64 i0, .int .i64 i1, .int .i64 i2, .int .i64 i3, .int .i64 i4, .int .i64 i5, .int .i64 i6, .int .i64 i7, .int .i64 i8, .int .i64 i9, .int .i64 i10, .int .i64 i11, .int .i64 i12, .int .i64 i13, .int .i64 i14, .int .i64 i15, .int .i64 i16, .bool b17, .string s18, .int .i64 i19])] w2 fun r w3 => ∃ i24 : Int, r = .returned (.int .i64 i24) ∧ (Go.Sx.Fr S w0 w3 ∧ Go.Sx.Mild [g22] w2 w3) ∧ 
 ((¬ i24 = (0 : Int) →
 (R (.returned (.bool b23)) w3)) ∧
 (i24 = (0 : Int) →
 ((i20 ≤ (0 : Int) →
  (R (.returned (.bool b23)) w3)) ∧
  ((0 : Int) < i20 →
  (((s21).toList = ((⟨#[]⟩ : ByteArray)).toList →
   (R (.returned (.bool b23)) w3)) ∧
   (¬ (s21).toList = ((⟨#[]⟩ : ByteArray)).toList →
   ∀ g25 : Nat, w0.heap.size ≤ g25 → ∀ g26 : Nat, w0.heap.size ≤ g26 → ∀ g27 : Nat, w0.heap.size ≤ g27 → ∀ g28 : Nat, w0.heap.size ≤ g28 → ((i0 = (8 : Int) →
    (∀ w4 : World, Go.Sx.Fr S w0 w4 → Below w3.heap.size w3 w4 → 
     Calls Try.prog 10 #[(.agg #[.int .i64 i0, .int .i64 i1, .int .i64 i2, .int .i64 i3, .int .i64 i4, .int .i64 i5, .int .i64 i6, .int .i64 i7, .int .i64 i8, .int .i64 i9, .int .i64 i10, .int .i64 i11, .int .i64 i12, .int .i64 i13, .int .i64 i14, .int .i64 i15, .int .i64 i16, .bool b17, .string s21, .int .i64 i19])] w4 fun r w5 => ∃ i29 : Int, r = .returned (.int .i64 i29) ∧ (Go.Sx.Fr S w0 w5 ∧ Go.Sx.Mild [g28, g27, g26, g25, g22] w4 w5) ∧ 
     (
     Calls Try.prog 10 #[(.agg #[.int .i64 i0, .int .i64 i1, .int .i64 i2, .int .i64 (1 : Int), .int .i64 (1 : Int), .int .i64 i5, .int .i64 i6, .int .i64 i7, .int .i64 i8, .int .i64 i9, .int .i64 i10, .int .i64 i11, .int .i64 i12, .int .i64 i13, .int .i64 i14, .int .i64 i15, .int .i64 i16, .bool b17, .string s18, .int .i64 i19])] w5 fun r w6 => ∃ i30 : Int, r = .returned (.int .i64 i30) ∧ (Go.Sx.Fr S w0 w6 ∧ Go.Sx.Mild [g28, g27, g26, g25, g22] w5 w6) ∧ 
     ((b23 = true →
     ((i29 = (1 : Int) →
      ((i30 = (1 : Int) →
       (
        Calls Try.prog 10 #[(.agg #[.int .i64 (IntKind.i64.wrap (i0 + (8 : Int))), .int .i64 i1, .int .i64 i2, .int .i64 i3, .int .i64 i4, .int .i64 i5, .int .i64 i6, .int .i64 i7, .int .i64 i8, .int .i64 i9, .int .i64 i10, .int .i64 i11, .int .i64 i12, .int .i64 i13, .int .i64 i14, .int .i64 i15, .int .i64 i16, .bool b17, .string s18, .int .i64 i19])] w6 fun r w7 => ∃ i31 : Int, r = .returned (.int .i64 i31) ∧ (Go.Sx.Fr S w0 w7 ∧ Go.Sx.Mild [g28, g27, g26, g25, g22] w6 w7) ∧ 
        (R (.returned (.bool (i31 == (1 : Int)))) w7))) ∧
       (¬ i30 = (1 : Int) →
       (R (.returned (.bool false)) w6)))) ∧
      (¬ i29 = (1 : Int) →
      (R (.returned (.bool false)) w6)))) ∧
     (b23 = false →
     (R (.returned (.bool false)) w6)))))) ∧
    (¬ i0 = (8 : Int) →
    ((i0 = (5 : Int) →
     (∀ w4 : World, Go.Sx.Fr S w0 w4 → Below w3.heap.size w3 w4 → 
      Calls Try.prog 10 #[(.agg #[.int .i64 i0, .int .i64 i1, .int .i64 i2, .int .i64 i3, .int .i64 i4, .int .i64 i5, .int .i64 i6, .int .i64 i7, .int .i64 i8, .int .i64 i9, .int .i64 i10, .int .i64 i11, .int .i64 i12, .int .i64 i13, .int .i64 i14, .int .i64 i15, .int .i64 i16, .bool b17, .string s21, .int .i64 i19])] w4 fun r w5 => ∃ i29 : Int, r = .returned (.int .i64 i29) ∧ (Go.Sx.Fr S w0 w5 ∧ Go.Sx.Mild [g28, g27, g26, g25, g22] w4 w5) ∧ 
      ((b23 = true →
      ((i29 = (1 : Int) →
       (
        Calls Try.prog 10 #[(.agg #[.int .i64 (IntKind.i64.wrap (i0 + (8 : Int))), .int .i64 i1, .int .i64 i2, .int .i64 i3, .int .i64 i4, .int .i64 i5, .int .i64 i6, .int .i64 i7, .int .i64 i8, .int .i64 i9, .int .i64 i10, .int .i64 i11, .int .i64 i12, .int .i64 i13, .int .i64 i14, .int .i64 i15, .int .i64 i16, .bool b17, .string s18, .int .i64 i19])] w5 fun r w6 => ∃ i30 : Int, r = .returned (.int .i64 i30) ∧ (Go.Sx.Fr S w0 w6 ∧ Go.Sx.Mild [g28, g27, g26, g25, g22] w5 w6) ∧ 
        (R (.returned (.bool (i30 == (1 : Int)))) w6))) ∧
       (¬ i29 = (1 : Int) →
       (R (.returned (.bool false)) w5)))) ∧
      (b23 = false →
      (R (.returned (.bool false)) w5))))) ∧
     (¬ i0 = (5 : Int) →
     (∀ w4 : World, Go.Sx.Fr S w0 w4 → Below w3.heap.size w3 w4 → 
      Calls Try.prog 10 #[(.agg #[.int .i64 i0, .int .i64 i1, .int .i64 i2, .int .i64 i3, .int .i64 i4, .int .i64 i5, .int .i64 i6, .int .i64 i7, .int .i64 i8, .int .i64 i9, .int .i64 i10, .int .i64 i11, .int .i64 i12, .int .i64 i13, .int .i64 i14, .int .i64 i15, .int .i64 i16, .bool b17, .string s18, .int .i64 i20])] w4 fun r w5 => ∃ i29 : Int, r = .returned (.int .i64 i29) ∧ (Go.Sx.Fr S w0 w5 ∧ Go.Sx.Mild [g28, g27, g26, g25, g22] w4 w5) ∧ 
      ((i0 = (7 : Int) →
      (
       Calls Try.prog 10 #[(.agg #[.int .i64 i0, .int .i64 i1, .int .i64 i2, .int .i64 (1 : Int), .int .i64 (1 : Int), .int .i64 i5, .int .i64 i6, .int .i64 i7, .int .i64 i8, .int .i64 i9, .int .i64 i10, .int .i64 i11, .int .i64 i12, .int .i64 i13, .int .i64 i14, .int .i64 i15, .int .i64 i16, .bool b17, .string s18, .int .i64 i19])] w5 fun r w6 => ∃ i30 : Int, r = .returned (.int .i64 i30) ∧ (Go.Sx.Fr S w0 w6 ∧ Go.Sx.Mild [g28, g27, g26, g25, g22] w5 w6) ∧ 
       ((b23 = true →
       ((i29 = (1 : Int) →
        ((i30 = (1 : Int) →
         (
          Calls Try.prog 10 #[(.agg #[.int .i64 (IntKind.i64.wrap (i0 + (8 : Int))), .int .i64 i1, .int .i64 i2, .int .i64 i3, .int .i64 i4, .int .i64 i5, .int .i64 i6, .int .i64 i7, .int .i64 i8, .int .i64 i9, .int .i64 i10, .int .i64 i11, .int .i64 i12, .int .i64 i13, .int .i64 i14, .int .i64 i15, .int .i64 i16, .bool b17, .string s18, .int .i64 i19])] w6 fun r w7 => ∃ i31 : Int, r = .returned (.int .i64 i31) ∧ (Go.Sx.Fr S w0 w7 ∧ Go.Sx.Mild [g28, g27, g26, g25, g22] w6 w7) ∧ 
          (R (.returned (.bool (i31 == (1 : Int)))) w7))) ∧
         (¬ i30 = (1 : Int) →
         (R (.returned (.bool false)) w6)))) ∧
        (¬ i29 = (1 : Int) →
        (R (.returned (.bool false)) w6)))) ∧
       (b23 = false →
       (R (.returned (.bool false)) w6))))) ∧
      (¬ i0 = (7 : Int) →
      (
       Calls Try.prog 10 #[(.agg #[.int .i64 i0, .int .i64 i1, .int .i64 i2, .int .i64 i3, .int .i64 i4, .int .i64 i5, .int .i64 i6, .int .i64 i7, .int .i64 i8, .int .i64 i9, .int .i64 i10, .int .i64 i11, .int .i64 i12, .int .i64 i13, .int .i64 i14, .int .i64 i15, .int .i64 i16, .bool b17, .string s21, .int .i64 i19])] w5 fun r w6 => ∃ i30 : Int, r = .returned (.int .i64 i30) ∧ (Go.Sx.Fr S w0 w6 ∧ Go.Sx.Mild [g28, g27, g26, g25, g22] w5 w6) ∧ 
       (
       Calls Try.prog 10 #[(.agg #[.int .i64 i0, .int .i64 i1, .int .i64 i2, .int .i64 (1 : Int), .int .i64 (1 : Int), .int .i64 i5, .int .i64 i6, .int .i64 i7, .int .i64 i8, .int .i64 i9, .int .i64 i10, .int .i64 i11, .int .i64 i12, .int .i64 i13, .int .i64 i14, .int .i64 i15, .int .i64 i16, .bool b17, .string s18, .int .i64 i19])] w6 fun r w7 => ∃ i31 : Int, r = .returned (.int .i64 i31) ∧ (Go.Sx.Fr S w0 w7 ∧ Go.Sx.Mild [g28, g27, g26, g25, g22] w6 w7) ∧ 
       ((b23 = true →
       ((i29 = (1 : Int) →
        ((i30 = (1 : Int) →
         ((i31 = (1 : Int) →
          (
           Calls Try.prog 10 #[(.agg #[.int .i64 (IntKind.i64.wrap (i0 + (8 : Int))), .int .i64 i1, .int .i64 i2, .int .i64 i3, .int .i64 i4, .int .i64 i5, .int .i64 i6, .int .i64 i7, .int .i64 i8, .int .i64 i9, .int .i64 i10, .int .i64 i11, .int .i64 i12, .int .i64 i13, .int .i64 i14, .int .i64 i15, .int .i64 i16, .bool b17, .string s18, .int .i64 i19])] w7 fun r w8 => ∃ i32 : Int, r = .returned (.int .i64 i32) ∧ (Go.Sx.Fr S w0 w8 ∧ Go.Sx.Mild [g28, g27, g26, g25, g22] w7 w8) ∧ 
           (R (.returned (.bool (i32 == (1 : Int)))) w8))) ∧
          (¬ i31 = (1 : Int) →
          (R (.returned (.bool false)) w7)))) ∧
         (¬ i30 = (1 : Int) →
         (R (.returned (.bool false)) w7)))) ∧
        (¬ i29 = (1 : Int) →
        (R (.returned (.bool false)) w7)))) ∧
       (b23 = false →
       (R (.returned (.bool false)) w7))))))))))))))))))))) :
    Calls Try.prog 3 #[(.agg #[.int .i64 i0, .int .i64 i1, .int .i64 i2, .int .i64 i3, .int .i64 i4, .int .i64 i5, .int .i64 i6, .int .i64 i7, .int .i64 i8, .int .i64 i9, .int .i64 i10, .int .i64 i11, .int .i64 i12, .int .i64 i13, .int .i64 i14, .int .i64 i15, .int .i64 i16, .bool b17, .string s18, .int .i64 i19]), (.int .i64 i20), (.string s21)] w0 R :=
  Go.Sx.fn_sound0 (P := Try.prog) (S := S) (w0 := w0) (R := R) (ws := []) (an := []) (f := 3) (n := 22) (xs := [.agg [.int .i64 (.var 0), .int .i64 (.var 1), .int .i64 (.var 2), .int .i64 (.var 3), .int .i64 (.var 4), .int .i64 (.var 5), .int .i64 (.var 6), .int .i64 (.var 7), .int .i64 (.var 8), .int .i64 (.var 9), .int .i64 (.var 10), .int .i64 (.var 11), .int .i64 (.var 12), .int .i64 (.var 13), .int .i64 (.var 14), .int .i64 (.var 15), .int .i64 (.var 16), .bool (.var 17), .str (.var 18), .int .i64 (.var 19)], .one (.int .i64 (.var 20)), .one (.str (.var 21))]) (e := [.i i0, .i i1, .i i2, .i i3, .i i4, .i i5, .i i6, .i i7, .i i8, .i i9, .i i10, .i i11, .i i12, .i i13, .i i14, .i i15, .i i16, .b b17, .s s18, .i i19, .i i20, .s s21]) rfl (by kernel_rfl) (Eq.mp (by kernel_rfl) h)


/-- tracery/tracerylaw09.OpKinds: what is left of it. -/
theorem opKinds_sx (R : Ending → World → Prop) (S : Nat → Prop) (w0 : World) (i0 : Int) (i1 : Int) (i2 : Int) (h :
 ∀ g3 : Nat, w0.heap.size ≤ g3 → (∀ w1 : World, Go.Sx.Fr S w0 w1 → Below w0.heap.size w0 w1 → 
 Calls Try.prog 9 #[] w1 fun r w2 => ∃ b4 : Bool, r = .returned (.bool b4) ∧ (Go.Sx.Fr S w0 w2 ∧ Go.Sx.Mild [g3] w1 w2) ∧ 
 ∀ g5 : Nat, w0.heap.size ≤ g5 → ((i0 = (1 : Int) →
 (∀ w3 : World, Go.Sx.Fr S w0 w3 → Below w2.heap.size w2 w3 → 
  Calls Try.prog 11 #[(.agg #[.int .i64 i1, .int .i64 i2])] w3 fun r w4 => ∃ b6 : Bool, r = .returned (.bool b6) ∧ (Go.Sx.Fr S w0 w4 ∧ Go.Sx.Mild [g5, g3] w3 w4) ∧ 
  (
  Calls Try.prog 10 #[(.agg #[.int .i64 i0, .int .i64 i1, .int .i64 i2, .int .i64 (0 : Int), .int .i64 (0 : Int), .int .i64 (0 : Int), .int .i64 (0 : Int), .int .i64 (0 : Int), .int .i64 (0 : Int), .int .i64 (0 : Int), .int .i64 (0 : Int), .int .i64 (0 : Int), .int .i64 (0 : Int), .int .i64 (0 : Int), .int .i64 (0 : Int), .int .i64 (0 : Int), .int .i64 (0 : Int), .bool false, .string (⟨#[]⟩ : ByteArray), .int .i64 (0 : Int)])] w4 fun r w5 => ∃ i7 : Int, r = .returned (.int .i64 i7) ∧ (Go.Sx.Fr S w0 w5 ∧ Go.Sx.Mild [g5, g3] w4 w5) ∧ 
  ((b4 = true →
  (∃ b8 : Bool, (binOp .eql 4 (.bool (i7 == (0 : Int))) (.bool b6)).run Try.prog w5 = .ok (.bool b8) w5 ∧
   ((b8 = true →
   ((i7 = (0 : Int) →
    ∀ g9 : Nat, w0.heap.size ≤ g9 → (∀ w6 : World, Go.Sx.Fr S w0 w6 → Below w5.heap.size w5 w6 → w5.heap.size ≤ g9 → w6.heap[g9]? = some (.cells #[.int .i64 i0, .int .i64 i1, .int .i64 i2, .int .i64 (0 : Int), .int .i64 (0 : Int), .int .i64 (0 : Int), .int .i64 (0 : Int), .int .i64 (0 : Int), .int .i64 (0 : Int), .int .i64 (0 : Int), .int .i64 (0 : Int), .int .i64 (0 : Int), .int .i64 (0 : Int), .int .i64 (0 : Int), .int .i64 (0 : Int), .int .i64 (0 : Int), .int .i64 (0 : Int), .bool false, .string (⟨#[]⟩ : ByteArray), .int .i64 (0 : Int)] 29 (0, 0)) → 
     Calls Try.prog 12 #[(.agg #[.slice (some ⟨g9, 0, none⟩) 1 1])] w6 fun r w7 => ∃ i10 : Int, r = .returned (.int .i64 i10) ∧ (Go.Sx.Fr S w0 w7 ∧ Go.Sx.Mild [g9, g5, g3] w6 w7) ∧ 
     (R (.returned (.bool (i10 == i7))) w7))) ∧
    (¬ i7 = (0 : Int) →
    ((i7 = (1 : Int) →
     ∀ g9 : Nat, w0.heap.size ≤ g9 → (∀ w6 : World, Go.Sx.Fr S w0 w6 → Below w5.heap.size w5 w6 → w5.heap.size ≤ g9 → w6.heap[g9]? = some (.cells #[.int .i64 i0, .int .i64 i1, .int .i64 i2, .int .i64 (0 : Int), .int .i64 (0 : Int), .int .i64 (0 : Int), .int .i64 (0 : Int), .int .i64 (0 : Int), .int .i64 (0 : Int), .int .i64 (0 : Int), .int .i64 (0 : Int), .int .i64 (0 : Int), .int .i64 (0 : Int), .int .i64 (0 : Int), .int .i64 (0 : Int), .int .i64 (0 : Int), .int .i64 (0 : Int), .bool false, .string (⟨#[]⟩ : ByteArray), .int .i64 (0 : Int)] 29 (0, 0)) → 
      Calls Try.prog 12 #[(.agg #[.slice (some ⟨g9, 0, none⟩) 1 1])] w6 fun r w7 => ∃ i10 : Int, r = .returned (.int .i64 i10) ∧ (Go.Sx.Fr S w0 w7 ∧ Go.Sx.Mild [g9, g5, g3] w6 w7) ∧ 
      (R (.returned (.bool (i10 == i7))) w7))) ∧
     (¬ i7 = (1 : Int) →
     (R (.returned (.bool false)) w5)))))) ∧
   (b8 = false →
   (R (.returned (.bool false)) w5))))) ∧
  (b4 = false →
  (R (.returned (.bool false)) w5)))))) ∧
 (¬ i0 = (1 : Int) →
 ((i0 = (2 : Int) →
  (∀ w3 : World, Go.Sx.Fr S w0 w3 → Below w2.heap.size w2 w3 → 
   Calls Try.prog 11 #[(.agg #[.int .i64 i1, .int .i64 i2])] w3 fun r w4 => ∃ b6 : Bool, r = .returned (.bool b6) ∧ (Go.Sx.Fr S w0 w4 ∧ Go.Sx.Mild [g5, g3] w3 w4) ∧ 
   (
   Calls Try.prog 10 #[(.agg #[.int .i64 i0, .int .i64 i1, .int .i64 i2, .int .i64 (0 : Int), .int .i64 (0 : Int), .int .i64 (0 : Int), .int .i64 (0 : Int), .int .i64 (0 : Int), .int .i64 (0 : Int), .int .i64 (0 : Int), .int .i64 (0 : Int), .int .i64 (0 : Int), .int .i64 (0 : Int), .int .i64 (0 : Int), .int .i64 (0 : Int), .int .i64 (0 : Int), .int .i64 (0 : Int), .bool false, .string (⟨#[]⟩ : ByteArray), .int .i64 (0 : Int)])] w4 fun r w5 => ∃ i7 : Int, r = .returned (.int .i64 i7) ∧ (Go.Sx.Fr S w0 w5 ∧ Go.Sx.Mild [g5, g3] w4 w5) ∧ 
   ((b4 = true →
   (∃ b8 : Bool, (binOp .eql 4 (.bool (i7 == (0 : Int))) (.bool b6)).run Try.prog w5 = .ok (.bool b8) w5 ∧
    ((b8 = true →
    ((i7 = (0 : Int) →
     ∀ g9 : Nat, w0.heap.size ≤ g9 → (∀ w6 : World, Go.Sx.Fr S w0 w6 → Below w5.heap.size w5 w6 → w5.heap.size ≤ g9 → w6.heap[g9]? = some (.cells #[.int .i64 i0, .int .i64 i1, .int .i64 i2, .int .i64 (0 : Int), .int .i64 (0 : Int), .int .i64 (0 : Int), .int .i64 (0 : Int), .int .i64 (0 : Int), .int .i64 (0 : Int), .int .i64 (0 : Int), .int .i64 (0 : Int), .int .i64 (0 : Int), .int .i64 (0 : Int), .int .i64 (0 : Int), .int .i64 (0 : Int), .int .i64 (0 : Int), .int .i64 (0 : Int), .bool false, .string (⟨#[]⟩ : ByteArray), .int .i64 (0 : Int)] 29 (0, 0)) → 
      Calls Try.prog 12 #[(.agg #[.slice (some ⟨g9, 0, none⟩) 1 1])] w6 fun r w7 => ∃ i10 : Int, r = .returned (.int .i64 i10) ∧ (Go.Sx.Fr S w0 w7 ∧ Go.Sx.Mild [g9, g5, g3] w6 w7) ∧ 
      (R (.returned (.bool (i10 == i7))) w7))) ∧
     (¬ i7 = (0 : Int) →
     ((i7 = (1 : Int) →
      ∀ g9 : Nat, w0.heap.size ≤ g9 → (∀ w6 : World, Go.Sx.Fr S w0 w6 → Below w5.heap.size w5 w6 → w5.heap.size ≤ g9 → w6.heap[g9]? = some (.cells #[.int .i64 i0, .int .i64 i1, .int .i64 i2, .int .i64 (0 : Int), .int .i64 (0 : Int), .int .i64 (0 : Int), .int .i64 (0 : Int), .int .i64 (0 : Int), .int .i64 (0 : Int), .int .i64 (0 : Int), .int .i64 (0 : Int), .int .i64 (0 : Int), .int .i64 (0 : Int), .int .i64 (0 : Int), .int .i64 (0 : Int), .int .i64 (0 : Int), .int .i64 (0 : Int), .bool false, .string (⟨#[]⟩ : ByteArray), .int .i64 (0 : Int)] 29 (0, 0)) → 
       Calls Try.prog 12 #[(.agg #[.slice (some ⟨g9, 0, none⟩) 1 1])] w6 fun r w7 => ∃ i10 : Int, r = .returned (.int .i64 i10) ∧ (Go.Sx.Fr S w0 w7 ∧ Go.Sx.Mild [g9, g5, g3] w6 w7) ∧ 
       (R (.returned (.bool (i10 == i7))) w7))) ∧
      (¬ i7 = (1 : Int) →
      (R (.returned (.bool false)) w5)))))) ∧
    (b8 = false →
    (R (.returned (.bool false)) w5))))) ∧
   (b4 = false →
   (R (.returned (.bool false)) w5)))))) ∧
  (¬ i0 = (2 : Int) →
  ((i0 = (4 : Int) →
   (∀ w3 : World, Go.Sx.Fr S w0 w3 → Below w2.heap.size w2 w3 → 
    Calls Try.prog 11 #[(.agg #[.int .i64 i1, .int .i64 i2])] w3 fun r w4 => ∃ b6 : Bool, r = .returned (.bool b6) ∧ (Go.Sx.Fr S w0 w4 ∧ Go.Sx.Mild [g5, g3] w3 w4) ∧ 
    (
    Calls Try.prog 10 #[(.agg #[.int .i64 i0, .int .i64 i1, .int .i64 i2, .int .i64 (0 : Int), .int .i64 (0 : Int), .int .i64 (0 : Int), .int .i64 (0 : Int), .int .i64 (0 : Int), .int .i64 (0 : Int), .int .i64 (0 : Int), .int .i64 (0 : Int), .int .i64 (0 : Int), .int .i64 (0 : Int), .int .i64 (0 : Int), .int .i64 (0 : Int), .int .i64 (0 : Int), .int .i64 (0 : Int), .bool false, .string (⟨#[]⟩ : ByteArray), .int .i64 (0 : Int)])] w4 fun r w5 => ∃ i7 : Int, r = .returned (.int .i64 i7) ∧ (Go.Sx.Fr S w0 w5 ∧ Go.Sx.Mild [g5, g3] w4 w5) ∧ 
    ((b4 = true →
    (∃ b8 : Bool, (binOp .eql 4 (.bool (i7 == (0 : Int))) (.bool b6)).run Try.prog w5 = .ok (.bool b8) w5 ∧
     ((b8 = true →
     ((i7 = (0 : Int) →
      ∀ g9 : Nat, w0.heap.size ≤ g9 → (∀ w6 : World, Go.Sx.Fr S w0 w6 → Below w5.heap.size w5 w6 → w5.heap.size ≤ g9 → w6.heap[g9]? = some (.cells #[.int .i64 i0, .int .i64 i1, .int .i64 i2, .int .i64 (0 : Int), .int .i64 (0 : Int), .int .i64 (0 : Int), .int .i64 (0 : Int), .int .i64 (0 : Int), .int .i64 (0 : Int), .int .i64 (0 : Int), .int .i64 (0 : Int), .int .i64 (0 : Int), .int .i64 (0 : Int), .int .i64 (0 : Int), .int .i64 (0 : Int), .int .i64 (0 : Int), .int .i64 (0 : Int), .bool false, .string (⟨#[]⟩ : ByteArray), .int .i64 (0 : Int)] 29 (0, 0)) → 
       Calls Try.prog 12 #[(.agg #[.slice (some ⟨g9, 0, none⟩) 1 1])] w6 fun r w7 => ∃ i10 : Int, r = .returned (.int .i64 i10) ∧ (Go.Sx.Fr S w0 w7 ∧ Go.Sx.Mild [g9, g5, g3] w6 w7) ∧ 
       (R (.returned (.bool (i10 == i7))) w7))) ∧
      (¬ i7 = (0 : Int) →
      ((i7 = (1 : Int) →
       ∀ g9 : Nat, w0.heap.size ≤ g9 → (∀ w6 : World, Go.Sx.Fr S w0 w6 → Below w5.heap.size w5 w6 → w5.heap.size ≤ g9 → w6.heap[g9]? = some (.cells #[.int .i64 i0, .int .i64 i1, .int .i64 i2, .int .i64 (0 : Int), .int .i64 (0 : Int), .int .i64 (0 : Int), .int .i64 (0 : Int), .int .i64 (0 : Int), .int .i64 (0 : Int), .int .i64 (0 : Int), .int .i64 (0 : Int), .int .i64 (0 : Int), .int .i64 (0 : Int), .int .i64 (0 : Int), .int .i64 (0 : Int), .int .i64 (0 : Int), .int .i64 (0 : Int), .bool false, .string (⟨#[]⟩ : ByteArray), .int .i64 (0 : Int)] 29 (0, 0)) → 
        Calls Try.prog 12 #[(.agg #[.slice (some ⟨g9, 0, none⟩) 1 1])] w6 fun r w7 => ∃ i10 : Int, r = .returned (.int .i64 i10) ∧ (Go.Sx.Fr S w0 w7 ∧ Go.Sx.Mild [g9, g5, g3] w6 w7) ∧ 
        (R (.returned (.bool (i10 == i7))) w7))) ∧
       (¬ i7 = (1 : Int) →
       (R (.returned (.bool false)) w5)))))) ∧
     (b8 = false →
     (R (.returned (.bool false)) w5))))) ∧
    (b4 = false →
    (R (.returned (.bool false)) w5)))))) ∧
   (¬ i0 = (4 : Int) →
   ((i0 = (7 : Int) →
    (∀ w3 : World, Go.Sx.Fr S w0 w3 → Below w2.heap.size w2 w3 → 
     Calls Try.prog 11 #[(.agg #[.int .i64 i1, .int .i64 i2])] w3 fun r w4 => ∃ b6 : Bool, r = .returned (.bool b6) ∧ (Go.Sx.Fr S w0 w4 ∧ Go.Sx.Mild [g5, g3] w3 w4) ∧ 
     (
     Calls Try.prog 10 #[(.agg #[.int .i64 i0, .int .i64 i1, .int .i64 i2, .int .i64 (0 : Int), .int .i64 (0 : Int), .int .i64 (0 : Int), .int .i64 (0 : Int), .int .i64 (0 : Int), .int .i64 (0 : Int), .int .i64 (0 : Int), .int .i64 (0 : Int), .int .i64 (0 : Int), .int .i64 (0 : Int), .int .i64 (0 : Int), .int .i64 (0 : Int), .int .i64 (0 : Int), .int .i64 (0 : Int), .bool false, .string (⟨#[]⟩ : ByteArray), .int .i64 (0 : Int)])] w4 fun r w5 => ∃ i7 : Int, r = .returned (.int .i64 i7) ∧ (Go.Sx.Fr S w0 w5 ∧ Go.Sx.Mild [g5, g3] w4 w5) ∧ 
     ((b4 = true →
     (∃ b8 : Bool, (binOp .eql 4 (.bool (i7 == (0 : Int))) (.bool b6)).run Try.prog w5 = .ok (.bool b8) w5 ∧
      ((b8 = true →
      ((i7 = (0 : Int) →
       ∀ g9 : Nat, w0.heap.size ≤ g9 → (∀ w6 : World, Go.Sx.Fr S w0 w6 → Below w5.heap.size w5 w6 → w5.heap.size ≤ g9 → w6.heap[g9]? = some (.cells #[.int .i64 i0, .int .i64 i1, .int .i64 i2, .int .i64 (0 : Int), .int .i64 (0 : Int), .int .i64 (0 : Int), .int .i64 (0 : Int), .int .i64 (0 : Int), .int .i64 (0 : Int), .int .i64 (0 : Int), .int .i64 (0 : Int), .int .i64 (0 : Int), .int .i64 (0 : Int), .int .i64 (0 : Int), .int .i64 (0 : Int), .int .i64 (0 : Int), .int .i64 (0 : Int), .bool false, .string (⟨#[]⟩ : ByteArray), .int .i64 (0 : Int)] 29 (0, 0)) → 
        Calls Try.prog 12 #[(.agg #[.slice (some ⟨g9, 0, none⟩) 1 1])] w6 fun r w7 => ∃ i10 : Int, r = .returned (.int .i64 i10) ∧ (Go.Sx.Fr S w0 w7 ∧ Go.Sx.Mild [g9, g5, g3] w6 w7) ∧ 
        (R (.returned (.bool (i10 == i7))) w7))) ∧
       (¬ i7 = (0 : Int) →
       ((i7 = (1 : Int) →
        ∀ g9 : Nat, w0.heap.size ≤ g9 → (∀ w6 : World, Go.Sx.Fr S w0 w6 → Below w5.heap.size w5 w6 → w5.heap.size ≤ g9 → w6.heap[g9]? = some (.cells #[.int .i64 i0, .int .i64 i1, .int .i64 i2, .int .i64 (0 : Int), .int .i64 (0 : Int), .int .i64 (0 : Int), .int .i64 (0 : Int), .int .i64 (0 : Int), .int .i64 (0 : Int), .int .i64 (0 : Int), .int .i64 (0 : Int), .int .i64 (0 : Int), .int .i64 (0 : Int), .int .i64 (0 : Int), .int .i64 (0 : Int), .int .i64 (0 : Int), .int .i64 (0 : Int), .bool false, .string (⟨#[]⟩ : ByteArray), .int .i64 (0 : Int)] 29 (0, 0)) → 
         Calls Try.prog 12 #[(.agg #[.slice (some ⟨g9, 0, none⟩) 1 1])] w6 fun r w7 => ∃ i10 : Int, r = .returned (.int .i64 i10) ∧ (Go.Sx.Fr S w0 w7 ∧ Go.Sx.Mild [g9, g5, g3] w6 w7) ∧ 
         (R (.returned (.bool (i10 == i7))) w7))) ∧
        (¬ i7 = (1 : Int) →
        (R (.returned (.bool false)) w5)))))) ∧
      (b8 = false →
      (R (.returned (.bool false)) w5))))) ∧
     (b4 = false →
     (R (.returned (.bool false)) w5)))))) ∧
    (¬ i0 = (7 : Int) →
    (∀ w3 : World, Go.Sx.Fr S w0 w3 → Below w2.heap.size w2 w3 → 
     Calls Try.prog 11 #[(.agg #[.int .i64 i1, .int .i64 i2])] w3 fun r w4 => ∃ b6 : Bool, r = .returned (.bool b6) ∧ (Go.Sx.Fr S w0 w4 ∧ Go.Sx.Mild [g5, g3] w3 w4) ∧ 
     (
     Calls Try.prog 10 #[(.agg #[.int .i64 i0, .int .i64 i1, .int .i64 i2, .int .i64 (0 : Int), .int .i64 (0 : Int), .int .i64 (0 : Int), .int .i64 (0 : Int), .int .i64 (0 : Int), .int .i64 (0 : Int), .int .i64 (0 : Int), .int .i64 (0 : Int), .int .i64 (0 : Int), .int .i64 (0 : Int), .int .i64 (0 : Int), .int .i64 (0 : Int), .int .i64 (0 : Int), .int .i64 (0 : Int), .bool false, .string (⟨#[]⟩ : ByteArray), .int .i64 (0 : Int)])] w4 fun r w5 => ∃ i7 : Int, r = .returned (.int .i64 i7) ∧ (Go.Sx.Fr S w0 w5 ∧ Go.Sx.Mild [g5, g3] w4 w5) ∧ 
     ((b4 = true →
     ((i0 = (8 : Int) →
      (∃ b8 : Bool, (binOp .eql 4 (.bool (i7 == (0 : Int))) (.bool b6)).run Try.prog w5 = .ok (.bool b8) w5 ∧
       ((b8 = true →
       ((i7 = (0 : Int) →
        ∀ g9 : Nat, w0.heap.size ≤ g9 → (∀ w6 : World, Go.Sx.Fr S w0 w6 → Below w5.heap.size w5 w6 → w5.heap.size ≤ g9 → w6.heap[g9]? = some (.cells #[.int .i64 i0, .int .i64 i1, .int .i64 i2, .int .i64 (0 : Int), .int .i64 (0 : Int), .int .i64 (0 : Int), .int .i64 (0 : Int), .int .i64 (0 : Int), .int .i64 (0 : Int), .int .i64 (0 : Int), .int .i64 (0 : Int), .int .i64 (0 : Int), .int .i64 (0 : Int), .int .i64 (0 : Int), .int .i64 (0 : Int), .int .i64 (0 : Int), .int .i64 (0 : Int), .bool false, .string (⟨#[]⟩ : ByteArray), .int .i64 (0 : Int)] 29 (0, 0)) → 
         Calls Try.prog 12 #[(.agg #[.slice (some ⟨g9, 0, none⟩) 1 1])] w6 fun r w7 => ∃ i10 : Int, r = .returned (.int .i64 i10) ∧ (Go.Sx.Fr S w0 w7 ∧ Go.Sx.Mild [g9, g5, g3] w6 w7) ∧ 
         (R (.returned (.bool (i10 == i7))) w7))) ∧
        (¬ i7 = (0 : Int) →
        ((i7 = (1 : Int) →
         ∀ g9 : Nat, w0.heap.size ≤ g9 → (∀ w6 : World, Go.Sx.Fr S w0 w6 → Below w5.heap.size w5 w6 → w5.heap.size ≤ g9 → w6.heap[g9]? = some (.cells #[.int .i64 i0, .int .i64 i1, .int .i64 i2, .int .i64 (0 : Int), .int .i64 (0 : Int), .int .i64 (0 : Int), .int .i64 (0 : Int), .int .i64 (0 : Int), .int .i64 (0 : Int), .int .i64 (0 : Int), .int .i64 (0 : Int), .int .i64 (0 : Int), .int .i64 (0 : Int), .int .i64 (0 : Int), .int .i64 (0 : Int), .int .i64 (0 : Int), .int .i64 (0 : Int), .bool false, .string (⟨#[]⟩ : ByteArray), .int .i64 (0 : Int)] 29 (0, 0)) → 
          Calls Try.prog 12 #[(.agg #[.slice (some ⟨g9, 0, none⟩) 1 1])] w6 fun r w7 => ∃ i10 : Int, r = .returned (.int .i64 i10) ∧ (Go.Sx.Fr S w0 w7 ∧ Go.Sx.Mild [g9, g5, g3] w6 w7) ∧ 
          (R (.returned (.bool (i10 == i7))) w7))) ∧
         (¬ i7 = (1 : Int) →
         (R (.returned (.bool false)) w5)))))) ∧
       (b8 = false →
       (R (.returned (.bool false)) w5))))) ∧
      (¬ i0 = (8 : Int) →
      (∃ b8 : Bool, (binOp .eql 4 (.bool (i7 == (0 : Int))) (.bool false)).run Try.prog w5 = .ok (.bool b8) w5 ∧
       ((b8 = true →
       ((i7 = (0 : Int) →
        ∀ g9 : Nat, w0.heap.size ≤ g9 → (∀ w6 : World, Go.Sx.Fr S w0 w6 → Below w5.heap.size w5 w6 → w5.heap.size ≤ g9 → w6.heap[g9]? = some (.cells #[.int .i64 i0, .int .i64 i1, .int .i64 i2, .int .i64 (0 : Int), .int .i64 (0 : Int), .int .i64 (0 : Int), .int .i64 (0 : Int), .int .i64 (0 : Int), .int .i64 (0 : Int), .int .i64 (0 : Int), .int .i64 (0 : Int), .int .i64 (0 : Int), .int .i64 (0 : Int), .int .i64 (0 : Int), .int .i64 (0 : Int), .int .i64 (0 : Int), .int .i64 (0 : Int), .bool false, .string (⟨#[]⟩ : ByteArray), .int .i64 (0 : Int)] 29 (0, 0)) → 
         Calls Try.prog 12 #[(.agg #[.slice (some ⟨g9, 0, none⟩) 1 1])] w6 fun r w7 => ∃ i10 : Int, r = .returned (.int .i64 i10) ∧ (Go.Sx.Fr S w0 w7 ∧ Go.Sx.Mild [g9, g5, g3] w6 w7) ∧ 
         (R (.returned (.bool (i10 == i7))) w7))) ∧
        (¬ i7 = (0 : Int) →
        ((i7 = (1 : Int) →
         ∀ g9 : Nat, w0.heap.size ≤ g9 → (∀ w6 : World, Go.Sx.Fr S w0 w6 → Below w5.heap.size w5 w6 → w5.heap.size ≤ g9 → w6.heap[g9]? = some (.cells #[.int .i64 i0, .int .i64 i1, .int .i64 i2, .int .i64 (0 : Int), .int .i64 (0 : Int), .int .i64 (0 : Int), .int .i64 (0 : Int), .int .i64 (0 : Int), .int .i64 (0 : Int), .int .i64 (0 : Int), .int .i64 (0 : Int), .int .i64 (0 : Int), .int .i64 (0 : Int), .int .i64 (0 : Int), .int .i64 (0 : Int), .int .i64 (0 : Int), .int .i64 (0 : Int), .bool false, .string (⟨#[]⟩ : ByteArray), .int .i64 (0 : Int)] 29 (0, 0)) → 
          Calls Try.prog 12 #[(.agg #[.slice (some ⟨g9, 0, none⟩) 1 1])] w6 fun r w7 => ∃ i10 : Int, r = .returned (.int .i64 i10) ∧ (Go.Sx.Fr S w0 w7 ∧ Go.Sx.Mild [g9, g5, g3] w6 w7) ∧ 
          (R (.returned (.bool (i10 == i7))) w7))) ∧
         (¬ i7 = (1 : Int) →
         (R (.returned (.bool false)) w5)))))) ∧
       (b8 = false →
       (R (.returned (.bool false)) w5))))))) ∧
     (b4 = false →
     (R (.returned (.bool false)) w5))))))))))))))) :
    Calls Try.prog 4 #[(.int .i64 i0), (.agg #[.int .i64 i1, .int .i64 i2])] w0 R :=
  Go.Sx.fn_sound0 (P := Try.prog) (S := S) (w0 := w0) (R := R) (ws := []) (an := []) (f := 4) (n := 3) (xs := [.one (.int .i64 (.var 0)), .agg [.int .i64 (.var 1), .int .i64 (.var 2)]]) (e := [.i i0, .i i1, .i i2]) rfl (by kernel_rfl) (Eq.mp (by kernel_rfl) h)


/-- tracery/tracerylaw09.OpNames: what is left of it. -/
theorem opNames_sx (R : Ending → World → Prop) (S : Nat → Prop) (w0 : World) (A0 : Option Addr) (n1 : Nat) (n2 : Nat) (h :
 ∀ g3 : Nat, w0.heap.size ≤ g3 → (∀ w1 : World, Go.Sx.Fr S w0 w1 → Below w0.heap.size w0 w1 → w0.heap.size ≤ g3 → w1.heap[g3]? = some (.cells #[.slice A0 n1 n2] 38 (0, 0)) → 
 Calls Try.prog 9 #[] w1 fun r w2 => ∃ b4 : Bool, r = .returned (.bool b4) ∧ (Go.Sx.Fr S w0 w2 ∧ Go.Sx.Mild [g3] w1 w2) ∧ 
 (
 Calls Try.prog 13 #[(.agg #[.slice A0 n1 n2])] w2 fun r w3 => ∃ A5 : Option Addr, ∃ n6 : Nat, ∃ n7 : Nat, r = .returned (.agg #[.slice A5 n6 n7]) ∧ (Go.Sx.Fr S w0 w3 ∧ Go.Sx.Mild [g3] w2 w3) ∧ 
 (∀ w4 : World, Go.Sx.Fr S w0 w4 → Go.Sx.Fr (fun b => b ∈ [g3]) w3 w4 → 
 Calls Try.prog 12 #[(.agg #[.slice A5 n6 n7])] w4 fun r w5 => ∃ i8 : Int, r = .returned (.int .i64 i8) ∧ (Go.Sx.Fr S w0 w5 ∧ Go.Sx.Mild [g3] w4 w5) ∧ 
 ((¬ i8 = (0 : Int) →
 (R (.returned (.bool b4)) w5)) ∧
 (i8 = (0 : Int) →
 (
  Calls Try.prog 15 #[(.agg #[.slice A5 n6 n7])] w5 fun r w6 => ∃ A9 : Option Addr, ∃ n10 : Nat, ∃ n11 : Nat, r = .returned (.slice A9 n10 n11) ∧ (Go.Sx.Fr S w0 w6 ∧ Go.Sx.Mild [g3] w5 w6) ∧ 
  (∃ (I0 : Bool → Int → Int → World → Prop) (M0 : Bool → Int → Int → World → Nat), (I0 false (0 : Int) (0 : Int) w6) ∧
  ∀ b12 : Bool, ∀ i13 : Int, ∀ i14 : Int, ∀ w7 : World, Go.Sx.Fr S w0 w7 → I0 b12 i13 i14 w7 → 
   ((i14 < (n6 : Int) →
   ((0 : Int) ≤ i14 ∧ i14 < (n6 : Int) ∧ ∃ p15 : Nat, ∃ o16 : Nat, A5 = some ⟨p15, o16, none⟩ ∧
    (∃ i17 : Int, ∃ i18 : Int, ∃ i19 : Int, ∃ i20 : Int, ∃ i21 : Int, ∃ i22 : Int, ∃ i23 : Int, ∃ i24 : Int, ∃ i25 : Int, ∃ i26 : Int, ∃ i27 : Int, ∃ i28 : Int, ∃ i29 : Int, ∃ i30 : Int, ∃ i31 : Int, ∃ i32 : Int, ∃ i33 : Int, ∃ b34 : Bool, ∃ s35 : ByteArray, ∃ i36 : Int, Go.Sx.CellsAt w7 p15 (o16 + (i14).toNat * 20 + 0) [.int .i64 i17, .int .i64 i18, .int .i64 i19, .int .i64 i20, .int .i64 i21, .int .i64 i22, .int .i64 i23, .int .i64 i24, .int .i64 i25, .int .i64 i26, .int .i64 i27, .int .i64 i28, .int .i64 i29, .int .i64 i30, .int .i64 i31, .int .i64 i32, .int .i64 i33, .bool b34, .string s35, .int .i64 i36] ∧ 
    ∀ g37 : Nat, w0.heap.size ≤ g37 → ((i17 = (1 : Int) →
    (∀ w8 : World, Go.Sx.Fr S w0 w8 → Below w7.heap.size w7 w8 → w7.heap.size ≤ g37 → w8.heap[g37]? = some (.cells #[.int .i64 i17, .int .i64 i18, .int .i64 i19, .int .i64 i20, .int .i64 i21, .int .i64 i22, .int .i64 i23, .int .i64 i24, .int .i64 i25, .int .i64 i26, .int .i64 i27, .int .i64 i28, .int .i64 i29, .int .i64 i30, .int .i64 i31, .int .i64 i32, .int .i64 i33, .bool b34, .string s35, .int .i64 i36] 29 (0, 0)) → 
     (((n10 : Int) < (IntKind.i64.wrap (i13 + (1 : Int))) →
     (∀ w9 : World, Go.Sx.Fr S w0 w9 → Below w8.heap.size w8 w9 → R (.returned (.bool false)) w9)) ∧
     ((IntKind.i64.wrap (i13 + (1 : Int))) ≤ (n10 : Int) →
     ((0 : Int) ≤ i13 ∧ i13 < (n10 : Int) ∧ ∃ p39 : Nat, ∃ o40 : Nat, A9 = some ⟨p39, o40, none⟩ ∧
      (∀ w9 : World, Go.Sx.Fr S w0 w9 → Below w8.heap.size w8 w9 → ∃ i41 : Int, ∃ i42 : Int, Go.Sx.CellsAt w9 p39 (o40 + (i13).toNat * 2 + 0) [.int .i64 i41, .int .i64 i42] ∧ (p39 < w8.heap.size ∧ p39 ∉ []) ∧ 
      (∃ b43 : Bool, (∀ w', Go.Sx.Keep w8.heap.size [] w9 w' → (binOp .neq 23 (.agg #[.int .i64 i41, .int .i64 i42]) (.agg #[.int .i64 i18, .int .i64 i19])).run Try.prog w' = .ok (.bool b43) w') ∧
      ((b43 = true →
      (R (.returned (.bool false)) w9)) ∧
      (b43 = false →
      (I0 b12 (IntKind.i64.wrap (i13 + (1 : Int))) (IntKind.i64.wrap (i14 + (1 : Int))) w9 ∧ M0 b12 (IntKind.i64.wrap (i13 + (1 : Int))) (IntKind.i64.wrap (i14 + (1 : Int))) w9 < M0 b12 i13 i14 w7)))))))))) ∧
    (¬ i17 = (1 : Int) →
    ((i17 = (3 : Int) →
     (∀ w8 : World, Go.Sx.Fr S w0 w8 → Below w7.heap.size w7 w8 → w7.heap.size ≤ g37 → w8.heap[g37]? = some (.cells #[.int .i64 i17, .int .i64 i18, .int .i64 i19, .int .i64 i20, .int .i64 i21, .int .i64 i22, .int .i64 i23, .int .i64 i24, .int .i64 i25, .int .i64 i26, .int .i64 i27, .int .i64 i28, .int .i64 i29, .int .i64 i30, .int .i64 i31, .int .i64 i32, .int .i64 i33, .bool b34, .string s35, .int .i64 i36] 29 (0, 0)) → 
      (((n10 : Int) < (IntKind.i64.wrap (i13 + (1 : Int))) →
      (∀ w9 : World, Go.Sx.Fr S w0 w9 → Below w8.heap.size w8 w9 → R (.returned (.bool false)) w9)) ∧
      ((IntKind.i64.wrap (i13 + (1 : Int))) ≤ (n10 : Int) →
      ((0 : Int) ≤ i13 ∧ i13 < (n10 : Int) ∧ ∃ p39 : Nat, ∃ o40 : Nat, A9 = some ⟨p39, o40, none⟩ ∧
       (∀ w9 : World, Go.Sx.Fr S w0 w9 → Below w8.heap.size w8 w9 → ∃ i41 : Int, ∃ i42 : Int, Go.Sx.CellsAt w9 p39 (o40 + (i13).toNat * 2 + 0) [.int .i64 i41, .int .i64 i42] ∧ (p39 < w8.heap.size ∧ p39 ∉ []) ∧ 
       (∃ b43 : Bool, (∀ w', Go.Sx.Keep w8.heap.size [] w9 w' → (binOp .neq 23 (.agg #[.int .i64 i41, .int .i64 i42]) (.agg #[.int .i64 i18, .int .i64 i19])).run Try.prog w' = .ok (.bool b43) w') ∧
       ((b43 = true →
       (R (.returned (.bool false)) w9)) ∧
       (b43 = false →
       (I0 b12 (IntKind.i64.wrap (i13 + (1 : Int))) (IntKind.i64.wrap (i14 + (1 : Int))) w9 ∧ M0 b12 (IntKind.i64.wrap (i13 + (1 : Int))) (IntKind.i64.wrap (i14 + (1 : Int))) w9 < M0 b12 i13 i14 w7)))))))))) ∧
     (¬ i17 = (3 : Int) →
     ((i17 = (5 : Int) →
      (∀ w8 : World, Go.Sx.Fr S w0 w8 → Below w7.heap.size w7 w8 → w7.heap.size ≤ g37 → w8.heap[g37]? = some (.cells #[.int .i64 i17, .int .i64 i18, .int .i64 i19, .int .i64 i20, .int .i64 i21, .int .i64 i22, .int .i64 i23, .int .i64 i24, .int .i64 i25, .int .i64 i26, .int .i64 i27, .int .i64 i28, .int .i64 i29, .int .i64 i30, .int .i64 i31, .int .i64 i32, .int .i64 i33, .bool b34, .string s35, .int .i64 i36] 29 (0, 0)) → 
       (((n10 : Int) < (IntKind.i64.wrap (i13 + (2 : Int))) →
       (∀ w9 : World, Go.Sx.Fr S w0 w9 → Below w8.heap.size w8 w9 → R (.returned (.bool false)) w9)) ∧
       ((IntKind.i64.wrap (i13 + (2 : Int))) ≤ (n10 : Int) →
       ((0 : Int) ≤ i13 ∧ i13 < (n10 : Int) ∧ ∃ p39 : Nat, ∃ o40 : Nat, A9 = some ⟨p39, o40, none⟩ ∧
        (∀ w9 : World, Go.Sx.Fr S w0 w9 → Below w8.heap.size w8 w9 → ∃ i41 : Int, ∃ i42 : Int, Go.Sx.CellsAt w9 p39 (o40 + (i13).toNat * 2 + 0) [.int .i64 i41, .int .i64 i42] ∧ (p39 < w8.heap.size ∧ p39 ∉ []) ∧ 
        (∃ b43 : Bool, (∀ w', Go.Sx.Keep w8.heap.size [] w9 w' → (binOp .neq 23 (.agg #[.int .i64 i41, .int .i64 i42]) (.agg #[.int .i64 i20, .int .i64 i21])).run Try.prog w' = .ok (.bool b43) w') ∧
        ((b43 = true →
        (R (.returned (.bool false)) w9)) ∧
        (b43 = false →
        ((0 : Int) ≤ (IntKind.i64.wrap (i13 + (1 : Int))) ∧ (IntKind.i64.wrap (i13 + (1 : Int))) < (n10 : Int) ∧ ∃ p44 : Nat, ∃ o45 : Nat, A9 = some ⟨p44, o45, none⟩ ∧
         (∃ i46 : Int, ∃ i47 : Int, Go.Sx.CellsAt w9 p44 (o45 + ((IntKind.i64.wrap (i13 + (1 : Int)))).toNat * 2 + 0) [.int .i64 i46, .int .i64 i47] ∧ (p44 < w8.heap.size ∧ p44 ∉ []) ∧ 
         (∃ b48 : Bool, (∀ w', Go.Sx.Keep w8.heap.size [] w9 w' → (binOp .neq 23 (.agg #[.int .i64 i46, .int .i64 i47]) (.agg #[.int .i64 i22, .int .i64 i23])).run Try.prog w' = .ok (.bool b48) w') ∧
         ((b48 = true →
         (R (.returned (.bool false)) w9)) ∧
         (b48 = false →
         (I0 b12 (IntKind.i64.wrap (i13 + (2 : Int))) (IntKind.i64.wrap (i14 + (1 : Int))) w9 ∧ M0 b12 (IntKind.i64.wrap (i13 + (2 : Int))) (IntKind.i64.wrap (i14 + (1 : Int))) w9 < M0 b12 i13 i14 w7))))))))))))))) ∧
      (¬ i17 = (5 : Int) →
      (∀ w8 : World, Go.Sx.Fr S w0 w8 → Below w7.heap.size w7 w8 → w7.heap.size ≤ g37 → w8.heap[g37]? = some (.cells #[.int .i64 i17, .int .i64 i18, .int .i64 i19, .int .i64 i20, .int .i64 i21, .int .i64 i22, .int .i64 i23, .int .i64 i24, .int .i64 i25, .int .i64 i26, .int .i64 i27, .int .i64 i28, .int .i64 i29, .int .i64 i30, .int .i64 i31, .int .i64 i32, .int .i64 i33, .bool b34, .string s35, .int .i64 i36] 29 (0, 0)) → 
       (((n10 : Int) < (IntKind.i64.wrap (i13 + (0 : Int))) →
       (∀ w9 : World, Go.Sx.Fr S w0 w9 → Below w8.heap.size w8 w9 → R (.returned (.bool false)) w9)) ∧
       ((IntKind.i64.wrap (i13 + (0 : Int))) ≤ (n10 : Int) →
       (∀ w9 : World, Go.Sx.Fr S w0 w9 → Below w8.heap.size w8 w9 → I0 b12 (IntKind.i64.wrap (i13 + (0 : Int))) (IntKind.i64.wrap (i14 + (1 : Int))) w9 ∧ M0 b12 (IntKind.i64.wrap (i13 + (0 : Int))) (IntKind.i64.wrap (i14 + (1 : Int))) w9 < M0 b12 i13 i14 w7))))))))))))) ∧
   ((n6 : Int) ≤ i14 →
   (∃ (I1 : Bool → Int → World → Prop) (M1 : Bool → Int → World → Nat), (I1 b12 (0 : Int) w7) ∧
    ∀ b15 : Bool, ∀ i16 : Int, ∀ w8 : World, Go.Sx.Fr S w0 w8 → I1 b15 i16 w8 → 
     ((i16 < (n10 : Int) →
     ((0 : Int) ≤ i16 ∧ i16 < (n10 : Int) ∧ ∃ p17 : Nat, ∃ o18 : Nat, A9 = some ⟨p17, o18, none⟩ ∧
      (∃ i19 : Int, ∃ i20 : Int, Go.Sx.CellsAt w8 p17 (o18 + (i16).toNat * 2 + 0) [.int .i64 i19, .int .i64 i20] ∧ 
      (
      Calls Try.prog 11 #[(.agg #[.int .i64 i19, .int .i64 i20])] w8 fun r w9 => ∃ b21 : Bool, r = .returned (.bool b21) ∧ (Go.Sx.Fr S w0 w9 ∧ Go.Sx.Mild [g3] w8 w9) ∧ 
      ((b21 = false →
      (R (.returned (.bool false)) w9)) ∧
      (b21 = true →
      (I1 b15 (IntKind.i64.wrap (i16 + (1 : Int))) w9 ∧ M1 b15 (IntKind.i64.wrap (i16 + (1 : Int))) w9 < M1 b15 i16 w8))))))) ∧
     ((n10 : Int) ≤ i16 →
     ((b4 = true →
      (R (.returned (.bool (i13 == (n10 : Int)))) w8)) ∧
      (b4 = false →
      (R (.returned (.bool false)) w8)))))))))))))))) :
    Calls Try.prog 6 #[(.agg #[.slice A0 n1 n2])] w0 R :=
  Go.Sx.fn_sound0 (P := Try.prog) (S := S) (w0 := w0) (R := R) (ws := []) (an := [⟨999999, [], [], 0⟩]) (f := 6) (n := 3) (xs := [.agg [.slice (.var 0) (.var 1) (.var 2)]]) (e := [.a A0, .n n1, .n n2]) rfl (by kernel_rfl) (Eq.mp (by kernel_rfl) h)


/-- tracery/tracerylaw09.OpMay: what is left of it. -/
theorem opMay_sx (R : Ending → World → Prop) (S : Nat → Prop) (w0 : World) (i0 : Int) (i1 : Int) (i2 : Int) (i3 : Int) (i4 : Int) (i5 : Int) (i6 : Int) (i7 : Int) (i8 : Int) (i9 : Int) (i10 : Int) (i11 : Int) (i12 : Int) (i13 : Int) (i14 : Int) (i15 : Int) (i16 : Int) (b17 : Bool) (s18 : ByteArray) (i19 : Int) (A20 : Option Addr) (n21 : Nat) (n22 : Nat) (A23 : Option Addr) (n24 : Nat) (n25 : Nat) (h :
 ∀ g26 : Nat, w0.heap.size ≤ g26 → ∀ g27 : Nat, w0.heap.size ≤ g27 → ∀ g28 : Nat, w0.heap.size ≤ g28 → (∀ w1 : World, Go.Sx.Fr S w0 w1 → Below w0.heap.size w0 w1 → 
 Calls Try.prog 9 #[] w1 fun r w2 => ∃ b29 : Bool, r = .returned (.bool b29) ∧ (Go.Sx.Fr S w0 w2 ∧ Go.Sx.Mild [g28, g27, g26] w1 w2) ∧ 
 (
 Calls Try.prog 13 #[(.agg #[.slice A20 n21 n22])] w2 fun r w3 => ∃ A30 : Option Addr, ∃ n31 : Nat, ∃ n32 : Nat, r = .returned (.agg #[.slice A30 n31 n32]) ∧ (Go.Sx.Fr S w0 w3 ∧ Go.Sx.Mild [g28, g27, g26] w2 w3) ∧ 
 (∀ w4 : World, Go.Sx.Fr S w0 w4 → Go.Sx.Fr (fun b => b ∈ [g27]) w3 w4 → 
 Calls Try.prog 13 #[(.agg #[.slice A23 n24 n25])] w4 fun r w5 => ∃ A33 : Option Addr, ∃ n34 : Nat, ∃ n35 : Nat, r = .returned (.agg #[.slice A33 n34 n35]) ∧ (Go.Sx.Fr S w0 w5 ∧ Go.Sx.Mild [g28, g27, g26] w4 w5) ∧ 
 (∀ w6 : World, Go.Sx.Fr S w0 w6 → Go.Sx.Fr (fun b => b ∈ [g28]) w5 w6 → 
 (∀ w7 : World, Go.Sx.Fr S w0 w7 → Below w6.heap.size w6 w7 → 
 Calls Try.prog 15 #[(.agg #[.slice A30 n31 n32])] w7 fun r w8 => ∃ A37 : Option Addr, ∃ n38 : Nat, ∃ n39 : Nat, r = .returned (.slice A37 n38 n39) ∧ (Go.Sx.Fr S w0 w8 ∧ Go.Sx.Mild [g28, g27, g26] w7 w8) ∧ Go.Sx.Keep w6.heap.size [] w7 w8 ∧ 
 (
 Calls Try.prog 17 #[(.agg #[.slice A30 n31 n32])] w8 fun r w9 => ∃ A40 : Option Addr, ∃ n41 : Nat, ∃ n42 : Nat, r = .returned (.slice A40 n41 n42) ∧ (Go.Sx.Fr S w0 w9 ∧ Go.Sx.Mild [g28, g27, g26] w8 w9) ∧ 
 (
 Calls Try.prog 16 #[(.slice A37 n38 n39), (.slice A40 n41 n42)] w9 fun r w10 => ∃ b43 : Bool, r = .returned (.bool b43) ∧ (Go.Sx.Fr S w0 w10 ∧ Go.Sx.Mild [g28, g27, g26] w9 w10) ∧ 
 (
 ((b29 = true →
 (∀ w11 : World, Go.Sx.Fr S w0 w11 → Below w10.heap.size w10 w11 → 
  Calls Try.prog 10 #[(.agg #[.int .i64 i0, .int .i64 i1, .int .i64 i2, .int .i64 i3, .int .i64 i4, .int .i64 i5, .int .i64 i6, .int .i64 i7, .int .i64 i8, .int .i64 i9, .int .i64 i10, .int .i64 i11, .int .i64 i12, .int .i64 i13, .int .i64 i14, .int .i64 i15, .int .i64 i16, .bool b17, .string s18, .int .i64 i19])] w11 fun r w12 => ∃ i45 : Int, r = .returned (.int .i64 i45) ∧ (Go.Sx.Fr S w0 w12 ∧ Go.Sx.Mild [g28, g27, g26] w11 w12) ∧ Go.Sx.Keep w10.heap.size [] w11 w12 ∧ 
  (
  Calls Try.prog 18 #[(.agg #[.int .i64 i0, .int .i64 i1, .int .i64 i2, .int .i64 i3, .int .i64 i4, .int .i64 i5, .int .i64 i6, .int .i64 i7, .int .i64 i8, .int .i64 i9, .int .i64 i10, .int .i64 i11, .int .i64 i12, .int .i64 i13, .int .i64 i14, .int .i64 i15, .int .i64 i16, .bool b17, .string s18, .int .i64 i19])] w12 fun r w13 => ∃ i46 : Int, r = .returned (.int .i64 i46) ∧ (Go.Sx.Fr S w0 w13 ∧ Go.Sx.Mild [g28, g27, g26] w12 w13) ∧ Go.Sx.Keep w10.heap.size [] w12 w13 ∧ 
  ((i45 = i46 →
  (
   Calls Try.prog 12 #[(.agg #[.slice A30 n31 n32])] w13 fun r w14 => ∃ i47 : Int, r = .returned (.int .i64 i47) ∧ (Go.Sx.Fr S w0 w14 ∧ Go.Sx.Mild [g28, g27, g26] w13 w14) ∧ Go.Sx.Keep w10.heap.size [] w13 w14 ∧ 
   (
   Calls Try.prog 19 #[(.agg #[.slice A30 n31 n32])] w14 fun r w15 => ∃ i48 : Int, r = .returned (.int .i64 i48) ∧ (Go.Sx.Fr S w0 w15 ∧ Go.Sx.Mild [g28, g27, g26] w14 w15) ∧ Go.Sx.Keep w10.heap.size [] w14 w15 ∧ 
   ((i47 = i48 →
   (
    Calls Try.prog 14 #[(.agg #[.slice A30 n31 n32]), (.agg #[.slice A33 n34 n35])] w15 fun r w16 => ∃ b49 : Bool, r = .returned (.bool b49) ∧ (Go.Sx.Fr S w0 w16 ∧ Go.Sx.Mild [g28, g27, g26] w15 w16) ∧ Go.Sx.Keep w10.heap.size [] w15 w16 ∧ 
    (
    Calls Try.prog 20 #[(.agg #[.slice A30 n31 n32]), (.agg #[.slice A33 n34 n35])] w16 fun r w17 => ∃ b50 : Bool, r = .returned (.bool b50) ∧ (Go.Sx.Fr S w0 w17 ∧ Go.Sx.Mild [g28, g27, g26] w16 w17) ∧ 
    (∃ b51 : Bool, (binOp .eql 4 (.bool b49) (.bool b50)).run Try.prog w17 = .ok (.bool b51) w17 ∧
    ((b51 = true →
    (R (.returned (.bool b43)) w17)) ∧
    (b51 = false →
    (R (.returned (.bool false)) w17))))))) ∧
   (¬ i47 = i48 →
   (R (.returned (.bool false)) w15)))))) ∧
  (¬ i45 = i46 →
  (R (.returned (.bool false)) w13)))))) ∧
 (b29 = false →
 (∀ w11 : World, Go.Sx.Fr S w0 w11 → Below w10.heap.size w10 w11 → R (.returned (.bool false)) w11)))))))))))) :
    Calls Try.prog 7 #[(.agg #[.int .i64 i0, .int .i64 i1, .int .i64 i2, .int .i64 i3, .int .i64 i4, .int .i64 i5, .int .i64 i6, .int .i64 i7, .int .i64 i8, .int .i64 i9, .int .i64 i10, .int .i64 i11, .int .i64 i12, .int .i64 i13, .int .i64 i14, .int .i64 i15, .int .i64 i16, .bool b17, .string s18, .int .i64 i19]), (.agg #[.slice A20 n21 n22]), (.agg #[.slice A23 n24 n25])] w0 R :=
  Go.Sx.fn_sound0 (P := Try.prog) (S := S) (w0 := w0) (R := R) (ws := []) (an := []) (f := 7) (n := 26) (xs := [.agg [.int .i64 (.var 0), .int .i64 (.var 1), .int .i64 (.var 2), .int .i64 (.var 3), .int .i64 (.var 4), .int .i64 (.var 5), .int .i64 (.var 6), .int .i64 (.var 7), .int .i64 (.var 8), .int .i64 (.var 9), .int .i64 (.var 10), .int .i64 (.var 11), .int .i64 (.var 12), .int .i64 (.var 13), .int .i64 (.var 14), .int .i64 (.var 15), .int .i64 (.var 16), .bool (.var 17), .str (.var 18), .int .i64 (.var 19)], .agg [.slice (.var 20) (.var 21) (.var 22)], .agg [.slice (.var 23) (.var 24) (.var 25)]]) (e := [.i i0, .i i1, .i i2, .i i3, .i i4, .i i5, .i i6, .i i7, .i i8, .i i9, .i i10, .i i11, .i i12, .i i13, .i i14, .i i15, .i i16, .b b17, .s s18, .i i19, .a A20, .n n21, .n n22, .a A23, .n n24, .n n25]) rfl (by kernel_rfl) (Eq.mp (by kernel_rfl) h)


end Go.Proofs.Ytlcjlcfogcbddaa
