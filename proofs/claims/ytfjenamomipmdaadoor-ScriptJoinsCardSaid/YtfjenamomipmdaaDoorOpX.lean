/- What is left of the functions of packages ident, diagram, op and of their references, by Sx. -/
import Derived.Test.YtfjenamomipmdaaDoorProg
import Derived.Test.YtfjenamomipmdaaDoorSs
import Derived.KernelRfl
set_option linter.unusedVariables false
namespace Go.Proofs.YtfjenamomipmdaaDoor
open Go Go.RowKit Go.Proofs Go.Trc
set_option maxRecDepth 100000
/-- tracery/ident.May: what is left of it. -/
theorem ident_May_sx (R : Ending → World → Prop) (S : Nat → Prop) (w0 : World) (i0 : Int) (i1 : Int) (h :
 ∀ g2 : Nat, w0.heap.size ≤ g2 → (((1 : Int) ≤ i0 →
 ((i0 ≤ (8 : Int) →
  (((1 : Int) ≤ i1 →
   (∀ w1 : World, Go.Sx.Fr S w0 w1 → Below w0.heap.size w0 w1 → R (.returned (.bool (decide (i1 ≤ (1048576 : Int))))) w1)) ∧
   (i1 < (1 : Int) →
   (∀ w1 : World, Go.Sx.Fr S w0 w1 → Below w0.heap.size w0 w1 → R (.returned (.bool false)) w1)))) ∧
  ((8 : Int) < i0 →
  (∀ w1 : World, Go.Sx.Fr S w0 w1 → Below w0.heap.size w0 w1 → R (.returned (.bool false)) w1)))) ∧
 (i0 < (1 : Int) →
 (∀ w1 : World, Go.Sx.Fr S w0 w1 → Below w0.heap.size w0 w1 → R (.returned (.bool false)) w1)))) :
    Calls Tryd.prog 106 #[(.agg #[.int .i64 i0, .int .i64 i1])] w0 R :=
  Go.Sx.fn_sound0 (P := Tryd.prog) (S := S) (w0 := w0) (R := R) (ws := []) (an := []) (f := 106) (n := 2) (xs := [.agg [.int .i64 (.var 0), .int .i64 (.var 1)]]) (e := [.i i0, .i i1]) rfl (by kernel_rfl) (Eq.mp (by kernel_rfl) h)


/-- tracery/ident.MayDart: what is left of it. -/
theorem ident_MayDart_sx (R : Ending → World → Prop) (S : Nat → Prop) (w0 : World) (i0 : Int) (i1 : Int) (i2 : Int) (h :
 ∀ g3 : Nat, w0.heap.size ≤ g3 → (∀ w1 : World, Go.Sx.Fr S w0 w1 → Below w0.heap.size w0 w1 → 
 Calls Tryd.prog 106 #[(.agg #[.int .i64 i0, .int .i64 i1])] w1 fun r w2 => ∃ b4 : Bool, r = .returned (.bool b4) ∧ (Go.Sx.Fr S w0 w2 ∧ Go.Sx.Mild [g3] w1 w2) ∧ 
 ((b4 = true →
 (R (.returned (.bool ((bits .andNot .i64 i2 (1 : Int)) == (0 : Int)))) w2)) ∧
 (b4 = false →
 (R (.returned (.bool false)) w2))))) :
    Calls Tryd.prog 116 #[(.agg #[.int .i64 i0, .int .i64 i1, .int .i64 i2])] w0 R :=
  Go.Sx.fn_sound0 (P := Tryd.prog) (S := S) (w0 := w0) (R := R) (ws := []) (an := []) (f := 116) (n := 3) (xs := [.agg [.int .i64 (.var 0), .int .i64 (.var 1), .int .i64 (.var 2)]]) (e := [.i i0, .i i1, .i i2]) rfl (by kernel_rfl) (Eq.mp (by kernel_rfl) h)


/-- tracery/op.corner: what is left of it. -/
theorem op_corner_sx (R : Ending → World → Prop) (S : Nat → Prop) (w0 : World) (i0 : Int) (i1 : Int) (i2 : Int) (i3 : Int) (i4 : Int) (h :
 ∀ g5 : Nat, w0.heap.size ≤ g5 → (∀ w1 : World, Go.Sx.Fr S w0 w1 → Below w0.heap.size w0 w1 → 
 Calls Tryd.prog 106 #[(.agg #[.int .i64 i0, .int .i64 i1])] w1 fun r w2 => ∃ b6 : Bool, r = .returned (.bool b6) ∧ (Go.Sx.Fr S w0 w2 ∧ Go.Sx.Mild [g5] w1 w2) ∧ 
 ((b6 = true →
 (∃ b7 : Bool, (binOp .eql 35 (.agg #[.int .i64 i2, .int .i64 i3, .int .i64 i4]) (.agg #[.int .i64 (0 : Int), .int .i64 (0 : Int), .int .i64 (0 : Int)])).run Tryd.prog w2 = .ok (.bool b7) w2 ∧
  ((b7 = true →
  (R (.returned (.bool true)) w2)) ∧
  (b7 = false →
  (
   Calls Tryd.prog 116 #[(.agg #[.int .i64 i2, .int .i64 i3, .int .i64 i4])] w2 fun r w3 => ∃ b8 : Bool, r = .returned (.bool b8) ∧ (Go.Sx.Fr S w0 w3 ∧ Go.Sx.Mild [g5] w2 w3) ∧ 
   (R (.returned (.bool b8)) w3)))))) ∧
 (b6 = false →
 (R (.returned (.bool false)) w2))))) :
    Calls Tryd.prog 107 #[(.agg #[.int .i64 i0, .int .i64 i1, .int .i64 i2, .int .i64 i3, .int .i64 i4])] w0 R :=
  Go.Sx.fn_sound0 (P := Tryd.prog) (S := S) (w0 := w0) (R := R) (ws := []) (an := []) (f := 107) (n := 5) (xs := [.agg [.int .i64 (.var 0), .int .i64 (.var 1), .int .i64 (.var 2), .int .i64 (.var 3), .int .i64 (.var 4)]]) (e := [.i i0, .i i1, .i i2, .i i3, .i i4]) rfl (by kernel_rfl) (Eq.mp (by kernel_rfl) h)


/-- tracery/diagram.MayAttr: what is left of it. -/
theorem diagram_MayAttr_sx (R : Ending → World → Prop) (S : Nat → Prop) (w0 : World) (i0 : Int) (h :
 (((-1099511627776 : Int) ≤ i0 →
 (R (.returned (.bool (decide (i0 ≤ (1099511627776 : Int))))) w0)) ∧
 (i0 < (-1099511627776 : Int) →
 (R (.returned (.bool false)) w0)))) :
    Calls Tryd.prog 109 #[(.int .i64 i0)] w0 R :=
  Go.Sx.fn_sound0 (P := Tryd.prog) (S := S) (w0 := w0) (R := R) (ws := []) (an := []) (f := 109) (n := 1) (xs := [.one (.int .i64 (.var 0))]) (e := [.i i0]) rfl (by kernel_rfl) (Eq.mp (by kernel_rfl) h)


/-- tracery/op.only: what is left of it. -/
theorem op_only_sx (R : Ending → World → Prop) (S : Nat → Prop) (w0 : World) (i0 : Int) (i1 : Int) (i2 : Int) (i3 : Int) (i4 : Int) (i5 : Int) (i6 : Int) (i7 : Int) (i8 : Int) (i9 : Int) (i10 : Int) (i11 : Int) (i12 : Int) (i13 : Int) (i14 : Int) (i15 : Int) (i16 : Int) (b17 : Bool) (s18 : ByteArray) (i19 : Int) (h :
 ∀ g20 : Nat, w0.heap.size ≤ g20 → ∀ g21 : Nat, w0.heap.size ≤ g21 → (∀ w1 : World, Go.Sx.Fr S w0 w1 → Below w0.heap.size w0 w1 → 
 Calls Tryd.prog 106 #[(.agg #[.int .i64 i1, .int .i64 i2])] w1 fun r w2 => ∃ b22 : Bool, r = .returned (.bool b22) ∧ (Go.Sx.Fr S w0 w2 ∧ Go.Sx.Mild [g21, g20] w1 w2) ∧ 
 ((i0 = (1 : Int) →
 ((b22 = false →
  (∀ w3 : World, Go.Sx.Fr S w0 w3 → Go.Sx.Fr (fun b => b ∈ [g21]) w2 w3 → R (.returned (.tuple #[.agg #[.int .i64 i0, .int .i64 i1, .int .i64 i2, .int .i64 (0 : Int), .int .i64 (0 : Int), .int .i64 (0 : Int), .int .i64 (0 : Int), .int .i64 (0 : Int), .int .i64 (0 : Int), .int .i64 (0 : Int), .int .i64 (0 : Int), .int .i64 (0 : Int), .int .i64 (0 : Int), .int .i64 (0 : Int), .int .i64 (0 : Int), .int .i64 (0 : Int), .int .i64 (0 : Int), .bool false, .string (⟨#[]⟩ : ByteArray), .int .i64 (0 : Int)], .int .i64 (1 : Int)])) w3)) ∧
  (b22 = true →
  (∀ w3 : World, Go.Sx.Fr S w0 w3 → Go.Sx.Fr (fun b => b ∈ [g21]) w2 w3 → R (.returned (.tuple #[.agg #[.int .i64 i0, .int .i64 i1, .int .i64 i2, .int .i64 (0 : Int), .int .i64 (0 : Int), .int .i64 (0 : Int), .int .i64 (0 : Int), .int .i64 (0 : Int), .int .i64 (0 : Int), .int .i64 (0 : Int), .int .i64 (0 : Int), .int .i64 (0 : Int), .int .i64 (0 : Int), .int .i64 (0 : Int), .int .i64 (0 : Int), .int .i64 (0 : Int), .int .i64 (0 : Int), .bool false, .string (⟨#[]⟩ : ByteArray), .int .i64 (0 : Int)], .int .i64 (0 : Int)])) w3)))) ∧
 (¬ i0 = (1 : Int) →
 ((i0 = (2 : Int) →
  ((b22 = false →
   (∀ w3 : World, Go.Sx.Fr S w0 w3 → Go.Sx.Fr (fun b => b ∈ [g21]) w2 w3 → R (.returned (.tuple #[.agg #[.int .i64 i0, .int .i64 i1, .int .i64 i2, .int .i64 (0 : Int), .int .i64 (0 : Int), .int .i64 (0 : Int), .int .i64 (0 : Int), .int .i64 (0 : Int), .int .i64 (0 : Int), .int .i64 (0 : Int), .int .i64 (0 : Int), .int .i64 (0 : Int), .int .i64 (0 : Int), .int .i64 (0 : Int), .int .i64 (0 : Int), .int .i64 (0 : Int), .int .i64 (0 : Int), .bool false, .string (⟨#[]⟩ : ByteArray), .int .i64 (0 : Int)], .int .i64 (1 : Int)])) w3)) ∧
   (b22 = true →
   (∀ w3 : World, Go.Sx.Fr S w0 w3 → Go.Sx.Fr (fun b => b ∈ [g21]) w2 w3 → R (.returned (.tuple #[.agg #[.int .i64 i0, .int .i64 i1, .int .i64 i2, .int .i64 (0 : Int), .int .i64 (0 : Int), .int .i64 (0 : Int), .int .i64 (0 : Int), .int .i64 (0 : Int), .int .i64 (0 : Int), .int .i64 (0 : Int), .int .i64 (0 : Int), .int .i64 (0 : Int), .int .i64 (0 : Int), .int .i64 (0 : Int), .int .i64 (0 : Int), .int .i64 (0 : Int), .int .i64 (0 : Int), .bool false, .string (⟨#[]⟩ : ByteArray), .int .i64 (0 : Int)], .int .i64 (0 : Int)])) w3)))) ∧
  (¬ i0 = (2 : Int) →
  ((i0 = (4 : Int) →
   ((b22 = false →
    (∀ w3 : World, Go.Sx.Fr S w0 w3 → Go.Sx.Fr (fun b => b ∈ [g21]) w2 w3 → R (.returned (.tuple #[.agg #[.int .i64 i0, .int .i64 i1, .int .i64 i2, .int .i64 (0 : Int), .int .i64 (0 : Int), .int .i64 (0 : Int), .int .i64 (0 : Int), .int .i64 (0 : Int), .int .i64 (0 : Int), .int .i64 (0 : Int), .int .i64 (0 : Int), .int .i64 (0 : Int), .int .i64 (0 : Int), .int .i64 (0 : Int), .int .i64 (0 : Int), .int .i64 (0 : Int), .int .i64 (0 : Int), .bool false, .string (⟨#[]⟩ : ByteArray), .int .i64 (0 : Int)], .int .i64 (1 : Int)])) w3)) ∧
    (b22 = true →
    (∀ w3 : World, Go.Sx.Fr S w0 w3 → Go.Sx.Fr (fun b => b ∈ [g21]) w2 w3 → R (.returned (.tuple #[.agg #[.int .i64 i0, .int .i64 i1, .int .i64 i2, .int .i64 (0 : Int), .int .i64 (0 : Int), .int .i64 (0 : Int), .int .i64 (0 : Int), .int .i64 (0 : Int), .int .i64 (0 : Int), .int .i64 (0 : Int), .int .i64 (0 : Int), .int .i64 (0 : Int), .int .i64 (0 : Int), .int .i64 (0 : Int), .int .i64 (0 : Int), .int .i64 (0 : Int), .int .i64 (0 : Int), .bool false, .string (⟨#[]⟩ : ByteArray), .int .i64 (0 : Int)], .int .i64 (0 : Int)])) w3)))) ∧
   (¬ i0 = (4 : Int) →
   ((i0 = (6 : Int) →
    ((b22 = true →
     (∀ w3 : World, Go.Sx.Fr S w0 w3 → Go.Sx.Fr (fun b => b ∈ [g21]) w2 w3 → 
      Calls Tryd.prog 106 #[(.agg #[.int .i64 i5, .int .i64 i6])] w3 fun r w4 => ∃ b23 : Bool, r = .returned (.bool b23) ∧ (Go.Sx.Fr S w0 w4 ∧ Go.Sx.Mild [g21, g20] w3 w4) ∧ 
      ((b23 = false →
      (∀ w5 : World, Go.Sx.Fr S w0 w5 → Go.Sx.Fr (fun b => b ∈ [g21]) w4 w5 → R (.returned (.tuple #[.agg #[.int .i64 i0, .int .i64 i1, .int .i64 i2, .int .i64 (0 : Int), .int .i64 (0 : Int), .int .i64 i5, .int .i64 i6, .int .i64 (0 : Int), .int .i64 (0 : Int), .int .i64 (0 : Int), .int .i64 (0 : Int), .int .i64 (0 : Int), .int .i64 (0 : Int), .int .i64 (0 : Int), .int .i64 (0 : Int), .int .i64 (0 : Int), .int .i64 (0 : Int), .bool false, .string (⟨#[]⟩ : ByteArray), .int .i64 (0 : Int)], .int .i64 (1 : Int)])) w5)) ∧
      (b23 = true →
      (∀ w5 : World, Go.Sx.Fr S w0 w5 → Go.Sx.Fr (fun b => b ∈ [g21]) w4 w5 → R (.returned (.tuple #[.agg #[.int .i64 i0, .int .i64 i1, .int .i64 i2, .int .i64 (0 : Int), .int .i64 (0 : Int), .int .i64 i5, .int .i64 i6, .int .i64 (0 : Int), .int .i64 (0 : Int), .int .i64 (0 : Int), .int .i64 (0 : Int), .int .i64 (0 : Int), .int .i64 (0 : Int), .int .i64 (0 : Int), .int .i64 (0 : Int), .int .i64 (0 : Int), .int .i64 (0 : Int), .bool false, .string (⟨#[]⟩ : ByteArray), .int .i64 (0 : Int)], .int .i64 (0 : Int)])) w5))))) ∧
     (b22 = false →
     (∀ w3 : World, Go.Sx.Fr S w0 w3 → Go.Sx.Fr (fun b => b ∈ [g21]) w2 w3 → R (.returned (.tuple #[.agg #[.int .i64 i0, .int .i64 i1, .int .i64 i2, .int .i64 (0 : Int), .int .i64 (0 : Int), .int .i64 i5, .int .i64 i6, .int .i64 (0 : Int), .int .i64 (0 : Int), .int .i64 (0 : Int), .int .i64 (0 : Int), .int .i64 (0 : Int), .int .i64 (0 : Int), .int .i64 (0 : Int), .int .i64 (0 : Int), .int .i64 (0 : Int), .int .i64 (0 : Int), .bool false, .string (⟨#[]⟩ : ByteArray), .int .i64 (0 : Int)], .int .i64 (1 : Int)])) w3)))) ∧
    (¬ i0 = (6 : Int) →
    ((i0 = (3 : Int) →
     (
      ((b22 = true →
      (∀ w3 : World, Go.Sx.Fr S w0 w3 → Go.Sx.Fr (fun b => b ∈ [g21]) w2 w3 → 
       Calls Tryd.prog 107 #[(.agg #[.int .i64 i7, .int .i64 i8, .int .i64 i9, .int .i64 i10, .int .i64 i11])] w3 fun r w4 => ∃ b24 : Bool, r = .returned (.bool b24) ∧ (Go.Sx.Fr S w0 w4 ∧ Go.Sx.Mild [g21, g20] w3 w4) ∧ 
       ((b24 = true →
       (
        Calls Tryd.prog 107 #[(.agg #[.int .i64 i12, .int .i64 i13, .int .i64 i14, .int .i64 i15, .int .i64 i16])] w4 fun r w5 => ∃ b25 : Bool, r = .returned (.bool b25) ∧ (Go.Sx.Fr S w0 w5 ∧ Go.Sx.Mild [g21, g20] w4 w5) ∧ 
        ((b25 = false →
        (∀ w6 : World, Go.Sx.Fr S w0 w6 → Go.Sx.Fr (fun b => b ∈ [g21]) w5 w6 → R (.returned (.tuple #[.agg #[.int .i64 i0, .int .i64 i1, .int .i64 i2, .int .i64 (0 : Int), .int .i64 (0 : Int), .int .i64 (0 : Int), .int .i64 (0 : Int), .int .i64 i7, .int .i64 i8, .int .i64 i9, .int .i64 i10, .int .i64 i11, .int .i64 i12, .int .i64 i13, .int .i64 i14, .int .i64 i15, .int .i64 i16, .bool false, .string (⟨#[]⟩ : ByteArray), .int .i64 (0 : Int)], .int .i64 (1 : Int)])) w6)) ∧
        (b25 = true →
        (∀ w6 : World, Go.Sx.Fr S w0 w6 → Go.Sx.Fr (fun b => b ∈ [g21]) w5 w6 → R (.returned (.tuple #[.agg #[.int .i64 i0, .int .i64 i1, .int .i64 i2, .int .i64 (0 : Int), .int .i64 (0 : Int), .int .i64 (0 : Int), .int .i64 (0 : Int), .int .i64 i7, .int .i64 i8, .int .i64 i9, .int .i64 i10, .int .i64 i11, .int .i64 i12, .int .i64 i13, .int .i64 i14, .int .i64 i15, .int .i64 i16, .bool false, .string (⟨#[]⟩ : ByteArray), .int .i64 (0 : Int)], .int .i64 (0 : Int)])) w6))))) ∧
       (b24 = false →
       (∀ w5 : World, Go.Sx.Fr S w0 w5 → Go.Sx.Fr (fun b => b ∈ [g21]) w4 w5 → R (.returned (.tuple #[.agg #[.int .i64 i0, .int .i64 i1, .int .i64 i2, .int .i64 (0 : Int), .int .i64 (0 : Int), .int .i64 (0 : Int), .int .i64 (0 : Int), .int .i64 i7, .int .i64 i8, .int .i64 i9, .int .i64 i10, .int .i64 i11, .int .i64 i12, .int .i64 i13, .int .i64 i14, .int .i64 i15, .int .i64 i16, .bool false, .string (⟨#[]⟩ : ByteArray), .int .i64 (0 : Int)], .int .i64 (1 : Int)])) w5))))) ∧
      (b22 = false →
      (∀ w3 : World, Go.Sx.Fr S w0 w3 → Go.Sx.Fr (fun b => b ∈ [g21]) w2 w3 → R (.returned (.tuple #[.agg #[.int .i64 i0, .int .i64 i1, .int .i64 i2, .int .i64 (0 : Int), .int .i64 (0 : Int), .int .i64 (0 : Int), .int .i64 (0 : Int), .int .i64 i7, .int .i64 i8, .int .i64 i9, .int .i64 i10, .int .i64 i11, .int .i64 i12, .int .i64 i13, .int .i64 i14, .int .i64 i15, .int .i64 i16, .bool false, .string (⟨#[]⟩ : ByteArray), .int .i64 (0 : Int)], .int .i64 (1 : Int)])) w3))))) ∧
     (¬ i0 = (3 : Int) →
     ((i0 = (5 : Int) →
      (
       ((b22 = true →
       (∀ w3 : World, Go.Sx.Fr S w0 w3 → Go.Sx.Fr (fun b => b ∈ [g21]) w2 w3 → 
        Calls Tryd.prog 106 #[(.agg #[.int .i64 i3, .int .i64 i4])] w3 fun r w4 => ∃ b24 : Bool, r = .returned (.bool b24) ∧ (Go.Sx.Fr S w0 w4 ∧ Go.Sx.Mild [g21, g20] w3 w4) ∧ 
        ((b24 = true →
        (
         Calls Tryd.prog 106 #[(.agg #[.int .i64 i5, .int .i64 i6])] w4 fun r w5 => ∃ b25 : Bool, r = .returned (.bool b25) ∧ (Go.Sx.Fr S w0 w5 ∧ Go.Sx.Mild [g21, g20] w4 w5) ∧ 
         ((b25 = true →
         ((¬ (bits .andNot .i64 i19 (3 : Int)) = (0 : Int) →
          (∀ w6 : World, Go.Sx.Fr S w0 w6 → Go.Sx.Fr (fun b => b ∈ [g21]) w5 w6 → R (.returned (.tuple #[.agg #[.int .i64 i0, .int .i64 i1, .int .i64 i2, .int .i64 i3, .int .i64 i4, .int .i64 i5, .int .i64 i6, .int .i64 (0 : Int), .int .i64 (0 : Int), .int .i64 (0 : Int), .int .i64 (0 : Int), .int .i64 (0 : Int), .int .i64 (0 : Int), .int .i64 (0 : Int), .int .i64 (0 : Int), .int .i64 (0 : Int), .int .i64 (0 : Int), .bool false, .string (⟨#[]⟩ : ByteArray), .int .i64 i19], .int .i64 (1 : Int)])) w6)) ∧
          ((bits .andNot .i64 i19 (3 : Int)) = (0 : Int) →
          (∀ w6 : World, Go.Sx.Fr S w0 w6 → Go.Sx.Fr (fun b => b ∈ [g21]) w5 w6 → R (.returned (.tuple #[.agg #[.int .i64 i0, .int .i64 i1, .int .i64 i2, .int .i64 i3, .int .i64 i4, .int .i64 i5, .int .i64 i6, .int .i64 (0 : Int), .int .i64 (0 : Int), .int .i64 (0 : Int), .int .i64 (0 : Int), .int .i64 (0 : Int), .int .i64 (0 : Int), .int .i64 (0 : Int), .int .i64 (0 : Int), .int .i64 (0 : Int), .int .i64 (0 : Int), .bool false, .string (⟨#[]⟩ : ByteArray), .int .i64 i19], .int .i64 (0 : Int)])) w6)))) ∧
         (b25 = false →
         (∀ w6 : World, Go.Sx.Fr S w0 w6 → Go.Sx.Fr (fun b => b ∈ [g21]) w5 w6 → R (.returned (.tuple #[.agg #[.int .i64 i0, .int .i64 i1, .int .i64 i2, .int .i64 i3, .int .i64 i4, .int .i64 i5, .int .i64 i6, .int .i64 (0 : Int), .int .i64 (0 : Int), .int .i64 (0 : Int), .int .i64 (0 : Int), .int .i64 (0 : Int), .int .i64 (0 : Int), .int .i64 (0 : Int), .int .i64 (0 : Int), .int .i64 (0 : Int), .int .i64 (0 : Int), .bool false, .string (⟨#[]⟩ : ByteArray), .int .i64 i19], .int .i64 (1 : Int)])) w6))))) ∧
        (b24 = false →
        (∀ w5 : World, Go.Sx.Fr S w0 w5 → Go.Sx.Fr (fun b => b ∈ [g21]) w4 w5 → R (.returned (.tuple #[.agg #[.int .i64 i0, .int .i64 i1, .int .i64 i2, .int .i64 i3, .int .i64 i4, .int .i64 i5, .int .i64 i6, .int .i64 (0 : Int), .int .i64 (0 : Int), .int .i64 (0 : Int), .int .i64 (0 : Int), .int .i64 (0 : Int), .int .i64 (0 : Int), .int .i64 (0 : Int), .int .i64 (0 : Int), .int .i64 (0 : Int), .int .i64 (0 : Int), .bool false, .string (⟨#[]⟩ : ByteArray), .int .i64 i19], .int .i64 (1 : Int)])) w5))))) ∧
       (b22 = false →
       (∀ w3 : World, Go.Sx.Fr S w0 w3 → Go.Sx.Fr (fun b => b ∈ [g21]) w2 w3 → R (.returned (.tuple #[.agg #[.int .i64 i0, .int .i64 i1, .int .i64 i2, .int .i64 i3, .int .i64 i4, .int .i64 i5, .int .i64 i6, .int .i64 (0 : Int), .int .i64 (0 : Int), .int .i64 (0 : Int), .int .i64 (0 : Int), .int .i64 (0 : Int), .int .i64 (0 : Int), .int .i64 (0 : Int), .int .i64 (0 : Int), .int .i64 (0 : Int), .int .i64 (0 : Int), .bool false, .string (⟨#[]⟩ : ByteArray), .int .i64 i19], .int .i64 (1 : Int)])) w3))))) ∧
      (¬ i0 = (5 : Int) →
      ((i0 = (7 : Int) →
       (
        (∀ w3 : World, Go.Sx.Fr S w0 w3 → Go.Sx.Fr (fun b => b ∈ [g21]) w2 w3 → 
        Calls Tryd.prog 108 #[(.string s18)] w3 fun r w4 => ∃ b24 : Bool, r = .returned (.bool b24) ∧ (Go.Sx.Fr S w0 w4 ∧ Go.Sx.Mild [g21, g20] w3 w4) ∧ 
        ((b24 = false →
        ((b22 = false →
         (∀ w5 : World, Go.Sx.Fr S w0 w5 → Go.Sx.Fr (fun b => b ∈ [g21]) w4 w5 → R (.returned (.tuple #[.agg #[.int .i64 i0, .int .i64 i1, .int .i64 i2, .int .i64 (0 : Int), .int .i64 (0 : Int), .int .i64 (0 : Int), .int .i64 (0 : Int), .int .i64 (0 : Int), .int .i64 (0 : Int), .int .i64 (0 : Int), .int .i64 (0 : Int), .int .i64 (0 : Int), .int .i64 (0 : Int), .int .i64 (0 : Int), .int .i64 (0 : Int), .int .i64 (0 : Int), .int .i64 (0 : Int), .bool b17, .string s18, .int .i64 (0 : Int)], .int .i64 (1 : Int)])) w5)) ∧
         (b22 = true →
         (∀ w5 : World, Go.Sx.Fr S w0 w5 → Go.Sx.Fr (fun b => b ∈ [g21]) w4 w5 → R (.returned (.tuple #[.agg #[.int .i64 i0, .int .i64 i1, .int .i64 i2, .int .i64 (0 : Int), .int .i64 (0 : Int), .int .i64 (0 : Int), .int .i64 (0 : Int), .int .i64 (0 : Int), .int .i64 (0 : Int), .int .i64 (0 : Int), .int .i64 (0 : Int), .int .i64 (0 : Int), .int .i64 (0 : Int), .int .i64 (0 : Int), .int .i64 (0 : Int), .int .i64 (0 : Int), .int .i64 (0 : Int), .bool b17, .string s18, .int .i64 (0 : Int)], .int .i64 (4 : Int)])) w5)))) ∧
        (b24 = true →
        ((b22 = false →
         (∀ w5 : World, Go.Sx.Fr S w0 w5 → Go.Sx.Fr (fun b => b ∈ [g21]) w4 w5 → R (.returned (.tuple #[.agg #[.int .i64 i0, .int .i64 i1, .int .i64 i2, .int .i64 (0 : Int), .int .i64 (0 : Int), .int .i64 (0 : Int), .int .i64 (0 : Int), .int .i64 (0 : Int), .int .i64 (0 : Int), .int .i64 (0 : Int), .int .i64 (0 : Int), .int .i64 (0 : Int), .int .i64 (0 : Int), .int .i64 (0 : Int), .int .i64 (0 : Int), .int .i64 (0 : Int), .int .i64 (0 : Int), .bool b17, .string s18, .int .i64 (0 : Int)], .int .i64 (1 : Int)])) w5)) ∧
         (b22 = true →
         (∀ w5 : World, Go.Sx.Fr S w0 w5 → Go.Sx.Fr (fun b => b ∈ [g21]) w4 w5 → R (.returned (.tuple #[.agg #[.int .i64 i0, .int .i64 i1, .int .i64 i2, .int .i64 (0 : Int), .int .i64 (0 : Int), .int .i64 (0 : Int), .int .i64 (0 : Int), .int .i64 (0 : Int), .int .i64 (0 : Int), .int .i64 (0 : Int), .int .i64 (0 : Int), .int .i64 (0 : Int), .int .i64 (0 : Int), .int .i64 (0 : Int), .int .i64 (0 : Int), .int .i64 (0 : Int), .int .i64 (0 : Int), .bool b17, .string s18, .int .i64 (0 : Int)], .int .i64 (0 : Int)])) w5)))))))) ∧
       (¬ i0 = (7 : Int) →
       ((i0 = (8 : Int) →
        (
         ((b22 = true →
         (∀ w3 : World, Go.Sx.Fr S w0 w3 → Go.Sx.Fr (fun b => b ∈ [g21]) w2 w3 → 
          Calls Tryd.prog 109 #[(.int .i64 i19)] w3 fun r w4 => ∃ b24 : Bool, r = .returned (.bool b24) ∧ (Go.Sx.Fr S w0 w4 ∧ Go.Sx.Mild [g21, g20] w3 w4) ∧ 
          ((b24 = false →
          (∀ w5 : World, Go.Sx.Fr S w0 w5 → Go.Sx.Fr (fun b => b ∈ [g21]) w4 w5 → R (.returned (.tuple #[.agg #[.int .i64 i0, .int .i64 i1, .int .i64 i2, .int .i64 (0 : Int), .int .i64 (0 : Int), .int .i64 (0 : Int), .int .i64 (0 : Int), .int .i64 (0 : Int), .int .i64 (0 : Int), .int .i64 (0 : Int), .int .i64 (0 : Int), .int .i64 (0 : Int), .int .i64 (0 : Int), .int .i64 (0 : Int), .int .i64 (0 : Int), .int .i64 (0 : Int), .int .i64 (0 : Int), .bool b17, .string (⟨#[]⟩ : ByteArray), .int .i64 i19], .int .i64 (1 : Int)])) w5)) ∧
          (b24 = true →
          (∀ w5 : World, Go.Sx.Fr S w0 w5 → Go.Sx.Fr (fun b => b ∈ [g21]) w4 w5 → R (.returned (.tuple #[.agg #[.int .i64 i0, .int .i64 i1, .int .i64 i2, .int .i64 (0 : Int), .int .i64 (0 : Int), .int .i64 (0 : Int), .int .i64 (0 : Int), .int .i64 (0 : Int), .int .i64 (0 : Int), .int .i64 (0 : Int), .int .i64 (0 : Int), .int .i64 (0 : Int), .int .i64 (0 : Int), .int .i64 (0 : Int), .int .i64 (0 : Int), .int .i64 (0 : Int), .int .i64 (0 : Int), .bool b17, .string (⟨#[]⟩ : ByteArray), .int .i64 i19], .int .i64 (0 : Int)])) w5))))) ∧
         (b22 = false →
         (∀ w3 : World, Go.Sx.Fr S w0 w3 → Go.Sx.Fr (fun b => b ∈ [g21]) w2 w3 → R (.returned (.tuple #[.agg #[.int .i64 i0, .int .i64 i1, .int .i64 i2, .int .i64 (0 : Int), .int .i64 (0 : Int), .int .i64 (0 : Int), .int .i64 (0 : Int), .int .i64 (0 : Int), .int .i64 (0 : Int), .int .i64 (0 : Int), .int .i64 (0 : Int), .int .i64 (0 : Int), .int .i64 (0 : Int), .int .i64 (0 : Int), .int .i64 (0 : Int), .int .i64 (0 : Int), .int .i64 (0 : Int), .bool b17, .string (⟨#[]⟩ : ByteArray), .int .i64 i19], .int .i64 (1 : Int)])) w3))))) ∧
        (¬ i0 = (8 : Int) →
        (∀ w3 : World, Go.Sx.Fr S w0 w3 → Go.Sx.Fr (fun b => b ∈ [g21]) w2 w3 → R (.returned (.tuple #[.agg #[.int .i64 i0, .int .i64 i1, .int .i64 i2, .int .i64 (0 : Int), .int .i64 (0 : Int), .int .i64 (0 : Int), .int .i64 (0 : Int), .int .i64 (0 : Int), .int .i64 (0 : Int), .int .i64 (0 : Int), .int .i64 (0 : Int), .int .i64 (0 : Int), .int .i64 (0 : Int), .int .i64 (0 : Int), .int .i64 (0 : Int), .int .i64 (0 : Int), .int .i64 (0 : Int), .bool false, .string (⟨#[]⟩ : ByteArray), .int .i64 (0 : Int)], .int .i64 (1 : Int)])) w3))))))))))))))))))) :
    Calls Tryd.prog 87 #[(.agg #[.int .i64 i0, .int .i64 i1, .int .i64 i2, .int .i64 i3, .int .i64 i4, .int .i64 i5, .int .i64 i6, .int .i64 i7, .int .i64 i8, .int .i64 i9, .int .i64 i10, .int .i64 i11, .int .i64 i12, .int .i64 i13, .int .i64 i14, .int .i64 i15, .int .i64 i16, .bool b17, .string s18, .int .i64 i19])] w0 R :=
  Go.Sx.fn_sound0 (P := Tryd.prog) (S := S) (w0 := w0) (R := R) (ws := []) (an := []) (f := 87) (n := 20) (xs := [.agg [.int .i64 (.var 0), .int .i64 (.var 1), .int .i64 (.var 2), .int .i64 (.var 3), .int .i64 (.var 4), .int .i64 (.var 5), .int .i64 (.var 6), .int .i64 (.var 7), .int .i64 (.var 8), .int .i64 (.var 9), .int .i64 (.var 10), .int .i64 (.var 11), .int .i64 (.var 12), .int .i64 (.var 13), .int .i64 (.var 14), .int .i64 (.var 15), .int .i64 (.var 16), .bool (.var 17), .str (.var 18), .int .i64 (.var 19)]]) (e := [.i i0, .i i1, .i i2, .i i3, .i i4, .i i5, .i i6, .i i7, .i i8, .i i9, .i i10, .i i11, .i i12, .i i13, .i i14, .i i15, .i i16, .b b17, .s s18, .i i19]) rfl (by kernel_rfl) (Eq.mp (by kernel_rfl) h)


/-- tracery/op.May: what is left of it. -/
theorem op_May_sx (R : Ending → World → Prop) (S : Nat → Prop) (w0 : World) (i0 : Int) (i1 : Int) (i2 : Int) (i3 : Int) (i4 : Int) (i5 : Int) (i6 : Int) (i7 : Int) (i8 : Int) (i9 : Int) (i10 : Int) (i11 : Int) (i12 : Int) (i13 : Int) (i14 : Int) (i15 : Int) (i16 : Int) (b17 : Bool) (s18 : ByteArray) (i19 : Int) (h :
 ∀ g20 : Nat, w0.heap.size ≤ g20 → (∀ w1 : World, Go.Sx.Fr S w0 w1 → Below w0.heap.size w0 w1 → 
 Calls Tryd.prog 87 #[(.agg #[.int .i64 i0, .int .i64 i1, .int .i64 i2, .int .i64 i3, .int .i64 i4, .int .i64 i5, .int .i64 i6, .int .i64 i7, .int .i64 i8, .int .i64 i9, .int .i64 i10, .int .i64 i11, .int .i64 i12, .int .i64 i13, .int .i64 i14, .int .i64 i15, .int .i64 i16, .bool b17, .string s18, .int .i64 i19])] w1 fun r w2 => ∃ i21 : Int, ∃ i22 : Int, ∃ i23 : Int, ∃ i24 : Int, ∃ i25 : Int, ∃ i26 : Int, ∃ i27 : Int, ∃ i28 : Int, ∃ i29 : Int, ∃ i30 : Int, ∃ i31 : Int, ∃ i32 : Int, ∃ i33 : Int, ∃ i34 : Int, ∃ i35 : Int, ∃ i36 : Int, ∃ i37 : Int, ∃ b38 : Bool, ∃ s39 : ByteArray, ∃ i40 : Int, ∃ i41 : Int, r = .returned (.tuple #[.agg #[.int .i64 i21, .int .i64 i22, .int .i64 i23, .int .i64 i24, .int .i64 i25, .int .i64 i26, .int .i64 i27, .int .i64 i28, .int .i64 i29, .int .i64 i30, .int .i64 i31, .int .i64 i32, .int .i64 i33, .int .i64 i34, .int .i64 i35, .int .i64 i36, .int .i64 i37, .bool b38, .string s39, .int .i64 i40], .int .i64 i41]) ∧ (Go.Sx.Fr S w0 w2 ∧ Go.Sx.Mild [g20] w1 w2) ∧ 
 ∀ g42 : Nat, w0.heap.size ≤ g42 → (∀ w3 : World, Go.Sx.Fr S w0 w3 → Below w2.heap.size w2 w3 → ∃ b43 : Bool, (binOp .neq 39 (.agg #[.int .i64 i21, .int .i64 i22, .int .i64 i23, .int .i64 i24, .int .i64 i25, .int .i64 i26, .int .i64 i27, .int .i64 i28, .int .i64 i29, .int .i64 i30, .int .i64 i31, .int .i64 i32, .int .i64 i33, .int .i64 i34, .int .i64 i35, .int .i64 i36, .int .i64 i37, .bool b38, .string s39, .int .i64 i40]) (.agg #[.int .i64 i0, .int .i64 i1, .int .i64 i2, .int .i64 i3, .int .i64 i4, .int .i64 i5, .int .i64 i6, .int .i64 i7, .int .i64 i8, .int .i64 i9, .int .i64 i10, .int .i64 i11, .int .i64 i12, .int .i64 i13, .int .i64 i14, .int .i64 i15, .int .i64 i16, .bool b17, .string s18, .int .i64 i19])).run Tryd.prog w3 = .ok (.bool b43) w3 ∧
 ((b43 = true →
 (R (.returned (.int .i64 (1 : Int))) w3)) ∧
 (b43 = false →
 (R (.returned (.int .i64 i41)) w3)))))) :
    Calls Tryd.prog 62 #[(.agg #[.int .i64 i0, .int .i64 i1, .int .i64 i2, .int .i64 i3, .int .i64 i4, .int .i64 i5, .int .i64 i6, .int .i64 i7, .int .i64 i8, .int .i64 i9, .int .i64 i10, .int .i64 i11, .int .i64 i12, .int .i64 i13, .int .i64 i14, .int .i64 i15, .int .i64 i16, .bool b17, .string s18, .int .i64 i19])] w0 R :=
  Go.Sx.fn_sound0 (P := Tryd.prog) (S := S) (w0 := w0) (R := R) (ws := []) (an := []) (f := 62) (n := 20) (xs := [.agg [.int .i64 (.var 0), .int .i64 (.var 1), .int .i64 (.var 2), .int .i64 (.var 3), .int .i64 (.var 4), .int .i64 (.var 5), .int .i64 (.var 6), .int .i64 (.var 7), .int .i64 (.var 8), .int .i64 (.var 9), .int .i64 (.var 10), .int .i64 (.var 11), .int .i64 (.var 12), .int .i64 (.var 13), .int .i64 (.var 14), .int .i64 (.var 15), .int .i64 (.var 16), .bool (.var 17), .str (.var 18), .int .i64 (.var 19)]]) (e := [.i i0, .i i1, .i i2, .i i3, .i i4, .i i5, .i i6, .i i7, .i i8, .i i9, .i i10, .i i11, .i i12, .i i13, .i i14, .i i15, .i i16, .b b17, .s s18, .i i19]) rfl (by kernel_rfl) (Eq.mp (by kernel_rfl) h)


/-- tracery/op.MayEdit: what is left of it. -/
theorem op_MayEdit_sx (R : Ending → World → Prop) (S : Nat → Prop) (w0 : World) (A0 : Option Addr) (n1 : Nat) (n2 : Nat) (h :
 ∀ g3 : Nat, w0.heap.size ≤ g3 → (((n1 : Int) = (0 : Int) →
 (∀ w1 : World, Go.Sx.Fr S w0 w1 → Below w0.heap.size w0 w1 → R (.returned (.int .i64 (3 : Int))) w1)) ∧
 (¬ (n1 : Int) = (0 : Int) →
 (((6 : Int) < (n1 : Int) →
  (∀ w1 : World, Go.Sx.Fr S w0 w1 → Below w0.heap.size w0 w1 → R (.returned (.int .i64 (3 : Int))) w1)) ∧
  ((n1 : Int) ≤ (6 : Int) →
  (∃ (I0 : Int → Int → World → Prop) (M0 : Int → Int → World → Nat), (∀ w1 : World, Go.Sx.Fr S w0 w1 → Below w0.heap.size w0 w1 → I0 (0 : Int) (0 : Int) w1) ∧
   ∀ i4 : Int, ∀ i5 : Int, ∀ w2 : World, Go.Sx.Fr S w0 w2 → I0 i4 i5 w2 → 
    ((i5 < (n1 : Int) →
    ((0 : Int) ≤ i5 ∧ i5 < (n1 : Int) ∧ ∃ p6 : Nat, ∃ o7 : Nat, A0 = some ⟨p6, o7, none⟩ ∧
     (∃ i8 : Int, ∃ i9 : Int, ∃ i10 : Int, ∃ i11 : Int, ∃ i12 : Int, ∃ i13 : Int, ∃ i14 : Int, ∃ i15 : Int, ∃ i16 : Int, ∃ i17 : Int, ∃ i18 : Int, ∃ i19 : Int, ∃ i20 : Int, ∃ i21 : Int, ∃ i22 : Int, ∃ i23 : Int, ∃ i24 : Int, ∃ b25 : Bool, ∃ s26 : ByteArray, ∃ i27 : Int, Go.Sx.CellsAt w2 p6 (o7 + (i5).toNat * 20 + 0) [.int .i64 i8, .int .i64 i9, .int .i64 i10, .int .i64 i11, .int .i64 i12, .int .i64 i13, .int .i64 i14, .int .i64 i15, .int .i64 i16, .int .i64 i17, .int .i64 i18, .int .i64 i19, .int .i64 i20, .int .i64 i21, .int .i64 i22, .int .i64 i23, .int .i64 i24, .bool b25, .string s26, .int .i64 i27] ∧ 
     ∀ g28 : Nat, w0.heap.size ≤ g28 → (∀ w3 : World, Go.Sx.Fr S w0 w3 → Below w2.heap.size w2 w3 → 
     Calls Tryd.prog 62 #[(.agg #[.int .i64 i8, .int .i64 i9, .int .i64 i10, .int .i64 i11, .int .i64 i12, .int .i64 i13, .int .i64 i14, .int .i64 i15, .int .i64 i16, .int .i64 i17, .int .i64 i18, .int .i64 i19, .int .i64 i20, .int .i64 i21, .int .i64 i22, .int .i64 i23, .int .i64 i24, .bool b25, .string s26, .int .i64 i27])] w3 fun r w4 => ∃ i29 : Int, r = .returned (.int .i64 i29) ∧ (Go.Sx.Fr S w0 w4 ∧ Go.Sx.Mild [g28, g3] w3 w4) ∧ 
     ((¬ i29 = (0 : Int) →
     (R (.returned (.int .i64 i29)) w4)) ∧
     (i29 = (0 : Int) →
     (I0 i4 (IntKind.i64.wrap (i5 + (1 : Int))) w4 ∧ M0 i4 (IntKind.i64.wrap (i5 + (1 : Int))) w4 < M0 i4 i5 w2))))))) ∧
    ((n1 : Int) ≤ i5 →
    (R (.returned (.int .i64 (0 : Int))) w2))))))))) :
    Calls Tryd.prog 34 #[(.agg #[.slice A0 n1 n2])] w0 R :=
  Go.Sx.fn_sound0 (P := Tryd.prog) (S := S) (w0 := w0) (R := R) (ws := []) (an := []) (f := 34) (n := 3) (xs := [.agg [.slice (.var 0) (.var 1) (.var 2)]]) (e := [.a A0, .n n1, .n n2]) rfl (by kernel_rfl) (Eq.mp (by kernel_rfl) h)


/-- tracery/traceryref01.May: what is left of it. -/
theorem ref01_May_sx (R : Ending → World → Prop) (S : Nat → Prop) (w0 : World) (i0 : Int) (i1 : Int) (h :
 ∀ g2 : Nat, w0.heap.size ≤ g2 → (((1 : Int) ≤ i0 →
 ((i0 ≤ (8 : Int) →
  (((1 : Int) ≤ i1 →
   (∀ w1 : World, Go.Sx.Fr S w0 w1 → Below w0.heap.size w0 w1 → R (.returned (.bool (decide (i1 ≤ (1048576 : Int))))) w1)) ∧
   (i1 < (1 : Int) →
   (∀ w1 : World, Go.Sx.Fr S w0 w1 → Below w0.heap.size w0 w1 → R (.returned (.bool false)) w1)))) ∧
  ((8 : Int) < i0 →
  (∀ w1 : World, Go.Sx.Fr S w0 w1 → Below w0.heap.size w0 w1 → R (.returned (.bool false)) w1)))) ∧
 (i0 < (1 : Int) →
 (∀ w1 : World, Go.Sx.Fr S w0 w1 → Below w0.heap.size w0 w1 → R (.returned (.bool false)) w1)))) :
    Calls Tryd.prog 93 #[(.agg #[.int .i64 i0, .int .i64 i1])] w0 R :=
  Go.Sx.fn_sound0 (P := Tryd.prog) (S := S) (w0 := w0) (R := R) (ws := []) (an := []) (f := 93) (n := 2) (xs := [.agg [.int .i64 (.var 0), .int .i64 (.var 1)]]) (e := [.i i0, .i i1]) rfl (by kernel_rfl) (Eq.mp (by kernel_rfl) h)


/-- tracery/traceryref01.MayDart: what is left of it. -/
theorem ref01_MayDart_sx (R : Ending → World → Prop) (S : Nat → Prop) (w0 : World) (i0 : Int) (i1 : Int) (i2 : Int) (h :
 ∀ g3 : Nat, w0.heap.size ≤ g3 → (∀ w1 : World, Go.Sx.Fr S w0 w1 → Below w0.heap.size w0 w1 → 
 Calls Tryd.prog 93 #[(.agg #[.int .i64 i0, .int .i64 i1])] w1 fun r w2 => ∃ b4 : Bool, r = .returned (.bool b4) ∧ (Go.Sx.Fr S w0 w2 ∧ Go.Sx.Mild [g3] w1 w2) ∧ 
 ((b4 = true →
 ((i2 = (0 : Int) →
  (R (.returned (.bool true)) w2)) ∧
  (¬ i2 = (0 : Int) →
  (R (.returned (.bool (i2 == (1 : Int)))) w2)))) ∧
 (b4 = false →
 (R (.returned (.bool false)) w2))))) :
    Calls Tryd.prog 111 #[(.agg #[.int .i64 i0, .int .i64 i1, .int .i64 i2])] w0 R :=
  Go.Sx.fn_sound0 (P := Tryd.prog) (S := S) (w0 := w0) (R := R) (ws := []) (an := []) (f := 111) (n := 3) (xs := [.agg [.int .i64 (.var 0), .int .i64 (.var 1), .int .i64 (.var 2)]]) (e := [.i i0, .i i1, .i i2]) rfl (by kernel_rfl) (Eq.mp (by kernel_rfl) h)


/-- tracery/traceryref04.MayAttr: what is left of it. -/
theorem ref04_MayAttr_sx (R : Ending → World → Prop) (S : Nat → Prop) (w0 : World) (i0 : Int) (h :
 (((-1099511627776 : Int) ≤ i0 →
 (R (.returned (.bool (decide (i0 ≤ (1099511627776 : Int))))) w0)) ∧
 (i0 < (-1099511627776 : Int) →
 (R (.returned (.bool false)) w0)))) :
    Calls Tryd.prog 96 #[(.int .i64 i0)] w0 R :=
  Go.Sx.fn_sound0 (P := Tryd.prog) (S := S) (w0 := w0) (R := R) (ws := []) (an := []) (f := 96) (n := 1) (xs := [.one (.int .i64 (.var 0))]) (e := [.i i0]) rfl (by kernel_rfl) (Eq.mp (by kernel_rfl) h)


/-- tracery/traceryref04.MayLabel: what is left of it. -/
theorem ref04_MayLabel_sx (R : Ending → World → Prop) (S : Nat → Prop) (w0 : World) (s0 : ByteArray) (h :
 (∃ (I0 : Bool → Int → World → Prop) (M0 : Bool → Int → World → Nat), (I0 false (0 : Int) w0) ∧
 ∀ b1 : Bool, ∀ i2 : Int, ∀ w1 : World, Go.Sx.Fr S w0 w1 → I0 b1 i2 w1 → 
  ((i2 < ((s0).size : Int) →
  (∃ i3 : Int, (Instr.index 9 (.string s0) (.int .i64 i2)).run Tryd.prog w1 = .ok (.int .u8 i3) w1 ∧
   ((i3 < (32 : Int) →
   (R (.returned (.bool false)) w1)) ∧
   ((32 : Int) ≤ i3 →
   (∃ i4 : Int, (Instr.index 9 (.string s0) (.int .i64 i2)).run Tryd.prog w1 = .ok (.int .u8 i4) w1 ∧
    (((126 : Int) < i4 →
    (R (.returned (.bool false)) w1)) ∧
    (i4 ≤ (126 : Int) →
    (I0 b1 (IntKind.i64.wrap (i2 + (1 : Int))) w1 ∧ M0 b1 (IntKind.i64.wrap (i2 + (1 : Int))) w1 < M0 b1 i2 w1)))))))) ∧
  (((s0).size : Int) ≤ i2 →
  (R (.returned (.bool (decide (((s0).size : Int) ≤ (16 : Int))))) w1))))) :
    Calls Tryd.prog 97 #[(.string s0)] w0 R :=
  Go.Sx.fn_sound0 (P := Tryd.prog) (S := S) (w0 := w0) (R := R) (ws := []) (an := []) (f := 97) (n := 1) (xs := [.one (.str (.var 0))]) (e := [.s s0]) rfl (by kernel_rfl) (Eq.mp (by kernel_rfl) h)


/-- tracery/traceryref09.corner: what is left of it. -/
theorem ref09_corner_sx (R : Ending → World → Prop) (S : Nat → Prop) (w0 : World) (i0 : Int) (i1 : Int) (i2 : Int) (i3 : Int) (i4 : Int) (h :
 ∀ g5 : Nat, w0.heap.size ≤ g5 → (∀ w1 : World, Go.Sx.Fr S w0 w1 → Below w0.heap.size w0 w1 → 
 Calls Tryd.prog 93 #[(.agg #[.int .i64 i0, .int .i64 i1])] w1 fun r w2 => ∃ b6 : Bool, r = .returned (.bool b6) ∧ (Go.Sx.Fr S w0 w2 ∧ Go.Sx.Mild [g5] w1 w2) ∧ 
 (
 Calls Tryd.prog 111 #[(.agg #[.int .i64 i2, .int .i64 i3, .int .i64 i4])] w2 fun r w3 => ∃ b7 : Bool, r = .returned (.bool b7) ∧ (Go.Sx.Fr S w0 w3 ∧ Go.Sx.Mild [g5] w2 w3) ∧ 
 ((b6 = true →
 ((b7 = true →
  (R (.returned (.bool true)) w3)) ∧
  (b7 = false →
  (∃ b8 : Bool, (binOp .eql 35 (.agg #[.int .i64 i2, .int .i64 i3, .int .i64 i4]) (.agg #[.int .i64 (0 : Int), .int .i64 (0 : Int), .int .i64 (0 : Int)])).run Tryd.prog w3 = .ok (.bool b8) w3 ∧
   (R (.returned (.bool b8)) w3))))) ∧
 (b6 = false →
 (R (.returned (.bool false)) w3)))))) :
    Calls Tryd.prog 95 #[(.agg #[.int .i64 i0, .int .i64 i1, .int .i64 i2, .int .i64 i3, .int .i64 i4])] w0 R :=
  Go.Sx.fn_sound0 (P := Tryd.prog) (S := S) (w0 := w0) (R := R) (ws := []) (an := []) (f := 95) (n := 5) (xs := [.agg [.int .i64 (.var 0), .int .i64 (.var 1), .int .i64 (.var 2), .int .i64 (.var 3), .int .i64 (.var 4)]]) (e := [.i i0, .i i1, .i i2, .i i3, .i i4]) rfl (by kernel_rfl) (Eq.mp (by kernel_rfl) h)


/-- tracery/traceryref09.rest: what is left of it. -/
theorem ref09_rest_sx (R : Ending → World → Prop) (S : Nat → Prop) (w0 : World) (i0 : Int) (i1 : Int) (i2 : Int) (i3 : Int) (i4 : Int) (i5 : Int) (i6 : Int) (i7 : Int) (i8 : Int) (i9 : Int) (i10 : Int) (i11 : Int) (i12 : Int) (i13 : Int) (i14 : Int) (i15 : Int) (i16 : Int) (b17 : Bool) (s18 : ByteArray) (i19 : Int) (h :
 ∀ g20 : Nat, w0.heap.size ≤ g20 → ∀ g21 : Nat, w0.heap.size ≤ g21 → ((i0 = (3 : Int) →
 (∀ w1 : World, Go.Sx.Fr S w0 w1 → Below w0.heap.size w0 w1 → R (.returned (.agg #[.int .i64 (0 : Int), .int .i64 (0 : Int), .int .i64 (0 : Int), .int .i64 i3, .int .i64 i4, .int .i64 i5, .int .i64 i6, .int .i64 (0 : Int), .int .i64 (0 : Int), .int .i64 (0 : Int), .int .i64 (0 : Int), .int .i64 (0 : Int), .int .i64 (0 : Int), .int .i64 (0 : Int), .int .i64 (0 : Int), .int .i64 (0 : Int), .int .i64 (0 : Int), .bool b17, .string s18, .int .i64 i19])) w1)) ∧
 (¬ i0 = (3 : Int) →
 ((i0 = (5 : Int) →
  (∀ w1 : World, Go.Sx.Fr S w0 w1 → Below w0.heap.size w0 w1 → R (.returned (.agg #[.int .i64 (0 : Int), .int .i64 (0 : Int), .int .i64 (0 : Int), .int .i64 (0 : Int), .int .i64 (0 : Int), .int .i64 (0 : Int), .int .i64 (0 : Int), .int .i64 i7, .int .i64 i8, .int .i64 i9, .int .i64 i10, .int .i64 i11, .int .i64 i12, .int .i64 i13, .int .i64 i14, .int .i64 i15, .int .i64 i16, .bool b17, .string s18, .int .i64 (0 : Int)])) w1)) ∧
  (¬ i0 = (5 : Int) →
  ((i0 = (6 : Int) →
   (∀ w1 : World, Go.Sx.Fr S w0 w1 → Below w0.heap.size w0 w1 → R (.returned (.agg #[.int .i64 (0 : Int), .int .i64 (0 : Int), .int .i64 (0 : Int), .int .i64 i3, .int .i64 i4, .int .i64 (0 : Int), .int .i64 (0 : Int), .int .i64 i7, .int .i64 i8, .int .i64 i9, .int .i64 i10, .int .i64 i11, .int .i64 i12, .int .i64 i13, .int .i64 i14, .int .i64 i15, .int .i64 i16, .bool b17, .string s18, .int .i64 i19])) w1)) ∧
   (¬ i0 = (6 : Int) →
   ((i0 = (7 : Int) →
    (∀ w1 : World, Go.Sx.Fr S w0 w1 → Below w0.heap.size w0 w1 → R (.returned (.agg #[.int .i64 (0 : Int), .int .i64 (0 : Int), .int .i64 (0 : Int), .int .i64 i3, .int .i64 i4, .int .i64 i5, .int .i64 i6, .int .i64 i7, .int .i64 i8, .int .i64 i9, .int .i64 i10, .int .i64 i11, .int .i64 i12, .int .i64 i13, .int .i64 i14, .int .i64 i15, .int .i64 i16, .bool false, .string (⟨#[]⟩ : ByteArray), .int .i64 i19])) w1)) ∧
    (¬ i0 = (7 : Int) →
    ((i0 = (8 : Int) →
     (∀ w1 : World, Go.Sx.Fr S w0 w1 → Below w0.heap.size w0 w1 → R (.returned (.agg #[.int .i64 (0 : Int), .int .i64 (0 : Int), .int .i64 (0 : Int), .int .i64 i3, .int .i64 i4, .int .i64 i5, .int .i64 i6, .int .i64 i7, .int .i64 i8, .int .i64 i9, .int .i64 i10, .int .i64 i11, .int .i64 i12, .int .i64 i13, .int .i64 i14, .int .i64 i15, .int .i64 i16, .bool false, .string s18, .int .i64 (0 : Int)])) w1)) ∧
     (¬ i0 = (8 : Int) →
     (∀ w1 : World, Go.Sx.Fr S w0 w1 → Below w0.heap.size w0 w1 → R (.returned (.agg #[.int .i64 (0 : Int), .int .i64 (0 : Int), .int .i64 (0 : Int), .int .i64 i3, .int .i64 i4, .int .i64 i5, .int .i64 i6, .int .i64 i7, .int .i64 i8, .int .i64 i9, .int .i64 i10, .int .i64 i11, .int .i64 i12, .int .i64 i13, .int .i64 i14, .int .i64 i15, .int .i64 i16, .bool b17, .string s18, .int .i64 i19])) w1)))))))))))) :
    Calls Tryd.prog 94 #[(.agg #[.int .i64 i0, .int .i64 i1, .int .i64 i2, .int .i64 i3, .int .i64 i4, .int .i64 i5, .int .i64 i6, .int .i64 i7, .int .i64 i8, .int .i64 i9, .int .i64 i10, .int .i64 i11, .int .i64 i12, .int .i64 i13, .int .i64 i14, .int .i64 i15, .int .i64 i16, .bool b17, .string s18, .int .i64 i19])] w0 R :=
  Go.Sx.fn_sound0 (P := Tryd.prog) (S := S) (w0 := w0) (R := R) (ws := []) (an := []) (f := 94) (n := 20) (xs := [.agg [.int .i64 (.var 0), .int .i64 (.var 1), .int .i64 (.var 2), .int .i64 (.var 3), .int .i64 (.var 4), .int .i64 (.var 5), .int .i64 (.var 6), .int .i64 (.var 7), .int .i64 (.var 8), .int .i64 (.var 9), .int .i64 (.var 10), .int .i64 (.var 11), .int .i64 (.var 12), .int .i64 (.var 13), .int .i64 (.var 14), .int .i64 (.var 15), .int .i64 (.var 16), .bool (.var 17), .str (.var 18), .int .i64 (.var 19)]]) (e := [.i i0, .i i1, .i i2, .i i3, .i i4, .i i5, .i i6, .i i7, .i i8, .i i9, .i i10, .i i11, .i i12, .i i13, .i i14, .i i15, .i i16, .b b17, .s s18, .i i19]) rfl (by kernel_rfl) (Eq.mp (by kernel_rfl) h)


/-- tracery/traceryref09.May: what is left of it. -/
theorem ref09_May_sx (R : Ending → World → Prop) (S : Nat → Prop) (w0 : World) (i0 : Int) (i1 : Int) (i2 : Int) (i3 : Int) (i4 : Int) (i5 : Int) (i6 : Int) (i7 : Int) (i8 : Int) (i9 : Int) (i10 : Int) (i11 : Int) (i12 : Int) (i13 : Int) (i14 : Int) (i15 : Int) (i16 : Int) (b17 : Bool) (s18 : ByteArray) (i19 : Int) (h :
 ∀ g20 : Nat, w0.heap.size ≤ g20 → (∀ w1 : World, Go.Sx.Fr S w0 w1 → Below w0.heap.size w0 w1 → 
 Calls Tryd.prog 93 #[(.agg #[.int .i64 i1, .int .i64 i2])] w1 fun r w2 => ∃ b21 : Bool, r = .returned (.bool b21) ∧ (Go.Sx.Fr S w0 w2 ∧ Go.Sx.Mild [g20] w1 w2) ∧ 
 ((i0 < (1 : Int) →
 (R (.returned (.int .i64 (1 : Int))) w2)) ∧
 ((1 : Int) ≤ i0 →
 (((8 : Int) < i0 →
  (R (.returned (.int .i64 (1 : Int))) w2)) ∧
  (i0 ≤ (8 : Int) →
  ((b21 = false →
   (R (.returned (.int .i64 (1 : Int))) w2)) ∧
   (b21 = true →
   (
    Calls Tryd.prog 94 #[(.agg #[.int .i64 i0, .int .i64 i1, .int .i64 i2, .int .i64 i3, .int .i64 i4, .int .i64 i5, .int .i64 i6, .int .i64 i7, .int .i64 i8, .int .i64 i9, .int .i64 i10, .int .i64 i11, .int .i64 i12, .int .i64 i13, .int .i64 i14, .int .i64 i15, .int .i64 i16, .bool b17, .string s18, .int .i64 i19])] w2 fun r w3 => ∃ i22 : Int, ∃ i23 : Int, ∃ i24 : Int, ∃ i25 : Int, ∃ i26 : Int, ∃ i27 : Int, ∃ i28 : Int, ∃ i29 : Int, ∃ i30 : Int, ∃ i31 : Int, ∃ i32 : Int, ∃ i33 : Int, ∃ i34 : Int, ∃ i35 : Int, ∃ i36 : Int, ∃ i37 : Int, ∃ i38 : Int, ∃ b39 : Bool, ∃ s40 : ByteArray, ∃ i41 : Int, r = .returned (.agg #[.int .i64 i22, .int .i64 i23, .int .i64 i24, .int .i64 i25, .int .i64 i26, .int .i64 i27, .int .i64 i28, .int .i64 i29, .int .i64 i30, .int .i64 i31, .int .i64 i32, .int .i64 i33, .int .i64 i34, .int .i64 i35, .int .i64 i36, .int .i64 i37, .int .i64 i38, .bool b39, .string s40, .int .i64 i41]) ∧ (Go.Sx.Fr S w0 w3 ∧ Go.Sx.Mild [g20] w2 w3) ∧ 
    (∃ b42 : Bool, (binOp .neq 39 (.agg #[.int .i64 i22, .int .i64 i23, .int .i64 i24, .int .i64 i25, .int .i64 i26, .int .i64 i27, .int .i64 i28, .int .i64 i29, .int .i64 i30, .int .i64 i31, .int .i64 i32, .int .i64 i33, .int .i64 i34, .int .i64 i35, .int .i64 i36, .int .i64 i37, .int .i64 i38, .bool b39, .string s40, .int .i64 i41]) (.agg #[.int .i64 (0 : Int), .int .i64 (0 : Int), .int .i64 (0 : Int), .int .i64 (0 : Int), .int .i64 (0 : Int), .int .i64 (0 : Int), .int .i64 (0 : Int), .int .i64 (0 : Int), .int .i64 (0 : Int), .int .i64 (0 : Int), .int .i64 (0 : Int), .int .i64 (0 : Int), .int .i64 (0 : Int), .int .i64 (0 : Int), .int .i64 (0 : Int), .int .i64 (0 : Int), .int .i64 (0 : Int), .bool false, .string (⟨#[]⟩ : ByteArray), .int .i64 (0 : Int)])).run Tryd.prog w3 = .ok (.bool b42) w3 ∧
    ((b42 = true →
    (R (.returned (.int .i64 (1 : Int))) w3)) ∧
    (b42 = false →
    ((i0 = (3 : Int) →
     (
      Calls Tryd.prog 95 #[(.agg #[.int .i64 i7, .int .i64 i8, .int .i64 i9, .int .i64 i10, .int .i64 i11])] w3 fun r w4 => ∃ b43 : Bool, r = .returned (.bool b43) ∧ (Go.Sx.Fr S w0 w4 ∧ Go.Sx.Mild [g20] w3 w4) ∧ 
      (
      Calls Tryd.prog 95 #[(.agg #[.int .i64 i12, .int .i64 i13, .int .i64 i14, .int .i64 i15, .int .i64 i16])] w4 fun r w5 => ∃ b44 : Bool, r = .returned (.bool b44) ∧ (Go.Sx.Fr S w0 w5 ∧ Go.Sx.Mild [g20] w4 w5) ∧ 
      ((b43 = false →
      (R (.returned (.int .i64 (1 : Int))) w5)) ∧
      (b43 = true →
      ((b44 = false →
       (R (.returned (.int .i64 (1 : Int))) w5)) ∧
       (b44 = true →
       (R (.returned (.int .i64 (0 : Int))) w5)))))))) ∧
     (¬ i0 = (3 : Int) →
     ((i0 = (5 : Int) →
      (
       Calls Tryd.prog 93 #[(.agg #[.int .i64 i3, .int .i64 i4])] w3 fun r w4 => ∃ b43 : Bool, r = .returned (.bool b43) ∧ (Go.Sx.Fr S w0 w4 ∧ Go.Sx.Mild [g20] w3 w4) ∧ 
       (
       Calls Tryd.prog 93 #[(.agg #[.int .i64 i5, .int .i64 i6])] w4 fun r w5 => ∃ b44 : Bool, r = .returned (.bool b44) ∧ (Go.Sx.Fr S w0 w5 ∧ Go.Sx.Mild [g20] w4 w5) ∧ 
       ((b43 = false →
       (R (.returned (.int .i64 (1 : Int))) w5)) ∧
       (b43 = true →
       ((b44 = false →
        (R (.returned (.int .i64 (1 : Int))) w5)) ∧
        (b44 = true →
        ((i19 < (0 : Int) →
         (R (.returned (.int .i64 (1 : Int))) w5)) ∧
         ((0 : Int) ≤ i19 →
         (((3 : Int) < i19 →
          (R (.returned (.int .i64 (1 : Int))) w5)) ∧
          (i19 ≤ (3 : Int) →
          (R (.returned (.int .i64 (0 : Int))) w5)))))))))))) ∧
      (¬ i0 = (5 : Int) →
      ((i0 = (6 : Int) →
       (
        Calls Tryd.prog 93 #[(.agg #[.int .i64 i5, .int .i64 i6])] w3 fun r w4 => ∃ b43 : Bool, r = .returned (.bool b43) ∧ (Go.Sx.Fr S w0 w4 ∧ Go.Sx.Mild [g20] w3 w4) ∧ 
        ((b43 = false →
        (R (.returned (.int .i64 (1 : Int))) w4)) ∧
        (b43 = true →
        (R (.returned (.int .i64 (0 : Int))) w4))))) ∧
       (¬ i0 = (6 : Int) →
       ((i0 = (8 : Int) →
        (
         Calls Tryd.prog 96 #[(.int .i64 i19)] w3 fun r w4 => ∃ b43 : Bool, r = .returned (.bool b43) ∧ (Go.Sx.Fr S w0 w4 ∧ Go.Sx.Mild [g20] w3 w4) ∧ 
         ((b43 = false →
         (R (.returned (.int .i64 (1 : Int))) w4)) ∧
         (b43 = true →
         (R (.returned (.int .i64 (0 : Int))) w4))))) ∧
        (¬ i0 = (8 : Int) →
        ((i0 = (7 : Int) →
         (
          Calls Tryd.prog 97 #[(.string s18)] w3 fun r w4 => ∃ b43 : Bool, r = .returned (.bool b43) ∧ (Go.Sx.Fr S w0 w4 ∧ Go.Sx.Mild [g20] w3 w4) ∧ 
          ((b43 = false →
          (R (.returned (.int .i64 (4 : Int))) w4)) ∧
          (b43 = true →
          (R (.returned (.int .i64 (0 : Int))) w4))))) ∧
         (¬ i0 = (7 : Int) →
         (R (.returned (.int .i64 (0 : Int))) w3))))))))))))))))))))))) :
    Calls Tryd.prog 69 #[(.agg #[.int .i64 i0, .int .i64 i1, .int .i64 i2, .int .i64 i3, .int .i64 i4, .int .i64 i5, .int .i64 i6, .int .i64 i7, .int .i64 i8, .int .i64 i9, .int .i64 i10, .int .i64 i11, .int .i64 i12, .int .i64 i13, .int .i64 i14, .int .i64 i15, .int .i64 i16, .bool b17, .string s18, .int .i64 i19])] w0 R :=
  Go.Sx.fn_sound0 (P := Tryd.prog) (S := S) (w0 := w0) (R := R) (ws := []) (an := []) (f := 69) (n := 20) (xs := [.agg [.int .i64 (.var 0), .int .i64 (.var 1), .int .i64 (.var 2), .int .i64 (.var 3), .int .i64 (.var 4), .int .i64 (.var 5), .int .i64 (.var 6), .int .i64 (.var 7), .int .i64 (.var 8), .int .i64 (.var 9), .int .i64 (.var 10), .int .i64 (.var 11), .int .i64 (.var 12), .int .i64 (.var 13), .int .i64 (.var 14), .int .i64 (.var 15), .int .i64 (.var 16), .bool (.var 17), .str (.var 18), .int .i64 (.var 19)]]) (e := [.i i0, .i i1, .i i2, .i i3, .i i4, .i i5, .i i6, .i i7, .i i8, .i i9, .i i10, .i i11, .i i12, .i i13, .i i14, .i i15, .i i16, .b b17, .s s18, .i i19]) rfl (by kernel_rfl) (Eq.mp (by kernel_rfl) h)


/-- tracery/traceryref09.MayEdit: what is left of it. -/
theorem ref09_MayEdit_sx (R : Ending → World → Prop) (S : Nat → Prop) (w0 : World) (A0 : Option Addr) (n1 : Nat) (n2 : Nat) (h :
 ∀ g3 : Nat, w0.heap.size ≤ g3 → (((n1 : Int) < (1 : Int) →
 (∀ w1 : World, Go.Sx.Fr S w0 w1 → Below w0.heap.size w0 w1 → R (.returned (.int .i64 (3 : Int))) w1)) ∧
 ((1 : Int) ≤ (n1 : Int) →
 (((6 : Int) < (n1 : Int) →
  (∀ w1 : World, Go.Sx.Fr S w0 w1 → Below w0.heap.size w0 w1 → R (.returned (.int .i64 (3 : Int))) w1)) ∧
  ((n1 : Int) ≤ (6 : Int) →
  (∃ (I0 : Int → Int → World → Prop) (M0 : Int → Int → World → Nat), (∀ w1 : World, Go.Sx.Fr S w0 w1 → Below w0.heap.size w0 w1 → I0 (0 : Int) (0 : Int) w1) ∧
   ∀ i4 : Int, ∀ i5 : Int, ∀ w2 : World, Go.Sx.Fr S w0 w2 → I0 i4 i5 w2 → 
    ((i5 < (n1 : Int) →
    ((0 : Int) ≤ i5 ∧ i5 < (n1 : Int) ∧ ∃ p6 : Nat, ∃ o7 : Nat, A0 = some ⟨p6, o7, none⟩ ∧
     (∃ i8 : Int, ∃ i9 : Int, ∃ i10 : Int, ∃ i11 : Int, ∃ i12 : Int, ∃ i13 : Int, ∃ i14 : Int, ∃ i15 : Int, ∃ i16 : Int, ∃ i17 : Int, ∃ i18 : Int, ∃ i19 : Int, ∃ i20 : Int, ∃ i21 : Int, ∃ i22 : Int, ∃ i23 : Int, ∃ i24 : Int, ∃ b25 : Bool, ∃ s26 : ByteArray, ∃ i27 : Int, Go.Sx.CellsAt w2 p6 (o7 + (i5).toNat * 20 + 0) [.int .i64 i8, .int .i64 i9, .int .i64 i10, .int .i64 i11, .int .i64 i12, .int .i64 i13, .int .i64 i14, .int .i64 i15, .int .i64 i16, .int .i64 i17, .int .i64 i18, .int .i64 i19, .int .i64 i20, .int .i64 i21, .int .i64 i22, .int .i64 i23, .int .i64 i24, .bool b25, .string s26, .int .i64 i27] ∧ 
     (
     Calls Tryd.prog 69 #[(.agg #[.int .i64 i8, .int .i64 i9, .int .i64 i10, .int .i64 i11, .int .i64 i12, .int .i64 i13, .int .i64 i14, .int .i64 i15, .int .i64 i16, .int .i64 i17, .int .i64 i18, .int .i64 i19, .int .i64 i20, .int .i64 i21, .int .i64 i22, .int .i64 i23, .int .i64 i24, .bool b25, .string s26, .int .i64 i27])] w2 fun r w3 => ∃ i28 : Int, r = .returned (.int .i64 i28) ∧ (Go.Sx.Fr S w0 w3 ∧ Go.Sx.Mild [g3] w2 w3) ∧ 
     ((¬ i28 = (0 : Int) →
     (R (.returned (.int .i64 i28)) w3)) ∧
     (i28 = (0 : Int) →
     (I0 i4 (IntKind.i64.wrap (i5 + (1 : Int))) w3 ∧ M0 i4 (IntKind.i64.wrap (i5 + (1 : Int))) w3 < M0 i4 i5 w2))))))) ∧
    ((n1 : Int) ≤ i5 →
    (R (.returned (.int .i64 (0 : Int))) w2))))))))) :
    Calls Tryd.prog 39 #[(.agg #[.slice A0 n1 n2])] w0 R :=
  Go.Sx.fn_sound0 (P := Tryd.prog) (S := S) (w0 := w0) (R := R) (ws := []) (an := []) (f := 39) (n := 3) (xs := [.agg [.slice (.var 0) (.var 1) (.var 2)]]) (e := [.a A0, .n n1, .n n2]) rfl (by kernel_rfl) (Eq.mp (by kernel_rfl) h)


/-- tracery/traceryref09.Same: what is left of it. -/
theorem ref09_Same_sx (R : Ending → World → Prop) (S : Nat → Prop) (w0 : World) (A0 : Option Addr) (n1 : Nat) (n2 : Nat) (A3 : Option Addr) (n4 : Nat) (n5 : Nat) (h :
 ∀ g6 : Nat, w0.heap.size ≤ g6 → ∀ g7 : Nat, w0.heap.size ≤ g7 → ((¬ (n1 : Int) = (n4 : Int) →
 (∀ w1 : World, Go.Sx.Fr S w0 w1 → Below w0.heap.size w0 w1 → R (.returned (.bool false)) w1)) ∧
 ((n1 : Int) = (n4 : Int) →
 (∃ (I0 : Bool → Int → World → Prop) (M0 : Bool → Int → World → Nat), (∀ w1 : World, Go.Sx.Fr S w0 w1 → Below w0.heap.size w0 w1 → I0 false (0 : Int) w1) ∧
  ∀ b8 : Bool, ∀ i9 : Int, ∀ w2 : World, Go.Sx.Fr S w0 w2 → I0 b8 i9 w2 → 
   ((i9 < (n1 : Int) →
   (
    ((0 : Int) ≤ i9 ∧ i9 < (n1 : Int) ∧ ∃ p11 : Nat, ∃ o12 : Nat, A0 = some ⟨p11, o12, none⟩ ∧
    (∀ w3 : World, Go.Sx.Fr S w0 w3 → Below w2.heap.size w2 w3 → ∃ i13 : Int, ∃ i14 : Int, ∃ i15 : Int, ∃ i16 : Int, ∃ i17 : Int, ∃ i18 : Int, ∃ i19 : Int, ∃ i20 : Int, ∃ i21 : Int, ∃ i22 : Int, ∃ i23 : Int, ∃ i24 : Int, ∃ i25 : Int, ∃ i26 : Int, ∃ i27 : Int, ∃ i28 : Int, ∃ i29 : Int, ∃ b30 : Bool, ∃ s31 : ByteArray, ∃ i32 : Int, Go.Sx.CellsAt w3 p11 (o12 + (i9).toNat * 20 + 0) [.int .i64 i13, .int .i64 i14, .int .i64 i15, .int .i64 i16, .int .i64 i17, .int .i64 i18, .int .i64 i19, .int .i64 i20, .int .i64 i21, .int .i64 i22, .int .i64 i23, .int .i64 i24, .int .i64 i25, .int .i64 i26, .int .i64 i27, .int .i64 i28, .int .i64 i29, .bool b30, .string s31, .int .i64 i32] ∧ (p11 < w2.heap.size ∧ p11 ∉ []) ∧ 
    ((0 : Int) ≤ i9 ∧ i9 < (n4 : Int) ∧ ∃ p33 : Nat, ∃ o34 : Nat, A3 = some ⟨p33, o34, none⟩ ∧
    (∃ i35 : Int, ∃ i36 : Int, ∃ i37 : Int, ∃ i38 : Int, ∃ i39 : Int, ∃ i40 : Int, ∃ i41 : Int, ∃ i42 : Int, ∃ i43 : Int, ∃ i44 : Int, ∃ i45 : Int, ∃ i46 : Int, ∃ i47 : Int, ∃ i48 : Int, ∃ i49 : Int, ∃ i50 : Int, ∃ i51 : Int, ∃ b52 : Bool, ∃ s53 : ByteArray, ∃ i54 : Int, Go.Sx.CellsAt w3 p33 (o34 + (i9).toNat * 20 + 0) [.int .i64 i35, .int .i64 i36, .int .i64 i37, .int .i64 i38, .int .i64 i39, .int .i64 i40, .int .i64 i41, .int .i64 i42, .int .i64 i43, .int .i64 i44, .int .i64 i45, .int .i64 i46, .int .i64 i47, .int .i64 i48, .int .i64 i49, .int .i64 i50, .int .i64 i51, .bool b52, .string s53, .int .i64 i54] ∧ (p33 < w2.heap.size ∧ p33 ∉ []) ∧ 
    (∃ b55 : Bool, (∀ w', Go.Sx.Keep w2.heap.size [] w3 w' → (binOp .neq 39 (.agg #[.int .i64 i13, .int .i64 i14, .int .i64 i15, .int .i64 i16, .int .i64 i17, .int .i64 i18, .int .i64 i19, .int .i64 i20, .int .i64 i21, .int .i64 i22, .int .i64 i23, .int .i64 i24, .int .i64 i25, .int .i64 i26, .int .i64 i27, .int .i64 i28, .int .i64 i29, .bool b30, .string s31, .int .i64 i32]) (.agg #[.int .i64 i35, .int .i64 i36, .int .i64 i37, .int .i64 i38, .int .i64 i39, .int .i64 i40, .int .i64 i41, .int .i64 i42, .int .i64 i43, .int .i64 i44, .int .i64 i45, .int .i64 i46, .int .i64 i47, .int .i64 i48, .int .i64 i49, .int .i64 i50, .int .i64 i51, .bool b52, .string s53, .int .i64 i54])).run Tryd.prog w' = .ok (.bool b55) w') ∧
    ((b55 = true →
    (R (.returned (.bool false)) w3)) ∧
    (b55 = false →
    (I0 b8 (IntKind.i64.wrap (i9 + (1 : Int))) w3 ∧ M0 b8 (IntKind.i64.wrap (i9 + (1 : Int))) w3 < M0 b8 i9 w2)))))))))) ∧
   ((n1 : Int) ≤ i9 →
   (R (.returned (.bool true)) w2))))))) :
    Calls Tryd.prog 18 #[(.agg #[.slice A0 n1 n2]), (.agg #[.slice A3 n4 n5])] w0 R :=
  Go.Sx.fn_sound0 (P := Tryd.prog) (S := S) (w0 := w0) (R := R) (ws := []) (an := []) (f := 18) (n := 6) (xs := [.agg [.slice (.var 0) (.var 1) (.var 2)], .agg [.slice (.var 3) (.var 4) (.var 5)]]) (e := [.a A0, .n n1, .n n2, .a A3, .n n4, .n n5]) rfl (by kernel_rfl) (Eq.mp (by kernel_rfl) h)


end Go.Proofs.YtfjenamomipmdaaDoor

