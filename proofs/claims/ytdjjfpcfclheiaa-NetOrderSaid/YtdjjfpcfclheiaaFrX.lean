/- Frames: what is left of the functions. -/
import Derived.Test.YtdjjfpcfclheiaaProg
import Derived.Test.YtdjjfpcfclheiaaSs
import Derived.KernelRfl
set_option linter.unusedVariables false
namespace Go.Proofs.Ytdjjfpcfclheiaa.Frm
open Go Go.RowKit Go.Proofs Go.Trc
set_option maxRecDepth 100000
/-- tracery/frame.Put: what is left of it. -/
theorem put_sx (R : Ending → World → Prop) (S : Nat → Prop) (w0 : World) (i0 : Int) (i1 : Int) (i2 : Int) (i3 : Int) (i4 : Int) (i5 : Int) (A6 : Option Addr) (n7 : Nat) (n8 : Nat) (h :
 ∀ g9 : Nat, w0.heap.size ≤ g9 → (∀ w1 : World, Go.Sx.Fr S w0 w1 → Below w0.heap.size w0 w1 → w0.heap.size ≤ g9 → w1.heap[g9]? = some (.cells #[.int .i64 i0, .int .i64 i1, .int .i64 i2, .int .i64 i3, .int .i64 i4, .int .i64 i5, .slice A6 n7 n8] 47 (0, 0)) → 
 Calls Try.prog 63 #[(.agg #[.int .i64 i0, .int .i64 i1, .int .i64 i2, .int .i64 i3, .int .i64 i4, .int .i64 i5, .slice A6 n7 n8])] w1 fun r w2 => ∃ i10 : Int, r = .returned (.int .i64 i10) ∧ (Go.Sx.Fr S w0 w2 ∧ Go.Sx.Mild [g9] w1 w2) ∧ 
 ((¬ i10 = (0 : Int) →
 (R (.returned (.tuple #[.slice none 0 0, .int .i64 i10])) w2)) ∧
 (i10 = (0 : Int) →
 ∀ g11 : Nat, w0.heap.size ≤ g11 → ∀ g12 : Nat, w0.heap.size ≤ g12 → (∀ w3 : World, Go.Sx.Fr S w0 w3 → Below w2.heap.size w2 w3 → w2.heap.size ≤ g12 → w3.heap[g12]? = some (.cells #[.int .i64 i3, .int .i64 i4, .int .i64 i5] 3 (0, 0)) → w2.heap.size ≤ g11 → w3.heap[g11]? = some (.cells #[.int .u8 (IntKind.u8.wrap i0), .int .u8 (IntKind.u8.wrap i1), .int .u8 (IntKind.u8.wrap i2)] 5 (0, 0)) → 
  Calls Try.prog 64 #[(.slice (some ⟨g11, 0, none⟩) 3 3), (.int .u32 (IntKind.u32.wrap i3))] w3 fun r w4 => ∃ A13 : Option Addr, ∃ n14 : Nat, ∃ n15 : Nat, r = .returned (.slice A13 n14 n15) ∧ (Go.Sx.Fr S w0 w4 ∧ Go.Sx.Mild [g12, g11, g9] w3 w4) ∧ 
  (
  Calls Try.prog 64 #[(.slice A13 n14 n15), (.int .u32 (IntKind.u32.wrap i4))] w4 fun r w5 => ∃ A16 : Option Addr, ∃ n17 : Nat, ∃ n18 : Nat, r = .returned (.slice A16 n17 n18) ∧ (Go.Sx.Fr S w0 w5 ∧ Go.Sx.Mild [g12, g11, g9] w4 w5) ∧ 
  (
  Calls Try.prog 64 #[(.slice A16 n17 n18), (.int .u32 (IntKind.u32.wrap i5))] w5 fun r w6 => ∃ A19 : Option Addr, ∃ n20 : Nat, ∃ n21 : Nat, r = .returned (.slice A19 n20 n21) ∧ (Go.Sx.Fr S w0 w6 ∧ Go.Sx.Mild [g12, g11, g9] w5 w6) ∧ 
  (
  ∃ w7 : World, ∃ A22 : Option Addr, ∃ n23 : Nat, ∃ n24 : Nat, (Builtin.append_ #[45, 45] 45 #[(.slice A19 n20 n21), (.slice A6 n7 n8)]).run Try.prog w6 = .ok (.slice A22 n23 n24) w7 ∧ (Go.Sx.Fr S w0 w7 ∧ Go.Sx.Mild [g12, g11, g9] w6 w7) ∧ 
  (
  Calls Try.prog 65 #[(.slice A22 n23 n24)] w7 fun r w8 => ∃ i25 : Int, r = .returned (.int .u32 i25) ∧ (Go.Sx.Fr S w0 w8 ∧ Go.Sx.Mild [g12, g11, g9] w7 w8) ∧ 
  (
  Calls Try.prog 64 #[(.slice none 0 0), (.int .u32 i25)] w8 fun r w9 => ∃ A26 : Option Addr, ∃ n27 : Nat, ∃ n28 : Nat, r = .returned (.slice A26 n27 n28) ∧ (Go.Sx.Fr S w0 w9 ∧ Go.Sx.Mild [g12, g11, g9] w8 w9) ∧ 
  (
  Calls Try.prog 66 #[(.slice A26 n27 n28)] w9 fun r w10 => r = .returned (.tuple #[]) ∧ (Go.Sx.Fr S w0 w10 ∧ Go.Sx.Mild [g12, g11, g9] w9 w10) ∧ 
  (
  ∃ w11 : World, ∃ A29 : Option Addr, ∃ n30 : Nat, ∃ n31 : Nat, (Builtin.append_ #[45, 45] 45 #[(.slice A22 n23 n24), (.slice A26 n27 n28)]).run Try.prog w10 = .ok (.slice A29 n30 n31) w11 ∧ (Go.Sx.Fr S w0 w11 ∧ Go.Sx.Mild [g12, g11, g9] w10 w11) ∧ 
  (R (.returned (.tuple #[.slice A29 n30 n31, .int .i64 (0 : Int)])) w11))))))))))))) :
    Calls Try.prog 43 #[(.agg #[.int .i64 i0, .int .i64 i1, .int .i64 i2, .int .i64 i3, .int .i64 i4, .int .i64 i5, .slice A6 n7 n8])] w0 R :=
  Go.Sx.fn_sound0 (P := Try.prog) (S := S) (w0 := w0) (R := R) (ws := []) (an := [⟨6, [], [], 5⟩, ⟨999999, [], [], 0⟩]) (f := 43) (n := 9) (xs := [.agg [.int .i64 (.var 0), .int .i64 (.var 1), .int .i64 (.var 2), .int .i64 (.var 3), .int .i64 (.var 4), .int .i64 (.var 5), .slice (.var 6) (.var 7) (.var 8)]]) (e := [.i i0, .i i1, .i i2, .i i3, .i i4, .i i5, .a A6, .n n7, .n n8]) rfl (by kernel_rfl) (Eq.mp (by kernel_rfl) h)


/-- tracery/traceryref15.Put: what is left of it. -/
theorem refPut_sx (R : Ending → World → Prop) (S : Nat → Prop) (w0 : World) (i0 : Int) (i1 : Int) (i2 : Int) (i3 : Int) (i4 : Int) (i5 : Int) (A6 : Option Addr) (n7 : Nat) (n8 : Nat) (h :
 ∀ g9 : Nat, w0.heap.size ≤ g9 → (∀ w1 : World, Go.Sx.Fr S w0 w1 → Below w0.heap.size w0 w1 → w0.heap.size ≤ g9 → w1.heap[g9]? = some (.cells #[.int .i64 i0, .int .i64 i1, .int .i64 i2, .int .i64 i3, .int .i64 i4, .int .i64 i5, .slice A6 n7 n8] 47 (0, 0)) → 
 Calls Try.prog 28 #[(.agg #[.int .i64 i0, .int .i64 i1, .int .i64 i2, .int .i64 i3, .int .i64 i4, .int .i64 i5, .slice A6 n7 n8])] w1 fun r w2 => ∃ i10 : Int, r = .returned (.int .i64 i10) ∧ (Go.Sx.Fr S w0 w2 ∧ Go.Sx.Mild [g9] w1 w2) ∧ 
 ((¬ i10 = (0 : Int) →
 (R (.returned (.tuple #[.slice none 0 0, .int .i64 i10])) w2)) ∧
 (i10 = (0 : Int) →
 ∀ g11 : Nat, w0.heap.size ≤ g11 → (∀ w3 : World, Go.Sx.Fr S w0 w3 → Below w2.heap.size w2 w3 → w2.heap.size ≤ g11 → w3.heap[g11]? = some (.cells #[.int .u8 (IntKind.u8.wrap i0), .int .u8 (IntKind.u8.wrap i1), .int .u8 (IntKind.u8.wrap i2)] 5 (0, 0)) → 
  (∀ w4 : World, Go.Sx.Fr S w0 w4 → Below w3.heap.size w3 w4 → w4.heap[g11]? = some (.cells #[.int .u8 (IntKind.u8.wrap i0), .int .u8 (IntKind.u8.wrap i1), .int .u8 (IntKind.u8.wrap i2)] 5 (0, 0)) → 
  Calls Try.prog 80 #[(.slice (some ⟨g11, 0, none⟩) 3 3), (.int .i64 i3)] w4 fun r w5 => ∃ A13 : Option Addr, ∃ n14 : Nat, ∃ n15 : Nat, r = .returned (.slice A13 n14 n15) ∧ (Go.Sx.Fr S w0 w5 ∧ Go.Sx.Mild [g11, g9] w4 w5) ∧ Go.Sx.Keep w3.heap.size [] w4 w5 ∧ 
  (
  Calls Try.prog 80 #[(.slice A13 n14 n15), (.int .i64 i4)] w5 fun r w6 => ∃ A16 : Option Addr, ∃ n17 : Nat, ∃ n18 : Nat, r = .returned (.slice A16 n17 n18) ∧ (Go.Sx.Fr S w0 w6 ∧ Go.Sx.Mild [g11, g9] w5 w6) ∧ Go.Sx.Keep w3.heap.size [] w5 w6 ∧ 
  (
  Calls Try.prog 80 #[(.slice A16 n17 n18), (.int .i64 i5)] w6 fun r w7 => ∃ A19 : Option Addr, ∃ n20 : Nat, ∃ n21 : Nat, r = .returned (.slice A19 n20 n21) ∧ (Go.Sx.Fr S w0 w7 ∧ Go.Sx.Mild [g11, g9] w6 w7) ∧ 
  (
  ∃ w8 : World, ∃ A22 : Option Addr, ∃ n23 : Nat, ∃ n24 : Nat, (Builtin.append_ #[45, 45] 45 #[(.slice A19 n20 n21), (.slice A6 n7 n8)]).run Try.prog w7 = .ok (.slice A22 n23 n24) w8 ∧ (Go.Sx.Fr S w0 w8 ∧ Go.Sx.Mild [g11, g9] w7 w8) ∧ 
  (
  Calls Try.prog 81 #[(.slice A22 n23 n24)] w8 fun r w9 => ∃ i25 : Int, r = .returned (.int .u32 i25) ∧ (Go.Sx.Fr S w0 w9 ∧ Go.Sx.Mild [g11, g9] w8 w9) ∧ 
  ∀ g26 : Nat, w0.heap.size ≤ g26 → (∀ w10 : World, Go.Sx.Fr S w0 w10 → Below w9.heap.size w9 w10 → w9.heap.size ≤ g26 → w10.heap[g26]? = some (.cells #[.int .u8 (IntKind.u8.wrap i25), .int .u8 (IntKind.u8.wrap (Int.fdiv i25 (2 ^ 8))), .int .u8 (IntKind.u8.wrap (Int.fdiv i25 (2 ^ 16))), .int .u8 (IntKind.u8.wrap (Int.fdiv i25 (2 ^ 24)))] 5 (0, 0)) → 
  ∃ w11 : World, ∃ A27 : Option Addr, ∃ n28 : Nat, ∃ n29 : Nat, (Builtin.append_ #[45, 45] 45 #[(.slice A22 n23 n24), (.slice (some ⟨g26, 0, none⟩) 4 4)]).run Try.prog w10 = .ok (.slice A27 n28 n29) w11 ∧ (Go.Sx.Fr S w0 w11 ∧ Go.Sx.Mild [g26, g11, g9] w10 w11) ∧ 
  (R (.returned (.tuple #[.slice A27 n28 n29, .int .i64 (0 : Int)])) w11)))))))))))) :
    Calls Try.prog 72 #[(.agg #[.int .i64 i0, .int .i64 i1, .int .i64 i2, .int .i64 i3, .int .i64 i4, .int .i64 i5, .slice A6 n7 n8])] w0 R :=
  Go.Sx.fn_sound0 (P := Try.prog) (S := S) (w0 := w0) (R := R) (ws := []) (an := [⟨999999, [], [], 0⟩]) (f := 72) (n := 9) (xs := [.agg [.int .i64 (.var 0), .int .i64 (.var 1), .int .i64 (.var 2), .int .i64 (.var 3), .int .i64 (.var 4), .int .i64 (.var 5), .slice (.var 6) (.var 7) (.var 8)]]) (e := [.i i0, .i i1, .i i2, .i i3, .i i4, .i i5, .a A6, .n n7, .n n8]) rfl (by kernel_rfl) (Eq.mp (by kernel_rfl) h)


/-- tracery/frame.May: what is left of it. -/
theorem may_sx (R : Ending → World → Prop) (S : Nat → Prop) (w0 : World) (i0 : Int) (i1 : Int) (i2 : Int) (i3 : Int) (i4 : Int) (i5 : Int) (A6 : Option Addr) (n7 : Nat) (n8 : Nat) (h :
 ∀ g9 : Nat, w0.heap.size ≤ g9 → ∀ g10 : Nat, w0.heap.size ≤ g10 → ∀ g11 : Nat, w0.heap.size ≤ g11 → (∀ w1 : World, Go.Sx.Fr S w0 w1 → Below w0.heap.size w0 w1 → 
 ∃ f ar, (do Go.invoke (← Deferred.ofValue (.func (.func 75) #[] #[]) #[(.int .i64 i1), (.int .i64 (8 : Int))]).target (← Deferred.ofValue (.func (.func 75) #[] #[]) #[(.int .i64 i1), (.int .i64 (8 : Int))]).args : Sem Next).run Try.prog w1 = .ok (.enter f ar) w1 ∧ Calls Try.prog f ar w1 fun r w2 => ∃ b12 : Bool, r = .returned (.bool b12) ∧ (Go.Sx.Fr S w0 w2 ∧ Go.Sx.Mild [g11, g10, g9] w1 w2) ∧ 
 ((b12 = true →
 (
  ∃ f ar, (do Go.invoke (← Deferred.ofValue (.func (.func 75) #[] #[]) #[(.int .i64 i2), (.int .i64 (8 : Int))]).target (← Deferred.ofValue (.func (.func 75) #[] #[]) #[(.int .i64 i2), (.int .i64 (8 : Int))]).args : Sem Next).run Try.prog w2 = .ok (.enter f ar) w2 ∧ Calls Try.prog f ar w2 fun r w3 => ∃ b13 : Bool, r = .returned (.bool b13) ∧ (Go.Sx.Fr S w0 w3 ∧ Go.Sx.Mild [g11, g10, g9] w2 w3) ∧ 
  ((b13 = true →
  ((i0 < (1 : Int) →
   (R (.returned (.int .i64 (1 : Int))) w3)) ∧
   ((1 : Int) ≤ i0 →
   (((4 : Int) < i0 →
    (R (.returned (.int .i64 (1 : Int))) w3)) ∧
    (i0 ≤ (4 : Int) →
    ((i1 = i2 →
     (R (.returned (.int .i64 (1 : Int))) w3)) ∧
     (¬ i1 = i2 →
     (w3.heap[g10]? = some (.cells #[.func (.func 75) #[] #[]] 114 (0, 0)) → ∃ v14 : Value, (Instr.makeFunc (.func 77) #[] #[(.pointer (some ⟨g10, 0, none⟩))]).run Try.prog w3 = .ok (v14) w3 ∧
      (w3.heap[g11]? = some (.cells #[.int .i64 i3, .int .i64 i4, .int .i64 i5] 3 (0, 0)) → 
      Calls Try.prog 76 #[(.slice (some ⟨g11, 0, none⟩) 3 3), (v14)] w3 fun r w4 => ∃ b15 : Bool, r = .returned (.bool b15) ∧ (Go.Sx.Fr S w0 w4 ∧ Go.Sx.Mild [g11, g10, g9] w3 w4) ∧ 
      ((b15 = true →
      (R (.returned (.int .i64 (1 : Int))) w4)) ∧
      (b15 = false →
      (((16384 : Int) < (n7 : Int) →
       (R (.returned (.int .i64 (3 : Int))) w4)) ∧
       ((n7 : Int) ≤ (16384 : Int) →
       (R (.returned (.int .i64 (0 : Int))) w4)))))))))))))) ∧
  (b13 = false →
  ((i0 < (1 : Int) →
   (R (.returned (.int .i64 (1 : Int))) w3)) ∧
   ((1 : Int) ≤ i0 →
   (((4 : Int) < i0 →
    (R (.returned (.int .i64 (1 : Int))) w3)) ∧
    (i0 ≤ (4 : Int) →
    (R (.returned (.int .i64 (1 : Int))) w3))))))))) ∧
 (b12 = false →
 ((i0 < (1 : Int) →
  (R (.returned (.int .i64 (1 : Int))) w2)) ∧
  ((1 : Int) ≤ i0 →
  (((4 : Int) < i0 →
   (R (.returned (.int .i64 (1 : Int))) w2)) ∧
   (i0 ≤ (4 : Int) →
   (R (.returned (.int .i64 (1 : Int))) w2))))))))) :
    Calls Try.prog 63 #[(.agg #[.int .i64 i0, .int .i64 i1, .int .i64 i2, .int .i64 i3, .int .i64 i4, .int .i64 i5, .slice A6 n7 n8])] w0 R :=
  Go.Sx.fn_sound0 (P := Try.prog) (S := S) (w0 := w0) (R := R) (ws := []) (an := []) (f := 63) (n := 9) (xs := [.agg [.int .i64 (.var 0), .int .i64 (.var 1), .int .i64 (.var 2), .int .i64 (.var 3), .int .i64 (.var 4), .int .i64 (.var 5), .slice (.var 6) (.var 7) (.var 8)]]) (e := [.i i0, .i i1, .i i2, .i i3, .i i4, .i i5, .a A6, .n n7, .n n8]) rfl (by kernel_rfl) (Eq.mp (by kernel_rfl) h)


/-- tracery/traceryref15.May: what is left of it. -/
theorem refMay_sx (R : Ending → World → Prop) (S : Nat → Prop) (w0 : World) (i0 : Int) (i1 : Int) (i2 : Int) (i3 : Int) (i4 : Int) (i5 : Int) (A6 : Option Addr) (n7 : Nat) (n8 : Nat) (h :
 ∀ g9 : Nat, w0.heap.size ≤ g9 → ((i0 < (1 : Int) →
 (∀ w1 : World, Go.Sx.Fr S w0 w1 → Below w0.heap.size w0 w1 → R (.returned (.int .i64 (1 : Int))) w1)) ∧
 ((1 : Int) ≤ i0 →
 (((4 : Int) < i0 →
  (∀ w1 : World, Go.Sx.Fr S w0 w1 → Below w0.heap.size w0 w1 → R (.returned (.int .i64 (1 : Int))) w1)) ∧
  (i0 ≤ (4 : Int) →
  ((i1 < (0 : Int) →
   (∀ w1 : World, Go.Sx.Fr S w0 w1 → Below w0.heap.size w0 w1 → R (.returned (.int .i64 (1 : Int))) w1)) ∧
   ((0 : Int) ≤ i1 →
   (((8 : Int) < i1 →
    (∀ w1 : World, Go.Sx.Fr S w0 w1 → Below w0.heap.size w0 w1 → R (.returned (.int .i64 (1 : Int))) w1)) ∧
    (i1 ≤ (8 : Int) →
    ((i2 < (0 : Int) →
     (∀ w1 : World, Go.Sx.Fr S w0 w1 → Below w0.heap.size w0 w1 → R (.returned (.int .i64 (1 : Int))) w1)) ∧
     ((0 : Int) ≤ i2 →
     (((8 : Int) < i2 →
      (∀ w1 : World, Go.Sx.Fr S w0 w1 → Below w0.heap.size w0 w1 → R (.returned (.int .i64 (1 : Int))) w1)) ∧
      (i2 ≤ (8 : Int) →
      ((i1 = i2 →
       (∀ w1 : World, Go.Sx.Fr S w0 w1 → Below w0.heap.size w0 w1 → R (.returned (.int .i64 (1 : Int))) w1)) ∧
       (¬ i1 = i2 →
       (∀ w1 : World, Go.Sx.Fr S w0 w1 → Below w0.heap.size w0 w1 → 
        Calls Try.prog 46 #[(.int .i64 i3)] w1 fun r w2 => ∃ b10 : Bool, r = .returned (.bool b10) ∧ (Go.Sx.Fr S w0 w2 ∧ Go.Sx.Mild [g9] w1 w2) ∧ 
        ((b10 = false →
        (R (.returned (.int .i64 (1 : Int))) w2)) ∧
        (b10 = true →
        (
         Calls Try.prog 46 #[(.int .i64 i4)] w2 fun r w3 => ∃ b11 : Bool, r = .returned (.bool b11) ∧ (Go.Sx.Fr S w0 w3 ∧ Go.Sx.Mild [g9] w2 w3) ∧ 
         ((b11 = false →
         (R (.returned (.int .i64 (1 : Int))) w3)) ∧
         (b11 = true →
         (
          Calls Try.prog 46 #[(.int .i64 i5)] w3 fun r w4 => ∃ b12 : Bool, r = .returned (.bool b12) ∧ (Go.Sx.Fr S w0 w4 ∧ Go.Sx.Mild [g9] w3 w4) ∧ 
          ((b12 = false →
          (R (.returned (.int .i64 (1 : Int))) w4)) ∧
          (b12 = true →
          (((16384 : Int) < (n7 : Int) →
           (R (.returned (.int .i64 (3 : Int))) w4)) ∧
           ((n7 : Int) ≤ (16384 : Int) →
           (R (.returned (.int .i64 (0 : Int))) w4))))))))))))))))))))))))))) :
    Calls Try.prog 28 #[(.agg #[.int .i64 i0, .int .i64 i1, .int .i64 i2, .int .i64 i3, .int .i64 i4, .int .i64 i5, .slice A6 n7 n8])] w0 R :=
  Go.Sx.fn_sound0 (P := Try.prog) (S := S) (w0 := w0) (R := R) (ws := []) (an := []) (f := 28) (n := 9) (xs := [.agg [.int .i64 (.var 0), .int .i64 (.var 1), .int .i64 (.var 2), .int .i64 (.var 3), .int .i64 (.var 4), .int .i64 (.var 5), .slice (.var 6) (.var 7) (.var 8)]]) (e := [.i i0, .i i1, .i i2, .i i3, .i i4, .i i5, .a A6, .n n7, .n n8]) rfl (by kernel_rfl) (Eq.mp (by kernel_rfl) h)


/-- tracery/frame.Sum: what is left of it. -/
theorem sum_sx (R : Ending → World → Prop) (S : Nat → Prop) (w0 : World) (A0 : Option Addr) (n1 : Nat) (n2 : Nat) (h :
 (∃ (I0 : Int → Int → World → Prop) (M0 : Int → Int → World → Nat), (I0 (4294967295 : Int) (0 : Int) w0) ∧
 ∀ i3 : Int, ∀ i4 : Int, ∀ w1 : World, Go.Sx.Fr S w0 w1 → I0 i3 i4 w1 → 
  ((i4 < (n1 : Int) →
  ((0 : Int) ≤ i4 ∧ i4 < (n1 : Int) ∧ ∃ p5 : Nat, ∃ o6 : Nat, A0 = some ⟨p5, o6, none⟩ ∧
   (∃ i7 : Int, Go.Sx.CellsAt w1 p5 (o6 + (i4).toNat * 1 + 0) [.int .u8 i7] ∧ 
   (∃ (I1 : Int → Int → World → Prop) (M1 : Int → Int → World → Nat), (I1 (bits .xor .u32 i3 (IntKind.u32.wrap i7)) (0 : Int) w1) ∧
   ∀ i8 : Int, ∀ i9 : Int, ∀ w2 : World, Go.Sx.Fr S w0 w2 → I1 i8 i9 w2 → 
    ((i9 < (8 : Int) →
    (I1 (bits .xor .u32 (Int.fdiv i8 (2 ^ 1)) (IntKind.u32.wrap ((bits .and .u32 i8 (1 : Int)) * (3988292384 : Int)))) (IntKind.i64.wrap (i9 + (1 : Int))) w2 ∧ M1 (bits .xor .u32 (Int.fdiv i8 (2 ^ 1)) (IntKind.u32.wrap ((bits .and .u32 i8 (1 : Int)) * (3988292384 : Int)))) (IntKind.i64.wrap (i9 + (1 : Int))) w2 < M1 i8 i9 w2)) ∧
    ((8 : Int) ≤ i9 →
    (I0 i8 (IntKind.i64.wrap (i4 + (1 : Int))) w2 ∧ M0 i8 (IntKind.i64.wrap (i4 + (1 : Int))) w2 < M0 i3 i4 w1))))))) ∧
  ((n1 : Int) ≤ i4 →
  (R (.returned (.int .u32 (bits .xor .u32 (4294967295 : Int) i3))) w1))))) :
    Calls Try.prog 65 #[(.slice A0 n1 n2)] w0 R :=
  Go.Sx.fn_sound0 (P := Try.prog) (S := S) (w0 := w0) (R := R) (ws := []) (an := []) (f := 65) (n := 3) (xs := [.one (.slice (.var 0) (.var 1) (.var 2))]) (e := [.a A0, .n n1, .n n2]) rfl (by kernel_rfl) (Eq.mp (by kernel_rfl) h)


/-- tracery/traceryref15.Sum: what is left of it. -/
theorem refSum_sx (R : Ending → World → Prop) (S : Nat → Prop) (w0 : World) (A0 : Option Addr) (n1 : Nat) (n2 : Nat) (h :
 (∃ (I0 : Int → Int → World → Prop) (M0 : Int → Int → World → Nat), (I0 (4294967295 : Int) (0 : Int) w0) ∧
 ∀ i3 : Int, ∀ i4 : Int, ∀ w1 : World, Go.Sx.Fr S w0 w1 → I0 i3 i4 w1 → 
  ((i4 < (n1 : Int) →
  ((0 : Int) ≤ i4 ∧ i4 < (n1 : Int) ∧ ∃ p5 : Nat, ∃ o6 : Nat, A0 = some ⟨p5, o6, none⟩ ∧
   (∃ i7 : Int, Go.Sx.CellsAt w1 p5 (o6 + (i4).toNat * 1 + 0) [.int .u8 i7] ∧ 
   (∃ (I1 : Int → Int → World → Prop) (M1 : Int → Int → World → Nat), (I1 (bits .xor .u32 i3 (IntKind.u32.wrap i7)) (0 : Int) w1) ∧
   ∀ i8 : Int, ∀ i9 : Int, ∀ w2 : World, Go.Sx.Fr S w0 w2 → I1 i8 i9 w2 → 
    ((i9 < (8 : Int) →
    (¬ (2 : Int) = (0 : Int) ∧
     (¬ (2 : Int) = (0 : Int) ∧
     (((Int.tmod i8 (2 : Int)) = (1 : Int) →
     (I1 (bits .xor .u32 (IntKind.u32.wrap (Int.tdiv i8 (2 : Int))) (3988292384 : Int)) (IntKind.i64.wrap (i9 + (1 : Int))) w2 ∧ M1 (bits .xor .u32 (IntKind.u32.wrap (Int.tdiv i8 (2 : Int))) (3988292384 : Int)) (IntKind.i64.wrap (i9 + (1 : Int))) w2 < M1 i8 i9 w2)) ∧
     (¬ (Int.tmod i8 (2 : Int)) = (1 : Int) →
     (I1 (IntKind.u32.wrap (Int.tdiv i8 (2 : Int))) (IntKind.i64.wrap (i9 + (1 : Int))) w2 ∧ M1 (IntKind.u32.wrap (Int.tdiv i8 (2 : Int))) (IntKind.i64.wrap (i9 + (1 : Int))) w2 < M1 i8 i9 w2)))))) ∧
    ((8 : Int) ≤ i9 →
    (I0 i8 (IntKind.i64.wrap (i4 + (1 : Int))) w2 ∧ M0 i8 (IntKind.i64.wrap (i4 + (1 : Int))) w2 < M0 i3 i4 w1))))))) ∧
  ((n1 : Int) ≤ i4 →
  (R (.returned (.int .u32 (bits .xor .u32 i3 (4294967295 : Int)))) w1))))) :
    Calls Try.prog 81 #[(.slice A0 n1 n2)] w0 R :=
  Go.Sx.fn_sound0 (P := Try.prog) (S := S) (w0 := w0) (R := R) (ws := []) (an := []) (f := 81) (n := 3) (xs := [.one (.slice (.var 0) (.var 1) (.var 2))]) (e := [.a A0, .n n1, .n n2]) rfl (by kernel_rfl) (Eq.mp (by kernel_rfl) h)


/-- tracery/traceryref15.Same: what is left of it. -/
theorem same_sx (R : Ending → World → Prop) (S : Nat → Prop) (w0 : World) (i0 : Int) (i1 : Int) (i2 : Int) (i3 : Int) (i4 : Int) (i5 : Int) (A6 : Option Addr) (n7 : Nat) (n8 : Nat) (i9 : Int) (i10 : Int) (i11 : Int) (i12 : Int) (i13 : Int) (i14 : Int) (A15 : Option Addr) (n16 : Nat) (n17 : Nat) (h :
 ∀ g18 : Nat, w0.heap.size ≤ g18 → ∀ g19 : Nat, w0.heap.size ≤ g19 → ((i0 = i9 →
 ((i1 = i10 →
  ((i2 = i11 →
   ((i3 = i12 →
    ((i4 = i13 →
     ((i5 = i14 →
      (∀ w1 : World, Go.Sx.Fr S w0 w1 → Below w0.heap.size w0 w1 → ∃ s20 : ByteArray, (convert 45 9 (.slice A6 n7 n8)).run Try.prog w1 = .ok (.string s20) w1 ∧
       (∃ s21 : ByteArray, (convert 45 9 (.slice A15 n16 n17)).run Try.prog w1 = .ok (.string s21) w1 ∧
       (R (.returned (.bool ((s20).toList == (s21).toList))) w1)))) ∧
      (¬ i5 = i14 →
      (∀ w1 : World, Go.Sx.Fr S w0 w1 → Below w0.heap.size w0 w1 → R (.returned (.bool false)) w1)))) ∧
     (¬ i4 = i13 →
     (∀ w1 : World, Go.Sx.Fr S w0 w1 → Below w0.heap.size w0 w1 → R (.returned (.bool false)) w1)))) ∧
    (¬ i3 = i12 →
    (∀ w1 : World, Go.Sx.Fr S w0 w1 → Below w0.heap.size w0 w1 → R (.returned (.bool false)) w1)))) ∧
   (¬ i2 = i11 →
   (∀ w1 : World, Go.Sx.Fr S w0 w1 → Below w0.heap.size w0 w1 → R (.returned (.bool false)) w1)))) ∧
  (¬ i1 = i10 →
  (∀ w1 : World, Go.Sx.Fr S w0 w1 → Below w0.heap.size w0 w1 → R (.returned (.bool false)) w1)))) ∧
 (¬ i0 = i9 →
 (∀ w1 : World, Go.Sx.Fr S w0 w1 → Below w0.heap.size w0 w1 → R (.returned (.bool false)) w1)))) :
    Calls Try.prog 32 #[(.agg #[.int .i64 i0, .int .i64 i1, .int .i64 i2, .int .i64 i3, .int .i64 i4, .int .i64 i5, .slice A6 n7 n8]), (.agg #[.int .i64 i9, .int .i64 i10, .int .i64 i11, .int .i64 i12, .int .i64 i13, .int .i64 i14, .slice A15 n16 n17])] w0 R :=
  Go.Sx.fn_sound0 (P := Try.prog) (S := S) (w0 := w0) (R := R) (ws := []) (an := []) (f := 32) (n := 18) (xs := [.agg [.int .i64 (.var 0), .int .i64 (.var 1), .int .i64 (.var 2), .int .i64 (.var 3), .int .i64 (.var 4), .int .i64 (.var 5), .slice (.var 6) (.var 7) (.var 8)], .agg [.int .i64 (.var 9), .int .i64 (.var 10), .int .i64 (.var 11), .int .i64 (.var 12), .int .i64 (.var 13), .int .i64 (.var 14), .slice (.var 15) (.var 16) (.var 17)]]) (e := [.i i0, .i i1, .i i2, .i i3, .i i4, .i i5, .a A6, .n n7, .n n8, .i i9, .i i10, .i i11, .i i12, .i i13, .i i14, .a A15, .n n16, .n n17]) rfl (by kernel_rfl) (Eq.mp (by kernel_rfl) h)


/-- tracery/frame.Take: what is left of it. -/
theorem take_sx (R : Ending → World → Prop) (S : Nat → Prop) (w0 : World) (A0 : Option Addr) (n1 : Nat) (n2 : Nat) (h :
 ∀ g3 : Nat, w0.heap.size ≤ g3 → (((n1 : Int) < (19 : Int) →
 (∀ w1 : World, Go.Sx.Fr S w0 w1 → Below w0.heap.size w0 w1 → w0.heap.size ≤ g3 → w1.heap[g3]? = some (.cells #[.int .i64 (0 : Int), .int .i64 (0 : Int), .int .i64 (0 : Int), .int .i64 (0 : Int), .int .i64 (0 : Int), .int .i64 (0 : Int), .slice none 0 0] 47 (0, 0)) → R (.returned (.tuple #[.agg #[.int .i64 (0 : Int), .int .i64 (0 : Int), .int .i64 (0 : Int), .int .i64 (0 : Int), .int .i64 (0 : Int), .int .i64 (0 : Int), .slice none 0 0], .int .i64 (2 : Int)])) w1)) ∧
 ((19 : Int) ≤ (n1 : Int) →
 (∀ w1 : World, Go.Sx.Fr S w0 w1 → Below w0.heap.size w0 w1 → w0.heap.size ≤ g3 → w1.heap[g3]? = some (.cells #[.int .i64 (0 : Int), .int .i64 (0 : Int), .int .i64 (0 : Int), .int .i64 (0 : Int), .int .i64 (0 : Int), .int .i64 (0 : Int), .slice none 0 0] 47 (0, 0)) → 
  ((0 : Int) ≤ (0 : Int) ∧ (0 : Int) < (n1 : Int) ∧ ∃ p5 : Nat, ∃ o6 : Nat, A0 = some ⟨p5, o6, none⟩ ∧
  (∀ w2 : World, Go.Sx.Fr S w0 w2 → Below w1.heap.size w1 w2 → ∃ i7 : Int, Go.Sx.CellsAt w2 p5 (o6 + ((0 : Int)).toNat * 1 + 0) [.int .u8 i7] ∧ (p5 < w1.heap.size ∧ p5 ∉ []) ∧ 
  ((0 : Int) ≤ (1 : Int) ∧ (1 : Int) < (n1 : Int) ∧ ∃ p8 : Nat, ∃ o9 : Nat, A0 = some ⟨p8, o9, none⟩ ∧
  (∃ i10 : Int, Go.Sx.CellsAt w2 p8 (o9 + ((1 : Int)).toNat * 1 + 0) [.int .u8 i10] ∧ (p8 < w1.heap.size ∧ p8 ∉ []) ∧ 
  ((0 : Int) ≤ (2 : Int) ∧ (2 : Int) < (n1 : Int) ∧ ∃ p11 : Nat, ∃ o12 : Nat, A0 = some ⟨p11, o12, none⟩ ∧
  (∃ i13 : Int, Go.Sx.CellsAt w2 p11 (o12 + ((2 : Int)).toNat * 1 + 0) [.int .u8 i13] ∧ (p11 < w1.heap.size ∧ p11 ∉ []) ∧ 
  (∃ A14 : Option Addr, ∃ n15 : Nat, ∃ n16 : Nat, (∀ w', Go.Sx.Keep w1.heap.size [] w2 w' → (Instr.sliceAt 45 (.slice A0 n1 n2) (some (.int .i64 (15 : Int))) (some (.int .i64 (IntKind.i64.wrap ((n1 : Int) - (4 : Int))))) none).run Try.prog w' = .ok (.slice A14 n15 n16) w') ∧
  (((
  Calls Try.prog 68 #[(.slice A14 n15 n16)] w2 fun r w3 => ∃ A17 : Option Addr, ∃ n18 : Nat, ∃ n19 : Nat, r = .returned (.slice A17 n18 n19) ∧ (Go.Sx.Fr S w0 w3 ∧ Go.Sx.Mild [g3] w2 w3) ∧ Go.Sx.Keep w1.heap.size [] w2 w3 ∧ 
  ∀ g20 : Nat, w0.heap.size ≤ g20 → ∀ g21 : Nat, w0.heap.size ≤ g21 → (∀ w4 : World, Go.Sx.Fr S w0 w4 → Below w3.heap.size w3 w4 → w3.heap.size ≤ g21 → w4.heap[g21]? = some (.cells #[.pointer (some ⟨g20, 3, none⟩), .pointer (some ⟨g20, 4, none⟩), .pointer (some ⟨g20, 5, none⟩)] 109 (0, 0)) → w3.heap.size ≤ g20 → w4.heap[g20]? = some (.cells #[.int .i64 (IntKind.i64.wrap i7), .int .i64 (IntKind.i64.wrap i10), .int .i64 (IntKind.i64.wrap i13), .int .i64 (0 : Int), .int .i64 (0 : Int), .int .i64 (0 : Int), .slice A17 n18 n19] 47 (0, 0)) → ∃ A22 : Option Addr, ∃ n23 : Nat, ∃ n24 : Nat, (Instr.sliceAt 45 (.slice A0 n1 n2) (some (.int .i64 (3 : Int))) none none).run Try.prog w4 = .ok (.slice A22 n23 n24) w4 ∧
  (∃ A25 : Option Addr, ∃ n26 : Nat, ∃ n27 : Nat, (Instr.sliceAt 45 (.slice A22 n23 n24) none (some (.int .i64 (4 : Int))) none).run Try.prog w4 = .ok (.slice A25 n26 n27) w4 ∧
  (∃ (I0 : Int → Int → Int → Int → World → Prop) (M0 : Int → Int → Int → Int → World → Nat), (I0 (0 : Int) (0 : Int) (0 : Int) (0 : Int) w4) ∧
  ∀ i28 : Int, ∀ i29 : Int, ∀ i30 : Int, ∀ i31 : Int, ∀ w5 : World, Go.Sx.Fr S w0 w5 → I0 i28 i29 i30 i31 w5 → w5.heap[g20]? = some (.cells #[.int .i64 (IntKind.i64.wrap i7), .int .i64 (IntKind.i64.wrap i10), .int .i64 (IntKind.i64.wrap i13), .int .i64 i29, .int .i64 i30, .int .i64 i31, .slice A17 n18 n19] 47 (0, 0)) → 
   ((i28 < (n26 : Int) →
   ((0 : Int) ≤ i28 ∧ i28 < (n26 : Int) ∧ ∃ p32 : Nat, ∃ o33 : Nat, A25 = some ⟨p32, o33, none⟩ ∧
    (∃ i34 : Int, Go.Sx.CellsAt w5 p32 (o33 + (i28).toNat * 1 + 0) [.int .u8 i34] ∧ 
    (∀ w6 : World, Go.Sx.Fr S w0 w6 → Go.Sx.Fr (fun b => b ∈ [g20]) w5 w6 → I0 (IntKind.i64.wrap (i28 + (1 : Int))) (bits .or .i64 (IntKind.i64.wrap (i29 * 2 ^ 8)) (IntKind.i64.wrap i34)) i30 i31 w6 ∧ M0 (IntKind.i64.wrap (i28 + (1 : Int))) (bits .or .i64 (IntKind.i64.wrap (i29 * 2 ^ 8)) (IntKind.i64.wrap i34)) i30 i31 w6 < M0 i28 i29 i30 i31 w5)))) ∧
   ((n26 : Int) ≤ i28 →
   (∃ A32 : Option Addr, ∃ n33 : Nat, ∃ n34 : Nat, (Instr.sliceAt 45 (.slice A0 n1 n2) (some (.int .i64 (7 : Int))) none none).run Try.prog w5 = .ok (.slice A32 n33 n34) w5 ∧
    (∃ A35 : Option Addr, ∃ n36 : Nat, ∃ n37 : Nat, (Instr.sliceAt 45 (.slice A32 n33 n34) none (some (.int .i64 (4 : Int))) none).run Try.prog w5 = .ok (.slice A35 n36 n37) w5 ∧
    (∃ (I1 : Bool → Int → Int → Int → Int → World → Prop) (M1 : Bool → Int → Int → Int → Int → World → Nat), (I1 (decide (i28 < (n26 : Int))) (0 : Int) i29 i30 i31 w5) ∧
    ∀ b38 : Bool, ∀ i39 : Int, ∀ i40 : Int, ∀ i41 : Int, ∀ i42 : Int, ∀ w6 : World, Go.Sx.Fr S w0 w6 → I1 b38 i39 i40 i41 i42 w6 → w6.heap[g20]? = some (.cells #[.int .i64 (IntKind.i64.wrap i7), .int .i64 (IntKind.i64.wrap i10), .int .i64 (IntKind.i64.wrap i13), .int .i64 i40, .int .i64 i41, .int .i64 i42, .slice A17 n18 n19] 47 (0, 0)) → 
     ((i39 < (n36 : Int) →
     ((0 : Int) ≤ i39 ∧ i39 < (n36 : Int) ∧ ∃ p43 : Nat, ∃ o44 : Nat, A35 = some ⟨p43, o44, none⟩ ∧
      (∃ i45 : Int, Go.Sx.CellsAt w6 p43 (o44 + (i39).toNat * 1 + 0) [.int .u8 i45] ∧ 
      (∀ w7 : World, Go.Sx.Fr S w0 w7 → Go.Sx.Fr (fun b => b ∈ [g20]) w6 w7 → I1 (decide (i39 < (n36 : Int))) (IntKind.i64.wrap (i39 + (1 : Int))) i40 (bits .or .i64 (IntKind.i64.wrap (i41 * 2 ^ 8)) (IntKind.i64.wrap i45)) i42 w7 ∧ M1 (decide (i39 < (n36 : Int))) (IntKind.i64.wrap (i39 + (1 : Int))) i40 (bits .or .i64 (IntKind.i64.wrap (i41 * 2 ^ 8)) (IntKind.i64.wrap i45)) i42 w7 < M1 b38 i39 i40 i41 i42 w6)))) ∧
     ((n36 : Int) ≤ i39 →
     (∃ A43 : Option Addr, ∃ n44 : Nat, ∃ n45 : Nat, (Instr.sliceAt 45 (.slice A0 n1 n2) (some (.int .i64 (11 : Int))) none none).run Try.prog w6 = .ok (.slice A43 n44 n45) w6 ∧
      (∃ A46 : Option Addr, ∃ n47 : Nat, ∃ n48 : Nat, (Instr.sliceAt 45 (.slice A43 n44 n45) none (some (.int .i64 (4 : Int))) none).run Try.prog w6 = .ok (.slice A46 n47 n48) w6 ∧
      (∃ (I2 : Bool → Int → Int → Int → Int → World → Prop) (M2 : Bool → Int → Int → Int → Int → World → Nat), (I2 (decide (i39 < (n36 : Int))) (0 : Int) i40 i41 i42 w6) ∧
      ∀ b49 : Bool, ∀ i50 : Int, ∀ i51 : Int, ∀ i52 : Int, ∀ i53 : Int, ∀ w7 : World, Go.Sx.Fr S w0 w7 → I2 b49 i50 i51 i52 i53 w7 → w7.heap[g20]? = some (.cells #[.int .i64 (IntKind.i64.wrap i7), .int .i64 (IntKind.i64.wrap i10), .int .i64 (IntKind.i64.wrap i13), .int .i64 i51, .int .i64 i52, .int .i64 i53, .slice A17 n18 n19] 47 (0, 0)) → 
       ((i50 < (n47 : Int) →
       ((0 : Int) ≤ i50 ∧ i50 < (n47 : Int) ∧ ∃ p54 : Nat, ∃ o55 : Nat, A46 = some ⟨p54, o55, none⟩ ∧
        (∃ i56 : Int, Go.Sx.CellsAt w7 p54 (o55 + (i50).toNat * 1 + 0) [.int .u8 i56] ∧ 
        (∀ w8 : World, Go.Sx.Fr S w0 w8 → Go.Sx.Fr (fun b => b ∈ [g20]) w7 w8 → I2 (decide (i50 < (n47 : Int))) (IntKind.i64.wrap (i50 + (1 : Int))) i51 i52 (bits .or .i64 (IntKind.i64.wrap (i53 * 2 ^ 8)) (IntKind.i64.wrap i56)) w8 ∧ M2 (decide (i50 < (n47 : Int))) (IntKind.i64.wrap (i50 + (1 : Int))) i51 i52 (bits .or .i64 (IntKind.i64.wrap (i53 * 2 ^ 8)) (IntKind.i64.wrap i56)) w8 < M2 b49 i50 i51 i52 i53 w7)))) ∧
       ((n47 : Int) ≤ i50 →
       (
        Calls Try.prog 43 #[(.agg #[.int .i64 (IntKind.i64.wrap i7), .int .i64 (IntKind.i64.wrap i10), .int .i64 (IntKind.i64.wrap i13), .int .i64 i51, .int .i64 i52, .int .i64 i53, .slice A17 n18 n19])] w7 fun r w8 => ∃ A54 : Option Addr, ∃ n55 : Nat, ∃ n56 : Nat, ∃ i57 : Int, r = .returned (.tuple #[.slice A54 n55 n56, .int .i64 i57]) ∧ (Go.Sx.Fr S w0 w8 ∧ Go.Sx.Mild [g21, g20, g3] w7 w8) ∧ 
        ((¬ i57 = (0 : Int) →
        (∀ w9 : World, Go.Sx.Fr S w0 w9 → Go.Sx.Fr (fun b => b ∈ [g3]) w8 w9 → R (.returned (.tuple #[.agg #[.int .i64 (0 : Int), .int .i64 (0 : Int), .int .i64 (0 : Int), .int .i64 (0 : Int), .int .i64 (0 : Int), .int .i64 (0 : Int), .slice none 0 0], .int .i64 (2 : Int)])) w9)) ∧
        (i57 = (0 : Int) →
        (
         Calls Try.prog 69 #[(.slice A54 n55 n56), (.slice A0 n1 n2)] w8 fun r w9 => ∃ b58 : Bool, r = .returned (.bool b58) ∧ (Go.Sx.Fr S w0 w9 ∧ Go.Sx.Mild [g21, g20, g3] w8 w9) ∧ 
         ((b58 = false →
         (∀ w10 : World, Go.Sx.Fr S w0 w10 → Go.Sx.Fr (fun b => b ∈ [g3]) w9 w10 → R (.returned (.tuple #[.agg #[.int .i64 (0 : Int), .int .i64 (0 : Int), .int .i64 (0 : Int), .int .i64 (0 : Int), .int .i64 (0 : Int), .int .i64 (0 : Int), .slice none 0 0], .int .i64 (2 : Int)])) w10)) ∧
         (b58 = true →
         (∀ w10 : World, Go.Sx.Fr S w0 w10 → Go.Sx.Fr (fun b => b ∈ [g3]) w9 w10 → R (.returned (.tuple #[.agg #[.int .i64 (IntKind.i64.wrap i7), .int .i64 (IntKind.i64.wrap i10), .int .i64 (IntKind.i64.wrap i13), .int .i64 i51, .int .i64 i52, .int .i64 i53, .slice A17 n18 n19], .int .i64 (0 : Int)])) w10)))))))))))))))))))))))) ∧
  (∀ g17 : Nat, w0.heap.size ≤ g17 → (∀ w3 : World, Go.Sx.Fr S w0 w3 → Below w2.heap.size w2 w3 → w2.heap.size ≤ g17 → w3.heap[g17]? = some (.cells #[.int .i64 (0 : Int), .int .i64 (0 : Int), .int .i64 (0 : Int), .int .i64 (0 : Int), .int .i64 (0 : Int), .int .i64 (0 : Int), .slice none 0 0] 47 (0, 0)) → 
  Calls Try.prog 68 #[(.slice A14 n15 n16)] w3 fun r w4 => ∃ A18 : Option Addr, ∃ n19 : Nat, ∃ n20 : Nat, r = .returned (.slice A18 n19 n20) ∧ (Go.Sx.Fr S w0 w4 ∧ Go.Sx.Mild [g17, g3] w3 w4) ∧ Go.Sx.Keep w1.heap.size [] w3 w4 ∧ 
  ∀ g21 : Nat, w0.heap.size ≤ g21 → (∀ w5 : World, Go.Sx.Fr S w0 w5 → Go.Sx.Fr (fun b => b ∈ [g17]) w4 w5 → w4.heap.size ≤ g21 → w5.heap[g21]? = some (.cells #[.pointer (some ⟨g17, 3, none⟩), .pointer (some ⟨g17, 4, none⟩), .pointer (some ⟨g17, 5, none⟩)] 109 (0, 0)) → ∃ A22 : Option Addr, ∃ n23 : Nat, ∃ n24 : Nat, (Instr.sliceAt 45 (.slice A0 n1 n2) (some (.int .i64 (3 : Int))) none none).run Try.prog w5 = .ok (.slice A22 n23 n24) w5 ∧
  (∃ A25 : Option Addr, ∃ n26 : Nat, ∃ n27 : Nat, (Instr.sliceAt 45 (.slice A22 n23 n24) none (some (.int .i64 (4 : Int))) none).run Try.prog w5 = .ok (.slice A25 n26 n27) w5 ∧
  (∃ (I0 : Int → Int → Int → Int → World → Prop) (M0 : Int → Int → Int → Int → World → Nat), (I0 (0 : Int) (0 : Int) (0 : Int) (0 : Int) w5) ∧
  ∀ i28 : Int, ∀ i29 : Int, ∀ i30 : Int, ∀ i31 : Int, ∀ w6 : World, Go.Sx.Fr S w0 w6 → I0 i28 i29 i30 i31 w6 → w6.heap[g17]? = some (.cells #[.int .i64 (IntKind.i64.wrap i7), .int .i64 (IntKind.i64.wrap i10), .int .i64 (IntKind.i64.wrap i13), .int .i64 i29, .int .i64 i30, .int .i64 i31, .slice A18 n19 n20] 47 (0, 0)) → 
   ((i28 < (n26 : Int) →
   ((0 : Int) ≤ i28 ∧ i28 < (n26 : Int) ∧ ∃ p32 : Nat, ∃ o33 : Nat, A25 = some ⟨p32, o33, none⟩ ∧
    (∃ i34 : Int, Go.Sx.CellsAt w6 p32 (o33 + (i28).toNat * 1 + 0) [.int .u8 i34] ∧ 
    (∀ w7 : World, Go.Sx.Fr S w0 w7 → Go.Sx.Fr (fun b => b ∈ [g17]) w6 w7 → I0 (IntKind.i64.wrap (i28 + (1 : Int))) (bits .or .i64 (IntKind.i64.wrap (i29 * 2 ^ 8)) (IntKind.i64.wrap i34)) i30 i31 w7 ∧ M0 (IntKind.i64.wrap (i28 + (1 : Int))) (bits .or .i64 (IntKind.i64.wrap (i29 * 2 ^ 8)) (IntKind.i64.wrap i34)) i30 i31 w7 < M0 i28 i29 i30 i31 w6)))) ∧
   ((n26 : Int) ≤ i28 →
   (∃ A32 : Option Addr, ∃ n33 : Nat, ∃ n34 : Nat, (Instr.sliceAt 45 (.slice A0 n1 n2) (some (.int .i64 (7 : Int))) none none).run Try.prog w6 = .ok (.slice A32 n33 n34) w6 ∧
    (∃ A35 : Option Addr, ∃ n36 : Nat, ∃ n37 : Nat, (Instr.sliceAt 45 (.slice A32 n33 n34) none (some (.int .i64 (4 : Int))) none).run Try.prog w6 = .ok (.slice A35 n36 n37) w6 ∧
    (∃ (I1 : Bool → Int → Int → Int → Int → World → Prop) (M1 : Bool → Int → Int → Int → Int → World → Nat), (I1 (decide (i28 < (n26 : Int))) (0 : Int) i29 i30 i31 w6) ∧
    ∀ b38 : Bool, ∀ i39 : Int, ∀ i40 : Int, ∀ i41 : Int, ∀ i42 : Int, ∀ w7 : World, Go.Sx.Fr S w0 w7 → I1 b38 i39 i40 i41 i42 w7 → w7.heap[g17]? = some (.cells #[.int .i64 (IntKind.i64.wrap i7), .int .i64 (IntKind.i64.wrap i10), .int .i64 (IntKind.i64.wrap i13), .int .i64 i40, .int .i64 i41, .int .i64 i42, .slice A18 n19 n20] 47 (0, 0)) → 
     ((i39 < (n36 : Int) →
     ((0 : Int) ≤ i39 ∧ i39 < (n36 : Int) ∧ ∃ p43 : Nat, ∃ o44 : Nat, A35 = some ⟨p43, o44, none⟩ ∧
      (∃ i45 : Int, Go.Sx.CellsAt w7 p43 (o44 + (i39).toNat * 1 + 0) [.int .u8 i45] ∧ 
      (∀ w8 : World, Go.Sx.Fr S w0 w8 → Go.Sx.Fr (fun b => b ∈ [g17]) w7 w8 → I1 (decide (i39 < (n36 : Int))) (IntKind.i64.wrap (i39 + (1 : Int))) i40 (bits .or .i64 (IntKind.i64.wrap (i41 * 2 ^ 8)) (IntKind.i64.wrap i45)) i42 w8 ∧ M1 (decide (i39 < (n36 : Int))) (IntKind.i64.wrap (i39 + (1 : Int))) i40 (bits .or .i64 (IntKind.i64.wrap (i41 * 2 ^ 8)) (IntKind.i64.wrap i45)) i42 w8 < M1 b38 i39 i40 i41 i42 w7)))) ∧
     ((n36 : Int) ≤ i39 →
     (∃ A43 : Option Addr, ∃ n44 : Nat, ∃ n45 : Nat, (Instr.sliceAt 45 (.slice A0 n1 n2) (some (.int .i64 (11 : Int))) none none).run Try.prog w7 = .ok (.slice A43 n44 n45) w7 ∧
      (∃ A46 : Option Addr, ∃ n47 : Nat, ∃ n48 : Nat, (Instr.sliceAt 45 (.slice A43 n44 n45) none (some (.int .i64 (4 : Int))) none).run Try.prog w7 = .ok (.slice A46 n47 n48) w7 ∧
      (∃ (I2 : Bool → Int → Int → Int → Int → World → Prop) (M2 : Bool → Int → Int → Int → Int → World → Nat), (I2 (decide (i39 < (n36 : Int))) (0 : Int) i40 i41 i42 w7) ∧
      ∀ b49 : Bool, ∀ i50 : Int, ∀ i51 : Int, ∀ i52 : Int, ∀ i53 : Int, ∀ w8 : World, Go.Sx.Fr S w0 w8 → I2 b49 i50 i51 i52 i53 w8 → w8.heap[g17]? = some (.cells #[.int .i64 (IntKind.i64.wrap i7), .int .i64 (IntKind.i64.wrap i10), .int .i64 (IntKind.i64.wrap i13), .int .i64 i51, .int .i64 i52, .int .i64 i53, .slice A18 n19 n20] 47 (0, 0)) → 
       ((i50 < (n47 : Int) →
       ((0 : Int) ≤ i50 ∧ i50 < (n47 : Int) ∧ ∃ p54 : Nat, ∃ o55 : Nat, A46 = some ⟨p54, o55, none⟩ ∧
        (∃ i56 : Int, Go.Sx.CellsAt w8 p54 (o55 + (i50).toNat * 1 + 0) [.int .u8 i56] ∧ 
        (∀ w9 : World, Go.Sx.Fr S w0 w9 → Go.Sx.Fr (fun b => b ∈ [g17]) w8 w9 → I2 (decide (i50 < (n47 : Int))) (IntKind.i64.wrap (i50 + (1 : Int))) i51 i52 (bits .or .i64 (IntKind.i64.wrap (i53 * 2 ^ 8)) (IntKind.i64.wrap i56)) w9 ∧ M2 (decide (i50 < (n47 : Int))) (IntKind.i64.wrap (i50 + (1 : Int))) i51 i52 (bits .or .i64 (IntKind.i64.wrap (i53 * 2 ^ 8)) (IntKind.i64.wrap i56)) w9 < M2 b49 i50 i51 i52 i53 w8)))) ∧
       ((n47 : Int) ≤ i50 →
       (
        Calls Try.prog 43 #[(.agg #[.int .i64 (IntKind.i64.wrap i7), .int .i64 (IntKind.i64.wrap i10), .int .i64 (IntKind.i64.wrap i13), .int .i64 i51, .int .i64 i52, .int .i64 i53, .slice A18 n19 n20])] w8 fun r w9 => ∃ A54 : Option Addr, ∃ n55 : Nat, ∃ n56 : Nat, ∃ i57 : Int, r = .returned (.tuple #[.slice A54 n55 n56, .int .i64 i57]) ∧ (Go.Sx.Fr S w0 w9 ∧ Go.Sx.Mild [g21, g17, g3] w8 w9) ∧ 
        ((¬ i57 = (0 : Int) →
        (∀ w10 : World, Go.Sx.Fr S w0 w10 → Go.Sx.Fr (fun b => b ∈ [g3]) w9 w10 → R (.returned (.tuple #[.agg #[.int .i64 (0 : Int), .int .i64 (0 : Int), .int .i64 (0 : Int), .int .i64 (0 : Int), .int .i64 (0 : Int), .int .i64 (0 : Int), .slice none 0 0], .int .i64 (2 : Int)])) w10)) ∧
        (i57 = (0 : Int) →
        (
         Calls Try.prog 69 #[(.slice A54 n55 n56), (.slice A0 n1 n2)] w9 fun r w10 => ∃ b58 : Bool, r = .returned (.bool b58) ∧ (Go.Sx.Fr S w0 w10 ∧ Go.Sx.Mild [g21, g17, g3] w9 w10) ∧ 
         ((b58 = false →
         (∀ w11 : World, Go.Sx.Fr S w0 w11 → Go.Sx.Fr (fun b => b ∈ [g3]) w10 w11 → R (.returned (.tuple #[.agg #[.int .i64 (0 : Int), .int .i64 (0 : Int), .int .i64 (0 : Int), .int .i64 (0 : Int), .int .i64 (0 : Int), .int .i64 (0 : Int), .slice none 0 0], .int .i64 (2 : Int)])) w11)) ∧
         (b58 = true →
         (∀ w11 : World, Go.Sx.Fr S w0 w11 → Go.Sx.Fr (fun b => b ∈ [g3]) w10 w11 → R (.returned (.tuple #[.agg #[.int .i64 (IntKind.i64.wrap i7), .int .i64 (IntKind.i64.wrap i10), .int .i64 (IntKind.i64.wrap i13), .int .i64 i51, .int .i64 i52, .int .i64 i53, .slice A18 n19 n20], .int .i64 (0 : Int)])) w11)))))))))))))))))))))))))))))))))))) :
    Calls Try.prog 49 #[(.slice A0 n1 n2)] w0 R :=
  Go.Sx.fn_sound0 (P := Try.prog) (S := S) (w0 := w0) (R := R) (ws := []) (an := [⟨5, [], [], 5⟩, ⟨8, [], [(6, 3), (6, 4), (6, 5)], 0⟩, ⟨999999, [], [], 0⟩]) (f := 49) (n := 3) (xs := [.one (.slice (.var 0) (.var 1) (.var 2))]) (e := [.a A0, .n n1, .n n2]) rfl (by kernel_rfl) (Eq.mp (by kernel_rfl) h)


/-- tracery/traceryref15.Take: what is left of it. -/
theorem refTake_sx (R : Ending → World → Prop) (S : Nat → Prop) (w0 : World) (A0 : Option Addr) (n1 : Nat) (n2 : Nat) (h :
 ∀ g3 : Nat, w0.heap.size ≤ g3 → (((n1 : Int) < (19 : Int) →
 (∀ w1 : World, Go.Sx.Fr S w0 w1 → Below w0.heap.size w0 w1 → w0.heap.size ≤ g3 → w1.heap[g3]? = some (.cells #[.int .i64 (0 : Int), .int .i64 (0 : Int), .int .i64 (0 : Int), .int .i64 (0 : Int), .int .i64 (0 : Int), .int .i64 (0 : Int), .slice none 0 0] 47 (0, 0)) → R (.returned (.tuple #[.agg #[.int .i64 (0 : Int), .int .i64 (0 : Int), .int .i64 (0 : Int), .int .i64 (0 : Int), .int .i64 (0 : Int), .int .i64 (0 : Int), .slice none 0 0], .int .i64 (2 : Int)])) w1)) ∧
 ((19 : Int) ≤ (n1 : Int) →
 (∀ w1 : World, Go.Sx.Fr S w0 w1 → Below w0.heap.size w0 w1 → w0.heap.size ≤ g3 → w1.heap[g3]? = some (.cells #[.int .i64 (0 : Int), .int .i64 (0 : Int), .int .i64 (0 : Int), .int .i64 (0 : Int), .int .i64 (0 : Int), .int .i64 (0 : Int), .slice none 0 0] 47 (0, 0)) → 
  ((0 : Int) ≤ (0 : Int) ∧ (0 : Int) < (n1 : Int) ∧ ∃ p5 : Nat, ∃ o6 : Nat, A0 = some ⟨p5, o6, none⟩ ∧
  (∀ w2 : World, Go.Sx.Fr S w0 w2 → Below w1.heap.size w1 w2 → ∃ i7 : Int, Go.Sx.CellsAt w2 p5 (o6 + ((0 : Int)).toNat * 1 + 0) [.int .u8 i7] ∧ (p5 < w1.heap.size ∧ p5 ∉ []) ∧ 
  ((0 : Int) ≤ (1 : Int) ∧ (1 : Int) < (n1 : Int) ∧ ∃ p8 : Nat, ∃ o9 : Nat, A0 = some ⟨p8, o9, none⟩ ∧
  (∃ i10 : Int, Go.Sx.CellsAt w2 p8 (o9 + ((1 : Int)).toNat * 1 + 0) [.int .u8 i10] ∧ (p8 < w1.heap.size ∧ p8 ∉ []) ∧ 
  ((0 : Int) ≤ (2 : Int) ∧ (2 : Int) < (n1 : Int) ∧ ∃ p11 : Nat, ∃ o12 : Nat, A0 = some ⟨p11, o12, none⟩ ∧
  (∃ i13 : Int, Go.Sx.CellsAt w2 p11 (o12 + ((2 : Int)).toNat * 1 + 0) [.int .u8 i13] ∧ (p11 < w1.heap.size ∧ p11 ∉ []) ∧ 
  (∃ A14 : Option Addr, ∃ n15 : Nat, ∃ n16 : Nat, (∀ w', Go.Sx.Keep w1.heap.size [] w2 w' → (Instr.sliceAt 45 (.slice A0 n1 n2) (some (.int .i64 (15 : Int))) (some (.int .i64 (IntKind.i64.wrap ((n1 : Int) - (4 : Int))))) none).run Try.prog w' = .ok (.slice A14 n15 n16) w') ∧
  (((
  Calls Try.prog 79 #[(.slice A0 n1 n2), (.int .i64 (3 : Int))] w2 fun r w3 => ∃ i17 : Int, r = .returned (.int .i64 i17) ∧ (Go.Sx.Fr S w0 w3 ∧ Go.Sx.Mild [g3] w2 w3) ∧ Go.Sx.Keep w1.heap.size [] w2 w3 ∧ 
  (((
  Calls Try.prog 79 #[(.slice A0 n1 n2), (.int .i64 (7 : Int))] w3 fun r w4 => ∃ i18 : Int, r = .returned (.int .i64 i18) ∧ (Go.Sx.Fr S w0 w4 ∧ Go.Sx.Mild [g3] w3 w4) ∧ Go.Sx.Keep w1.heap.size [] w3 w4 ∧ 
  (((
  Calls Try.prog 79 #[(.slice A0 n1 n2), (.int .i64 (11 : Int))] w4 fun r w5 => ∃ i19 : Int, r = .returned (.int .i64 i19) ∧ (Go.Sx.Fr S w0 w5 ∧ Go.Sx.Mild [g3] w4 w5) ∧ Go.Sx.Keep w1.heap.size [] w4 w5 ∧ 
  ((∀ g20 : Nat, w0.heap.size ≤ g20 → (((∀ w6 : World, Go.Sx.Fr S w0 w6 → Below w5.heap.size w5 w6 → w5.heap.size ≤ g20 → w6.heap[g20]? = some (.cells #[] 5 (0, 0)) → 
  ∃ w7 : World, ∃ A21 : Option Addr, ∃ n22 : Nat, ∃ n23 : Nat, (Builtin.append_ #[45, 45] 45 #[(.slice (some ⟨g20, 0, none⟩) 0 0), (.slice A14 n15 n16)]).run Try.prog w6 = .ok (.slice A21 n22 n23) w7 ∧ (Go.Sx.Fr S w0 w7 ∧ Go.Sx.Mild [g20, g3] w6 w7) ∧ Go.Sx.Keep w1.heap.size [] w6 w7 ∧ 
  ∀ g24 : Nat, w0.heap.size ≤ g24 → (∀ w8 : World, Go.Sx.Fr S w0 w8 → Below w7.heap.size w7 w8 → w7.heap.size ≤ g24 → w8.heap[g24]? = some (.cells #[.int .i64 (IntKind.i64.wrap i7), .int .i64 (IntKind.i64.wrap i10), .int .i64 (IntKind.i64.wrap i13), .int .i64 i17, .int .i64 i18, .int .i64 i19, .slice A21 n22 n23] 47 (0, 0)) → 
  Calls Try.prog 72 #[(.agg #[.int .i64 (IntKind.i64.wrap i7), .int .i64 (IntKind.i64.wrap i10), .int .i64 (IntKind.i64.wrap i13), .int .i64 i17, .int .i64 i18, .int .i64 i19, .slice A21 n22 n23])] w8 fun r w9 => ∃ A25 : Option Addr, ∃ n26 : Nat, ∃ n27 : Nat, ∃ i28 : Int, r = .returned (.tuple #[.slice A25 n26 n27, .int .i64 i28]) ∧ (Go.Sx.Fr S w0 w9 ∧ Go.Sx.Mild [g24, g20, g3] w8 w9) ∧ 
  ((¬ i28 = (0 : Int) →
  (∀ w10 : World, Go.Sx.Fr S w0 w10 → Go.Sx.Fr (fun b => b ∈ [g3]) w9 w10 → R (.returned (.tuple #[.agg #[.int .i64 (0 : Int), .int .i64 (0 : Int), .int .i64 (0 : Int), .int .i64 (0 : Int), .int .i64 (0 : Int), .int .i64 (0 : Int), .slice none 0 0], .int .i64 (2 : Int)])) w10)) ∧
  (i28 = (0 : Int) →
  (∃ s29 : ByteArray, (convert 45 9 (.slice A25 n26 n27)).run Try.prog w9 = .ok (.string s29) w9 ∧
   (∃ s30 : ByteArray, (convert 45 9 (.slice A0 n1 n2)).run Try.prog w9 = .ok (.string s30) w9 ∧
   ((((s29).toList == (s30).toList) = false →
   (∀ w10 : World, Go.Sx.Fr S w0 w10 → Go.Sx.Fr (fun b => b ∈ [g3]) w9 w10 → R (.returned (.tuple #[.agg #[.int .i64 (0 : Int), .int .i64 (0 : Int), .int .i64 (0 : Int), .int .i64 (0 : Int), .int .i64 (0 : Int), .int .i64 (0 : Int), .slice none 0 0], .int .i64 (2 : Int)])) w10)) ∧
   (((s29).toList == (s30).toList) = true →
   (∀ w10 : World, Go.Sx.Fr S w0 w10 → Go.Sx.Fr (fun b => b ∈ [g3]) w9 w10 → R (.returned (.tuple #[.agg #[.int .i64 (IntKind.i64.wrap i7), .int .i64 (IntKind.i64.wrap i10), .int .i64 (IntKind.i64.wrap i13), .int .i64 i17, .int .i64 i18, .int .i64 i19, .slice A21 n22 n23], .int .i64 (0 : Int)])) w10)))))))))) ∧
  (∀ g21 : Nat, w0.heap.size ≤ g21 → (∀ w6 : World, Go.Sx.Fr S w0 w6 → Below w5.heap.size w5 w6 → w5.heap.size ≤ g21 → w6.heap[g21]? = some (.cells #[.int .i64 (0 : Int), .int .i64 (0 : Int), .int .i64 (0 : Int), .int .i64 (0 : Int), .int .i64 (0 : Int), .int .i64 (0 : Int), .slice none 0 0] 47 (0, 0)) → w5.heap.size ≤ g20 → w6.heap[g20]? = some (.cells #[] 5 (0, 0)) → 
  ∃ w7 : World, ∃ A22 : Option Addr, ∃ n23 : Nat, ∃ n24 : Nat, (Builtin.append_ #[45, 45] 45 #[(.slice (some ⟨g20, 0, none⟩) 0 0), (.slice A14 n15 n16)]).run Try.prog w6 = .ok (.slice A22 n23 n24) w7 ∧ (Go.Sx.Fr S w0 w7 ∧ Go.Sx.Mild [g21, g20, g3] w6 w7) ∧ Go.Sx.Keep w1.heap.size [] w6 w7 ∧ 
  (∀ w8 : World, Go.Sx.Fr S w0 w8 → Go.Sx.Fr (fun b => b ∈ [g21]) w7 w8 → 
  Calls Try.prog 72 #[(.agg #[.int .i64 (IntKind.i64.wrap i7), .int .i64 (IntKind.i64.wrap i10), .int .i64 (IntKind.i64.wrap i13), .int .i64 i17, .int .i64 i18, .int .i64 i19, .slice A22 n23 n24])] w8 fun r w9 => ∃ A25 : Option Addr, ∃ n26 : Nat, ∃ n27 : Nat, ∃ i28 : Int, r = .returned (.tuple #[.slice A25 n26 n27, .int .i64 i28]) ∧ (Go.Sx.Fr S w0 w9 ∧ Go.Sx.Mild [g21, g20, g3] w8 w9) ∧ 
  ((¬ i28 = (0 : Int) →
  (∀ w10 : World, Go.Sx.Fr S w0 w10 → Go.Sx.Fr (fun b => b ∈ [g3]) w9 w10 → R (.returned (.tuple #[.agg #[.int .i64 (0 : Int), .int .i64 (0 : Int), .int .i64 (0 : Int), .int .i64 (0 : Int), .int .i64 (0 : Int), .int .i64 (0 : Int), .slice none 0 0], .int .i64 (2 : Int)])) w10)) ∧
  (i28 = (0 : Int) →
  (∃ s29 : ByteArray, (convert 45 9 (.slice A25 n26 n27)).run Try.prog w9 = .ok (.string s29) w9 ∧
   (∃ s30 : ByteArray, (convert 45 9 (.slice A0 n1 n2)).run Try.prog w9 = .ok (.string s30) w9 ∧
   ((((s29).toList == (s30).toList) = false →
   (∀ w10 : World, Go.Sx.Fr S w0 w10 → Go.Sx.Fr (fun b => b ∈ [g3]) w9 w10 → R (.returned (.tuple #[.agg #[.int .i64 (0 : Int), .int .i64 (0 : Int), .int .i64 (0 : Int), .int .i64 (0 : Int), .int .i64 (0 : Int), .int .i64 (0 : Int), .slice none 0 0], .int .i64 (2 : Int)])) w10)) ∧
   (((s29).toList == (s30).toList) = true →
   (∀ w10 : World, Go.Sx.Fr S w0 w10 → Go.Sx.Fr (fun b => b ∈ [g3]) w9 w10 → R (.returned (.tuple #[.agg #[.int .i64 (IntKind.i64.wrap i7), .int .i64 (IntKind.i64.wrap i10), .int .i64 (IntKind.i64.wrap i13), .int .i64 i17, .int .i64 i18, .int .i64 i19, .slice A22 n23 n24], .int .i64 (0 : Int)])) w10)))))))))))) ∧
  (∀ g20 : Nat, w0.heap.size ≤ g20 → ∀ g21 : Nat, w0.heap.size ≤ g21 → (∀ w6 : World, Go.Sx.Fr S w0 w6 → Below w5.heap.size w5 w6 → w5.heap.size ≤ g21 → w6.heap[g21]? = some (.cells #[] 5 (0, 0)) → w5.heap.size ≤ g20 → w6.heap[g20]? = some (.cells #[.int .i64 (0 : Int), .int .i64 (0 : Int), .int .i64 (0 : Int), .int .i64 (0 : Int), .int .i64 (0 : Int), .int .i64 (0 : Int), .slice none 0 0] 47 (0, 0)) → 
  ∃ w7 : World, ∃ A22 : Option Addr, ∃ n23 : Nat, ∃ n24 : Nat, (Builtin.append_ #[45, 45] 45 #[(.slice (some ⟨g21, 0, none⟩) 0 0), (.slice A14 n15 n16)]).run Try.prog w6 = .ok (.slice A22 n23 n24) w7 ∧ (Go.Sx.Fr S w0 w7 ∧ Go.Sx.Mild [g21, g20, g3] w6 w7) ∧ Go.Sx.Keep w1.heap.size [] w6 w7 ∧ 
  (∀ w8 : World, Go.Sx.Fr S w0 w8 → Go.Sx.Fr (fun b => b ∈ [g20]) w7 w8 → 
  Calls Try.prog 72 #[(.agg #[.int .i64 (IntKind.i64.wrap i7), .int .i64 (IntKind.i64.wrap i10), .int .i64 (IntKind.i64.wrap i13), .int .i64 i17, .int .i64 i18, .int .i64 i19, .slice A22 n23 n24])] w8 fun r w9 => ∃ A25 : Option Addr, ∃ n26 : Nat, ∃ n27 : Nat, ∃ i28 : Int, r = .returned (.tuple #[.slice A25 n26 n27, .int .i64 i28]) ∧ (Go.Sx.Fr S w0 w9 ∧ Go.Sx.Mild [g21, g20, g3] w8 w9) ∧ 
  ((¬ i28 = (0 : Int) →
  (∀ w10 : World, Go.Sx.Fr S w0 w10 → Go.Sx.Fr (fun b => b ∈ [g3]) w9 w10 → R (.returned (.tuple #[.agg #[.int .i64 (0 : Int), .int .i64 (0 : Int), .int .i64 (0 : Int), .int .i64 (0 : Int), .int .i64 (0 : Int), .int .i64 (0 : Int), .slice none 0 0], .int .i64 (2 : Int)])) w10)) ∧
  (i28 = (0 : Int) →
  (∃ s29 : ByteArray, (convert 45 9 (.slice A25 n26 n27)).run Try.prog w9 = .ok (.string s29) w9 ∧
   (∃ s30 : ByteArray, (convert 45 9 (.slice A0 n1 n2)).run Try.prog w9 = .ok (.string s30) w9 ∧
   ((((s29).toList == (s30).toList) = false →
   (∀ w10 : World, Go.Sx.Fr S w0 w10 → Go.Sx.Fr (fun b => b ∈ [g3]) w9 w10 → R (.returned (.tuple #[.agg #[.int .i64 (0 : Int), .int .i64 (0 : Int), .int .i64 (0 : Int), .int .i64 (0 : Int), .int .i64 (0 : Int), .int .i64 (0 : Int), .slice none 0 0], .int .i64 (2 : Int)])) w10)) ∧
   (((s29).toList == (s30).toList) = true →
   (∀ w10 : World, Go.Sx.Fr S w0 w10 → Go.Sx.Fr (fun b => b ∈ [g3]) w9 w10 → R (.returned (.tuple #[.agg #[.int .i64 (IntKind.i64.wrap i7), .int .i64 (IntKind.i64.wrap i10), .int .i64 (IntKind.i64.wrap i13), .int .i64 i17, .int .i64 i18, .int .i64 i19, .slice A22 n23 n24], .int .i64 (0 : Int)])) w10))))))))))))) ∧
  (((∀ g19 : Nat, w0.heap.size ≤ g19 → (((∀ w5 : World, Go.Sx.Fr S w0 w5 → Below w4.heap.size w4 w5 → w4.heap.size ≤ g19 → w5.heap[g19]? = some (.cells #[] 5 (0, 0)) → 
  Calls Try.prog 79 #[(.slice A0 n1 n2), (.int .i64 (11 : Int))] w5 fun r w6 => ∃ i20 : Int, r = .returned (.int .i64 i20) ∧ (Go.Sx.Fr S w0 w6 ∧ Go.Sx.Mild [g19, g3] w5 w6) ∧ Go.Sx.Keep w1.heap.size [] w5 w6 ∧ 
  (((w6.heap[g19]? = some (.cells #[] 5 (0, 0)) → 
  ∃ w7 : World, ∃ A21 : Option Addr, ∃ n22 : Nat, ∃ n23 : Nat, (Builtin.append_ #[45, 45] 45 #[(.slice (some ⟨g19, 0, none⟩) 0 0), (.slice A14 n15 n16)]).run Try.prog w6 = .ok (.slice A21 n22 n23) w7 ∧ (Go.Sx.Fr S w0 w7 ∧ Go.Sx.Mild [g19, g3] w6 w7) ∧ Go.Sx.Keep w1.heap.size [] w6 w7 ∧ 
  ∀ g24 : Nat, w0.heap.size ≤ g24 → (∀ w8 : World, Go.Sx.Fr S w0 w8 → Below w7.heap.size w7 w8 → w7.heap.size ≤ g24 → w8.heap[g24]? = some (.cells #[.int .i64 (IntKind.i64.wrap i7), .int .i64 (IntKind.i64.wrap i10), .int .i64 (IntKind.i64.wrap i13), .int .i64 i17, .int .i64 i18, .int .i64 i20, .slice A21 n22 n23] 47 (0, 0)) → 
  Calls Try.prog 72 #[(.agg #[.int .i64 (IntKind.i64.wrap i7), .int .i64 (IntKind.i64.wrap i10), .int .i64 (IntKind.i64.wrap i13), .int .i64 i17, .int .i64 i18, .int .i64 i20, .slice A21 n22 n23])] w8 fun r w9 => ∃ A25 : Option Addr, ∃ n26 : Nat, ∃ n27 : Nat, ∃ i28 : Int, r = .returned (.tuple #[.slice A25 n26 n27, .int .i64 i28]) ∧ (Go.Sx.Fr S w0 w9 ∧ Go.Sx.Mild [g24, g19, g3] w8 w9) ∧ 
  ((¬ i28 = (0 : Int) →
  (∀ w10 : World, Go.Sx.Fr S w0 w10 → Go.Sx.Fr (fun b => b ∈ [g3]) w9 w10 → R (.returned (.tuple #[.agg #[.int .i64 (0 : Int), .int .i64 (0 : Int), .int .i64 (0 : Int), .int .i64 (0 : Int), .int .i64 (0 : Int), .int .i64 (0 : Int), .slice none 0 0], .int .i64 (2 : Int)])) w10)) ∧
  (i28 = (0 : Int) →
  (∃ s29 : ByteArray, (convert 45 9 (.slice A25 n26 n27)).run Try.prog w9 = .ok (.string s29) w9 ∧
   (∃ s30 : ByteArray, (convert 45 9 (.slice A0 n1 n2)).run Try.prog w9 = .ok (.string s30) w9 ∧
   ((((s29).toList == (s30).toList) = false →
   (∀ w10 : World, Go.Sx.Fr S w0 w10 → Go.Sx.Fr (fun b => b ∈ [g3]) w9 w10 → R (.returned (.tuple #[.agg #[.int .i64 (0 : Int), .int .i64 (0 : Int), .int .i64 (0 : Int), .int .i64 (0 : Int), .int .i64 (0 : Int), .int .i64 (0 : Int), .slice none 0 0], .int .i64 (2 : Int)])) w10)) ∧
   (((s29).toList == (s30).toList) = true →
   (∀ w10 : World, Go.Sx.Fr S w0 w10 → Go.Sx.Fr (fun b => b ∈ [g3]) w9 w10 → R (.returned (.tuple #[.agg #[.int .i64 (IntKind.i64.wrap i7), .int .i64 (IntKind.i64.wrap i10), .int .i64 (IntKind.i64.wrap i13), .int .i64 i17, .int .i64 i18, .int .i64 i20, .slice A21 n22 n23], .int .i64 (0 : Int)])) w10)))))))))) ∧
  (∀ g21 : Nat, w0.heap.size ≤ g21 → (∀ w7 : World, Go.Sx.Fr S w0 w7 → Below w6.heap.size w6 w7 → w6.heap.size ≤ g21 → w7.heap[g21]? = some (.cells #[.int .i64 (0 : Int), .int .i64 (0 : Int), .int .i64 (0 : Int), .int .i64 (0 : Int), .int .i64 (0 : Int), .int .i64 (0 : Int), .slice none 0 0] 47 (0, 0)) → w7.heap[g19]? = some (.cells #[] 5 (0, 0)) → 
  ∃ w8 : World, ∃ A22 : Option Addr, ∃ n23 : Nat, ∃ n24 : Nat, (Builtin.append_ #[45, 45] 45 #[(.slice (some ⟨g19, 0, none⟩) 0 0), (.slice A14 n15 n16)]).run Try.prog w7 = .ok (.slice A22 n23 n24) w8 ∧ (Go.Sx.Fr S w0 w8 ∧ Go.Sx.Mild [g21, g19, g3] w7 w8) ∧ Go.Sx.Keep w1.heap.size [] w7 w8 ∧ 
  (∀ w9 : World, Go.Sx.Fr S w0 w9 → Go.Sx.Fr (fun b => b ∈ [g21]) w8 w9 → 
  Calls Try.prog 72 #[(.agg #[.int .i64 (IntKind.i64.wrap i7), .int .i64 (IntKind.i64.wrap i10), .int .i64 (IntKind.i64.wrap i13), .int .i64 i17, .int .i64 i18, .int .i64 i20, .slice A22 n23 n24])] w9 fun r w10 => ∃ A25 : Option Addr, ∃ n26 : Nat, ∃ n27 : Nat, ∃ i28 : Int, r = .returned (.tuple #[.slice A25 n26 n27, .int .i64 i28]) ∧ (Go.Sx.Fr S w0 w10 ∧ Go.Sx.Mild [g21, g19, g3] w9 w10) ∧ 
  ((¬ i28 = (0 : Int) →
  (∀ w11 : World, Go.Sx.Fr S w0 w11 → Go.Sx.Fr (fun b => b ∈ [g3]) w10 w11 → R (.returned (.tuple #[.agg #[.int .i64 (0 : Int), .int .i64 (0 : Int), .int .i64 (0 : Int), .int .i64 (0 : Int), .int .i64 (0 : Int), .int .i64 (0 : Int), .slice none 0 0], .int .i64 (2 : Int)])) w11)) ∧
  (i28 = (0 : Int) →
  (∃ s29 : ByteArray, (convert 45 9 (.slice A25 n26 n27)).run Try.prog w10 = .ok (.string s29) w10 ∧
   (∃ s30 : ByteArray, (convert 45 9 (.slice A0 n1 n2)).run Try.prog w10 = .ok (.string s30) w10 ∧
   ((((s29).toList == (s30).toList) = false →
   (∀ w11 : World, Go.Sx.Fr S w0 w11 → Go.Sx.Fr (fun b => b ∈ [g3]) w10 w11 → R (.returned (.tuple #[.agg #[.int .i64 (0 : Int), .int .i64 (0 : Int), .int .i64 (0 : Int), .int .i64 (0 : Int), .int .i64 (0 : Int), .int .i64 (0 : Int), .slice none 0 0], .int .i64 (2 : Int)])) w11)) ∧
   (((s29).toList == (s30).toList) = true →
   (∀ w11 : World, Go.Sx.Fr S w0 w11 → Go.Sx.Fr (fun b => b ∈ [g3]) w10 w11 → R (.returned (.tuple #[.agg #[.int .i64 (IntKind.i64.wrap i7), .int .i64 (IntKind.i64.wrap i10), .int .i64 (IntKind.i64.wrap i13), .int .i64 i17, .int .i64 i18, .int .i64 i20, .slice A22 n23 n24], .int .i64 (0 : Int)])) w11))))))))))))) ∧
  (∀ g20 : Nat, w0.heap.size ≤ g20 → (∀ w5 : World, Go.Sx.Fr S w0 w5 → Below w4.heap.size w4 w5 → w4.heap.size ≤ g20 → w5.heap[g20]? = some (.cells #[.int .i64 (0 : Int), .int .i64 (0 : Int), .int .i64 (0 : Int), .int .i64 (0 : Int), .int .i64 (0 : Int), .int .i64 (0 : Int), .slice none 0 0] 47 (0, 0)) → w4.heap.size ≤ g19 → w5.heap[g19]? = some (.cells #[] 5 (0, 0)) → 
  Calls Try.prog 79 #[(.slice A0 n1 n2), (.int .i64 (11 : Int))] w5 fun r w6 => ∃ i21 : Int, r = .returned (.int .i64 i21) ∧ (Go.Sx.Fr S w0 w6 ∧ Go.Sx.Mild [g20, g19, g3] w5 w6) ∧ Go.Sx.Keep w1.heap.size [] w5 w6 ∧ 
  (w6.heap[g19]? = some (.cells #[] 5 (0, 0)) → 
  ∃ w7 : World, ∃ A22 : Option Addr, ∃ n23 : Nat, ∃ n24 : Nat, (Builtin.append_ #[45, 45] 45 #[(.slice (some ⟨g19, 0, none⟩) 0 0), (.slice A14 n15 n16)]).run Try.prog w6 = .ok (.slice A22 n23 n24) w7 ∧ (Go.Sx.Fr S w0 w7 ∧ Go.Sx.Mild [g20, g19, g3] w6 w7) ∧ Go.Sx.Keep w1.heap.size [] w6 w7 ∧ 
  (∀ w8 : World, Go.Sx.Fr S w0 w8 → Go.Sx.Fr (fun b => b ∈ [g20]) w7 w8 → 
  Calls Try.prog 72 #[(.agg #[.int .i64 (IntKind.i64.wrap i7), .int .i64 (IntKind.i64.wrap i10), .int .i64 (IntKind.i64.wrap i13), .int .i64 i17, .int .i64 i18, .int .i64 i21, .slice A22 n23 n24])] w8 fun r w9 => ∃ A25 : Option Addr, ∃ n26 : Nat, ∃ n27 : Nat, ∃ i28 : Int, r = .returned (.tuple #[.slice A25 n26 n27, .int .i64 i28]) ∧ (Go.Sx.Fr S w0 w9 ∧ Go.Sx.Mild [g20, g19, g3] w8 w9) ∧ 
  ((¬ i28 = (0 : Int) →
  (∀ w10 : World, Go.Sx.Fr S w0 w10 → Go.Sx.Fr (fun b => b ∈ [g3]) w9 w10 → R (.returned (.tuple #[.agg #[.int .i64 (0 : Int), .int .i64 (0 : Int), .int .i64 (0 : Int), .int .i64 (0 : Int), .int .i64 (0 : Int), .int .i64 (0 : Int), .slice none 0 0], .int .i64 (2 : Int)])) w10)) ∧
  (i28 = (0 : Int) →
  (∃ s29 : ByteArray, (convert 45 9 (.slice A25 n26 n27)).run Try.prog w9 = .ok (.string s29) w9 ∧
   (∃ s30 : ByteArray, (convert 45 9 (.slice A0 n1 n2)).run Try.prog w9 = .ok (.string s30) w9 ∧
   ((((s29).toList == (s30).toList) = false →
   (∀ w10 : World, Go.Sx.Fr S w0 w10 → Go.Sx.Fr (fun b => b ∈ [g3]) w9 w10 → R (.returned (.tuple #[.agg #[.int .i64 (0 : Int), .int .i64 (0 : Int), .int .i64 (0 : Int), .int .i64 (0 : Int), .int .i64 (0 : Int), .int .i64 (0 : Int), .slice none 0 0], .int .i64 (2 : Int)])) w10)) ∧
   (((s29).toList == (s30).toList) = true →
   (∀ w10 : World, Go.Sx.Fr S w0 w10 → Go.Sx.Fr (fun b => b ∈ [g3]) w9 w10 → R (.returned (.tuple #[.agg #[.int .i64 (IntKind.i64.wrap i7), .int .i64 (IntKind.i64.wrap i10), .int .i64 (IntKind.i64.wrap i13), .int .i64 i17, .int .i64 i18, .int .i64 i21, .slice A22 n23 n24], .int .i64 (0 : Int)])) w10))))))))))))) ∧
  (∀ g19 : Nat, w0.heap.size ≤ g19 → (((∀ w5 : World, Go.Sx.Fr S w0 w5 → Below w4.heap.size w4 w5 → w4.heap.size ≤ g19 → w5.heap[g19]? = some (.cells #[.int .i64 (0 : Int), .int .i64 (0 : Int), .int .i64 (0 : Int), .int .i64 (0 : Int), .int .i64 (0 : Int), .int .i64 (0 : Int), .slice none 0 0] 47 (0, 0)) → 
  Calls Try.prog 79 #[(.slice A0 n1 n2), (.int .i64 (11 : Int))] w5 fun r w6 => ∃ i20 : Int, r = .returned (.int .i64 i20) ∧ (Go.Sx.Fr S w0 w6 ∧ Go.Sx.Mild [g19, g3] w5 w6) ∧ Go.Sx.Keep w1.heap.size [] w5 w6 ∧ 
  ∀ g21 : Nat, w0.heap.size ≤ g21 → (∀ w7 : World, Go.Sx.Fr S w0 w7 → Below w6.heap.size w6 w7 → w6.heap.size ≤ g21 → w7.heap[g21]? = some (.cells #[] 5 (0, 0)) → 
  ∃ w8 : World, ∃ A22 : Option Addr, ∃ n23 : Nat, ∃ n24 : Nat, (Builtin.append_ #[45, 45] 45 #[(.slice (some ⟨g21, 0, none⟩) 0 0), (.slice A14 n15 n16)]).run Try.prog w7 = .ok (.slice A22 n23 n24) w8 ∧ (Go.Sx.Fr S w0 w8 ∧ Go.Sx.Mild [g21, g19, g3] w7 w8) ∧ Go.Sx.Keep w1.heap.size [] w7 w8 ∧ 
  (∀ w9 : World, Go.Sx.Fr S w0 w9 → Go.Sx.Fr (fun b => b ∈ [g19]) w8 w9 → 
  Calls Try.prog 72 #[(.agg #[.int .i64 (IntKind.i64.wrap i7), .int .i64 (IntKind.i64.wrap i10), .int .i64 (IntKind.i64.wrap i13), .int .i64 i17, .int .i64 i18, .int .i64 i20, .slice A22 n23 n24])] w9 fun r w10 => ∃ A25 : Option Addr, ∃ n26 : Nat, ∃ n27 : Nat, ∃ i28 : Int, r = .returned (.tuple #[.slice A25 n26 n27, .int .i64 i28]) ∧ (Go.Sx.Fr S w0 w10 ∧ Go.Sx.Mild [g21, g19, g3] w9 w10) ∧ 
  ((¬ i28 = (0 : Int) →
  (∀ w11 : World, Go.Sx.Fr S w0 w11 → Go.Sx.Fr (fun b => b ∈ [g3]) w10 w11 → R (.returned (.tuple #[.agg #[.int .i64 (0 : Int), .int .i64 (0 : Int), .int .i64 (0 : Int), .int .i64 (0 : Int), .int .i64 (0 : Int), .int .i64 (0 : Int), .slice none 0 0], .int .i64 (2 : Int)])) w11)) ∧
  (i28 = (0 : Int) →
  (∃ s29 : ByteArray, (convert 45 9 (.slice A25 n26 n27)).run Try.prog w10 = .ok (.string s29) w10 ∧
   (∃ s30 : ByteArray, (convert 45 9 (.slice A0 n1 n2)).run Try.prog w10 = .ok (.string s30) w10 ∧
   ((((s29).toList == (s30).toList) = false →
   (∀ w11 : World, Go.Sx.Fr S w0 w11 → Go.Sx.Fr (fun b => b ∈ [g3]) w10 w11 → R (.returned (.tuple #[.agg #[.int .i64 (0 : Int), .int .i64 (0 : Int), .int .i64 (0 : Int), .int .i64 (0 : Int), .int .i64 (0 : Int), .int .i64 (0 : Int), .slice none 0 0], .int .i64 (2 : Int)])) w11)) ∧
   (((s29).toList == (s30).toList) = true →
   (∀ w11 : World, Go.Sx.Fr S w0 w11 → Go.Sx.Fr (fun b => b ∈ [g3]) w10 w11 → R (.returned (.tuple #[.agg #[.int .i64 (IntKind.i64.wrap i7), .int .i64 (IntKind.i64.wrap i10), .int .i64 (IntKind.i64.wrap i13), .int .i64 i17, .int .i64 i18, .int .i64 i20, .slice A22 n23 n24], .int .i64 (0 : Int)])) w11))))))))))) ∧
  (∀ g20 : Nat, w0.heap.size ≤ g20 → (∀ w5 : World, Go.Sx.Fr S w0 w5 → Below w4.heap.size w4 w5 → w4.heap.size ≤ g20 → w5.heap[g20]? = some (.cells #[] 5 (0, 0)) → w4.heap.size ≤ g19 → w5.heap[g19]? = some (.cells #[.int .i64 (0 : Int), .int .i64 (0 : Int), .int .i64 (0 : Int), .int .i64 (0 : Int), .int .i64 (0 : Int), .int .i64 (0 : Int), .slice none 0 0] 47 (0, 0)) → 
  Calls Try.prog 79 #[(.slice A0 n1 n2), (.int .i64 (11 : Int))] w5 fun r w6 => ∃ i21 : Int, r = .returned (.int .i64 i21) ∧ (Go.Sx.Fr S w0 w6 ∧ Go.Sx.Mild [g20, g19, g3] w5 w6) ∧ Go.Sx.Keep w1.heap.size [] w5 w6 ∧ 
  (w6.heap[g20]? = some (.cells #[] 5 (0, 0)) → 
  ∃ w7 : World, ∃ A22 : Option Addr, ∃ n23 : Nat, ∃ n24 : Nat, (Builtin.append_ #[45, 45] 45 #[(.slice (some ⟨g20, 0, none⟩) 0 0), (.slice A14 n15 n16)]).run Try.prog w6 = .ok (.slice A22 n23 n24) w7 ∧ (Go.Sx.Fr S w0 w7 ∧ Go.Sx.Mild [g20, g19, g3] w6 w7) ∧ Go.Sx.Keep w1.heap.size [] w6 w7 ∧ 
  (∀ w8 : World, Go.Sx.Fr S w0 w8 → Go.Sx.Fr (fun b => b ∈ [g19]) w7 w8 → 
  Calls Try.prog 72 #[(.agg #[.int .i64 (IntKind.i64.wrap i7), .int .i64 (IntKind.i64.wrap i10), .int .i64 (IntKind.i64.wrap i13), .int .i64 i17, .int .i64 i18, .int .i64 i21, .slice A22 n23 n24])] w8 fun r w9 => ∃ A25 : Option Addr, ∃ n26 : Nat, ∃ n27 : Nat, ∃ i28 : Int, r = .returned (.tuple #[.slice A25 n26 n27, .int .i64 i28]) ∧ (Go.Sx.Fr S w0 w9 ∧ Go.Sx.Mild [g20, g19, g3] w8 w9) ∧ 
  ((¬ i28 = (0 : Int) →
  (∀ w10 : World, Go.Sx.Fr S w0 w10 → Go.Sx.Fr (fun b => b ∈ [g3]) w9 w10 → R (.returned (.tuple #[.agg #[.int .i64 (0 : Int), .int .i64 (0 : Int), .int .i64 (0 : Int), .int .i64 (0 : Int), .int .i64 (0 : Int), .int .i64 (0 : Int), .slice none 0 0], .int .i64 (2 : Int)])) w10)) ∧
  (i28 = (0 : Int) →
  (∃ s29 : ByteArray, (convert 45 9 (.slice A25 n26 n27)).run Try.prog w9 = .ok (.string s29) w9 ∧
   (∃ s30 : ByteArray, (convert 45 9 (.slice A0 n1 n2)).run Try.prog w9 = .ok (.string s30) w9 ∧
   ((((s29).toList == (s30).toList) = false →
   (∀ w10 : World, Go.Sx.Fr S w0 w10 → Go.Sx.Fr (fun b => b ∈ [g3]) w9 w10 → R (.returned (.tuple #[.agg #[.int .i64 (0 : Int), .int .i64 (0 : Int), .int .i64 (0 : Int), .int .i64 (0 : Int), .int .i64 (0 : Int), .int .i64 (0 : Int), .slice none 0 0], .int .i64 (2 : Int)])) w10)) ∧
   (((s29).toList == (s30).toList) = true →
   (∀ w10 : World, Go.Sx.Fr S w0 w10 → Go.Sx.Fr (fun b => b ∈ [g3]) w9 w10 → R (.returned (.tuple #[.agg #[.int .i64 (IntKind.i64.wrap i7), .int .i64 (IntKind.i64.wrap i10), .int .i64 (IntKind.i64.wrap i13), .int .i64 i17, .int .i64 i18, .int .i64 i21, .slice A22 n23 n24], .int .i64 (0 : Int)])) w10)))))))))))))))))) ∧
  (((∀ g18 : Nat, w0.heap.size ≤ g18 → (((∀ w4 : World, Go.Sx.Fr S w0 w4 → Below w3.heap.size w3 w4 → w3.heap.size ≤ g18 → w4.heap[g18]? = some (.cells #[] 5 (0, 0)) → 
  Calls Try.prog 79 #[(.slice A0 n1 n2), (.int .i64 (7 : Int))] w4 fun r w5 => ∃ i19 : Int, r = .returned (.int .i64 i19) ∧ (Go.Sx.Fr S w0 w5 ∧ Go.Sx.Mild [g18, g3] w4 w5) ∧ Go.Sx.Keep w1.heap.size [] w4 w5 ∧ 
  (((
  Calls Try.prog 79 #[(.slice A0 n1 n2), (.int .i64 (11 : Int))] w5 fun r w6 => ∃ i20 : Int, r = .returned (.int .i64 i20) ∧ (Go.Sx.Fr S w0 w6 ∧ Go.Sx.Mild [g18, g3] w5 w6) ∧ Go.Sx.Keep w1.heap.size [] w5 w6 ∧ 
  (((w6.heap[g18]? = some (.cells #[] 5 (0, 0)) → 
  ∃ w7 : World, ∃ A21 : Option Addr, ∃ n22 : Nat, ∃ n23 : Nat, (Builtin.append_ #[45, 45] 45 #[(.slice (some ⟨g18, 0, none⟩) 0 0), (.slice A14 n15 n16)]).run Try.prog w6 = .ok (.slice A21 n22 n23) w7 ∧ (Go.Sx.Fr S w0 w7 ∧ Go.Sx.Mild [g18, g3] w6 w7) ∧ Go.Sx.Keep w1.heap.size [] w6 w7 ∧ 
  ∀ g24 : Nat, w0.heap.size ≤ g24 → (∀ w8 : World, Go.Sx.Fr S w0 w8 → Below w7.heap.size w7 w8 → w7.heap.size ≤ g24 → w8.heap[g24]? = some (.cells #[.int .i64 (IntKind.i64.wrap i7), .int .i64 (IntKind.i64.wrap i10), .int .i64 (IntKind.i64.wrap i13), .int .i64 i17, .int .i64 i19, .int .i64 i20, .slice A21 n22 n23] 47 (0, 0)) → 
  Calls Try.prog 72 #[(.agg #[.int .i64 (IntKind.i64.wrap i7), .int .i64 (IntKind.i64.wrap i10), .int .i64 (IntKind.i64.wrap i13), .int .i64 i17, .int .i64 i19, .int .i64 i20, .slice A21 n22 n23])] w8 fun r w9 => ∃ A25 : Option Addr, ∃ n26 : Nat, ∃ n27 : Nat, ∃ i28 : Int, r = .returned (.tuple #[.slice A25 n26 n27, .int .i64 i28]) ∧ (Go.Sx.Fr S w0 w9 ∧ Go.Sx.Mild [g24, g18, g3] w8 w9) ∧ 
  ((¬ i28 = (0 : Int) →
  (∀ w10 : World, Go.Sx.Fr S w0 w10 → Go.Sx.Fr (fun b => b ∈ [g3]) w9 w10 → R (.returned (.tuple #[.agg #[.int .i64 (0 : Int), .int .i64 (0 : Int), .int .i64 (0 : Int), .int .i64 (0 : Int), .int .i64 (0 : Int), .int .i64 (0 : Int), .slice none 0 0], .int .i64 (2 : Int)])) w10)) ∧
  (i28 = (0 : Int) →
  (∃ s29 : ByteArray, (convert 45 9 (.slice A25 n26 n27)).run Try.prog w9 = .ok (.string s29) w9 ∧
   (∃ s30 : ByteArray, (convert 45 9 (.slice A0 n1 n2)).run Try.prog w9 = .ok (.string s30) w9 ∧
   ((((s29).toList == (s30).toList) = false →
   (∀ w10 : World, Go.Sx.Fr S w0 w10 → Go.Sx.Fr (fun b => b ∈ [g3]) w9 w10 → R (.returned (.tuple #[.agg #[.int .i64 (0 : Int), .int .i64 (0 : Int), .int .i64 (0 : Int), .int .i64 (0 : Int), .int .i64 (0 : Int), .int .i64 (0 : Int), .slice none 0 0], .int .i64 (2 : Int)])) w10)) ∧
   (((s29).toList == (s30).toList) = true →
   (∀ w10 : World, Go.Sx.Fr S w0 w10 → Go.Sx.Fr (fun b => b ∈ [g3]) w9 w10 → R (.returned (.tuple #[.agg #[.int .i64 (IntKind.i64.wrap i7), .int .i64 (IntKind.i64.wrap i10), .int .i64 (IntKind.i64.wrap i13), .int .i64 i17, .int .i64 i19, .int .i64 i20, .slice A21 n22 n23], .int .i64 (0 : Int)])) w10)))))))))) ∧
  (∀ g21 : Nat, w0.heap.size ≤ g21 → (∀ w7 : World, Go.Sx.Fr S w0 w7 → Below w6.heap.size w6 w7 → w6.heap.size ≤ g21 → w7.heap[g21]? = some (.cells #[.int .i64 (0 : Int), .int .i64 (0 : Int), .int .i64 (0 : Int), .int .i64 (0 : Int), .int .i64 (0 : Int), .int .i64 (0 : Int), .slice none 0 0] 47 (0, 0)) → w7.heap[g18]? = some (.cells #[] 5 (0, 0)) → 
  ∃ w8 : World, ∃ A22 : Option Addr, ∃ n23 : Nat, ∃ n24 : Nat, (Builtin.append_ #[45, 45] 45 #[(.slice (some ⟨g18, 0, none⟩) 0 0), (.slice A14 n15 n16)]).run Try.prog w7 = .ok (.slice A22 n23 n24) w8 ∧ (Go.Sx.Fr S w0 w8 ∧ Go.Sx.Mild [g21, g18, g3] w7 w8) ∧ Go.Sx.Keep w1.heap.size [] w7 w8 ∧ 
  (∀ w9 : World, Go.Sx.Fr S w0 w9 → Go.Sx.Fr (fun b => b ∈ [g21]) w8 w9 → 
  Calls Try.prog 72 #[(.agg #[.int .i64 (IntKind.i64.wrap i7), .int .i64 (IntKind.i64.wrap i10), .int .i64 (IntKind.i64.wrap i13), .int .i64 i17, .int .i64 i19, .int .i64 i20, .slice A22 n23 n24])] w9 fun r w10 => ∃ A25 : Option Addr, ∃ n26 : Nat, ∃ n27 : Nat, ∃ i28 : Int, r = .returned (.tuple #[.slice A25 n26 n27, .int .i64 i28]) ∧ (Go.Sx.Fr S w0 w10 ∧ Go.Sx.Mild [g21, g18, g3] w9 w10) ∧ 
  ((¬ i28 = (0 : Int) →
  (∀ w11 : World, Go.Sx.Fr S w0 w11 → Go.Sx.Fr (fun b => b ∈ [g3]) w10 w11 → R (.returned (.tuple #[.agg #[.int .i64 (0 : Int), .int .i64 (0 : Int), .int .i64 (0 : Int), .int .i64 (0 : Int), .int .i64 (0 : Int), .int .i64 (0 : Int), .slice none 0 0], .int .i64 (2 : Int)])) w11)) ∧
  (i28 = (0 : Int) →
  (∃ s29 : ByteArray, (convert 45 9 (.slice A25 n26 n27)).run Try.prog w10 = .ok (.string s29) w10 ∧
   (∃ s30 : ByteArray, (convert 45 9 (.slice A0 n1 n2)).run Try.prog w10 = .ok (.string s30) w10 ∧
   ((((s29).toList == (s30).toList) = false →
   (∀ w11 : World, Go.Sx.Fr S w0 w11 → Go.Sx.Fr (fun b => b ∈ [g3]) w10 w11 → R (.returned (.tuple #[.agg #[.int .i64 (0 : Int), .int .i64 (0 : Int), .int .i64 (0 : Int), .int .i64 (0 : Int), .int .i64 (0 : Int), .int .i64 (0 : Int), .slice none 0 0], .int .i64 (2 : Int)])) w11)) ∧
   (((s29).toList == (s30).toList) = true →
   (∀ w11 : World, Go.Sx.Fr S w0 w11 → Go.Sx.Fr (fun b => b ∈ [g3]) w10 w11 → R (.returned (.tuple #[.agg #[.int .i64 (IntKind.i64.wrap i7), .int .i64 (IntKind.i64.wrap i10), .int .i64 (IntKind.i64.wrap i13), .int .i64 i17, .int .i64 i19, .int .i64 i20, .slice A22 n23 n24], .int .i64 (0 : Int)])) w11))))))))))))) ∧
  (∀ g20 : Nat, w0.heap.size ≤ g20 → (∀ w6 : World, Go.Sx.Fr S w0 w6 → Below w5.heap.size w5 w6 → w5.heap.size ≤ g20 → w6.heap[g20]? = some (.cells #[.int .i64 (0 : Int), .int .i64 (0 : Int), .int .i64 (0 : Int), .int .i64 (0 : Int), .int .i64 (0 : Int), .int .i64 (0 : Int), .slice none 0 0] 47 (0, 0)) → 
  Calls Try.prog 79 #[(.slice A0 n1 n2), (.int .i64 (11 : Int))] w6 fun r w7 => ∃ i21 : Int, r = .returned (.int .i64 i21) ∧ (Go.Sx.Fr S w0 w7 ∧ Go.Sx.Mild [g20, g18, g3] w6 w7) ∧ Go.Sx.Keep w1.heap.size [] w6 w7 ∧ 
  (w7.heap[g18]? = some (.cells #[] 5 (0, 0)) → 
  ∃ w8 : World, ∃ A22 : Option Addr, ∃ n23 : Nat, ∃ n24 : Nat, (Builtin.append_ #[45, 45] 45 #[(.slice (some ⟨g18, 0, none⟩) 0 0), (.slice A14 n15 n16)]).run Try.prog w7 = .ok (.slice A22 n23 n24) w8 ∧ (Go.Sx.Fr S w0 w8 ∧ Go.Sx.Mild [g20, g18, g3] w7 w8) ∧ Go.Sx.Keep w1.heap.size [] w7 w8 ∧ 
  (∀ w9 : World, Go.Sx.Fr S w0 w9 → Go.Sx.Fr (fun b => b ∈ [g20]) w8 w9 → 
  Calls Try.prog 72 #[(.agg #[.int .i64 (IntKind.i64.wrap i7), .int .i64 (IntKind.i64.wrap i10), .int .i64 (IntKind.i64.wrap i13), .int .i64 i17, .int .i64 i19, .int .i64 i21, .slice A22 n23 n24])] w9 fun r w10 => ∃ A25 : Option Addr, ∃ n26 : Nat, ∃ n27 : Nat, ∃ i28 : Int, r = .returned (.tuple #[.slice A25 n26 n27, .int .i64 i28]) ∧ (Go.Sx.Fr S w0 w10 ∧ Go.Sx.Mild [g20, g18, g3] w9 w10) ∧ 
  ((¬ i28 = (0 : Int) →
  (∀ w11 : World, Go.Sx.Fr S w0 w11 → Go.Sx.Fr (fun b => b ∈ [g3]) w10 w11 → R (.returned (.tuple #[.agg #[.int .i64 (0 : Int), .int .i64 (0 : Int), .int .i64 (0 : Int), .int .i64 (0 : Int), .int .i64 (0 : Int), .int .i64 (0 : Int), .slice none 0 0], .int .i64 (2 : Int)])) w11)) ∧
  (i28 = (0 : Int) →
  (∃ s29 : ByteArray, (convert 45 9 (.slice A25 n26 n27)).run Try.prog w10 = .ok (.string s29) w10 ∧
   (∃ s30 : ByteArray, (convert 45 9 (.slice A0 n1 n2)).run Try.prog w10 = .ok (.string s30) w10 ∧
   ((((s29).toList == (s30).toList) = false →
   (∀ w11 : World, Go.Sx.Fr S w0 w11 → Go.Sx.Fr (fun b => b ∈ [g3]) w10 w11 → R (.returned (.tuple #[.agg #[.int .i64 (0 : Int), .int .i64 (0 : Int), .int .i64 (0 : Int), .int .i64 (0 : Int), .int .i64 (0 : Int), .int .i64 (0 : Int), .slice none 0 0], .int .i64 (2 : Int)])) w11)) ∧
   (((s29).toList == (s30).toList) = true →
   (∀ w11 : World, Go.Sx.Fr S w0 w11 → Go.Sx.Fr (fun b => b ∈ [g3]) w10 w11 → R (.returned (.tuple #[.agg #[.int .i64 (IntKind.i64.wrap i7), .int .i64 (IntKind.i64.wrap i10), .int .i64 (IntKind.i64.wrap i13), .int .i64 i17, .int .i64 i19, .int .i64 i21, .slice A22 n23 n24], .int .i64 (0 : Int)])) w11)))))))))))))) ∧
  (∀ g19 : Nat, w0.heap.size ≤ g19 → (∀ w4 : World, Go.Sx.Fr S w0 w4 → Below w3.heap.size w3 w4 → w3.heap.size ≤ g19 → w4.heap[g19]? = some (.cells #[.int .i64 (0 : Int), .int .i64 (0 : Int), .int .i64 (0 : Int), .int .i64 (0 : Int), .int .i64 (0 : Int), .int .i64 (0 : Int), .slice none 0 0] 47 (0, 0)) → w3.heap.size ≤ g18 → w4.heap[g18]? = some (.cells #[] 5 (0, 0)) → 
  Calls Try.prog 79 #[(.slice A0 n1 n2), (.int .i64 (7 : Int))] w4 fun r w5 => ∃ i20 : Int, r = .returned (.int .i64 i20) ∧ (Go.Sx.Fr S w0 w5 ∧ Go.Sx.Mild [g19, g18, g3] w4 w5) ∧ Go.Sx.Keep w1.heap.size [] w4 w5 ∧ 
  (
  Calls Try.prog 79 #[(.slice A0 n1 n2), (.int .i64 (11 : Int))] w5 fun r w6 => ∃ i21 : Int, r = .returned (.int .i64 i21) ∧ (Go.Sx.Fr S w0 w6 ∧ Go.Sx.Mild [g19, g18, g3] w5 w6) ∧ Go.Sx.Keep w1.heap.size [] w5 w6 ∧ 
  (w6.heap[g18]? = some (.cells #[] 5 (0, 0)) → 
  ∃ w7 : World, ∃ A22 : Option Addr, ∃ n23 : Nat, ∃ n24 : Nat, (Builtin.append_ #[45, 45] 45 #[(.slice (some ⟨g18, 0, none⟩) 0 0), (.slice A14 n15 n16)]).run Try.prog w6 = .ok (.slice A22 n23 n24) w7 ∧ (Go.Sx.Fr S w0 w7 ∧ Go.Sx.Mild [g19, g18, g3] w6 w7) ∧ Go.Sx.Keep w1.heap.size [] w6 w7 ∧ 
  (∀ w8 : World, Go.Sx.Fr S w0 w8 → Go.Sx.Fr (fun b => b ∈ [g19]) w7 w8 → 
  Calls Try.prog 72 #[(.agg #[.int .i64 (IntKind.i64.wrap i7), .int .i64 (IntKind.i64.wrap i10), .int .i64 (IntKind.i64.wrap i13), .int .i64 i17, .int .i64 i20, .int .i64 i21, .slice A22 n23 n24])] w8 fun r w9 => ∃ A25 : Option Addr, ∃ n26 : Nat, ∃ n27 : Nat, ∃ i28 : Int, r = .returned (.tuple #[.slice A25 n26 n27, .int .i64 i28]) ∧ (Go.Sx.Fr S w0 w9 ∧ Go.Sx.Mild [g19, g18, g3] w8 w9) ∧ 
  ((¬ i28 = (0 : Int) →
  (∀ w10 : World, Go.Sx.Fr S w0 w10 → Go.Sx.Fr (fun b => b ∈ [g3]) w9 w10 → R (.returned (.tuple #[.agg #[.int .i64 (0 : Int), .int .i64 (0 : Int), .int .i64 (0 : Int), .int .i64 (0 : Int), .int .i64 (0 : Int), .int .i64 (0 : Int), .slice none 0 0], .int .i64 (2 : Int)])) w10)) ∧
  (i28 = (0 : Int) →
  (∃ s29 : ByteArray, (convert 45 9 (.slice A25 n26 n27)).run Try.prog w9 = .ok (.string s29) w9 ∧
   (∃ s30 : ByteArray, (convert 45 9 (.slice A0 n1 n2)).run Try.prog w9 = .ok (.string s30) w9 ∧
   ((((s29).toList == (s30).toList) = false →
   (∀ w10 : World, Go.Sx.Fr S w0 w10 → Go.Sx.Fr (fun b => b ∈ [g3]) w9 w10 → R (.returned (.tuple #[.agg #[.int .i64 (0 : Int), .int .i64 (0 : Int), .int .i64 (0 : Int), .int .i64 (0 : Int), .int .i64 (0 : Int), .int .i64 (0 : Int), .slice none 0 0], .int .i64 (2 : Int)])) w10)) ∧
   (((s29).toList == (s30).toList) = true →
   (∀ w10 : World, Go.Sx.Fr S w0 w10 → Go.Sx.Fr (fun b => b ∈ [g3]) w9 w10 → R (.returned (.tuple #[.agg #[.int .i64 (IntKind.i64.wrap i7), .int .i64 (IntKind.i64.wrap i10), .int .i64 (IntKind.i64.wrap i13), .int .i64 i17, .int .i64 i20, .int .i64 i21, .slice A22 n23 n24], .int .i64 (0 : Int)])) w10)))))))))))))) ∧
  (∀ g18 : Nat, w0.heap.size ≤ g18 → (((∀ w4 : World, Go.Sx.Fr S w0 w4 → Below w3.heap.size w3 w4 → w3.heap.size ≤ g18 → w4.heap[g18]? = some (.cells #[.int .i64 (0 : Int), .int .i64 (0 : Int), .int .i64 (0 : Int), .int .i64 (0 : Int), .int .i64 (0 : Int), .int .i64 (0 : Int), .slice none 0 0] 47 (0, 0)) → 
  Calls Try.prog 79 #[(.slice A0 n1 n2), (.int .i64 (7 : Int))] w4 fun r w5 => ∃ i19 : Int, r = .returned (.int .i64 i19) ∧ (Go.Sx.Fr S w0 w5 ∧ Go.Sx.Mild [g18, g3] w4 w5) ∧ Go.Sx.Keep w1.heap.size [] w4 w5 ∧ 
  (((
  Calls Try.prog 79 #[(.slice A0 n1 n2), (.int .i64 (11 : Int))] w5 fun r w6 => ∃ i20 : Int, r = .returned (.int .i64 i20) ∧ (Go.Sx.Fr S w0 w6 ∧ Go.Sx.Mild [g18, g3] w5 w6) ∧ Go.Sx.Keep w1.heap.size [] w5 w6 ∧ 
  ∀ g21 : Nat, w0.heap.size ≤ g21 → (∀ w7 : World, Go.Sx.Fr S w0 w7 → Below w6.heap.size w6 w7 → w6.heap.size ≤ g21 → w7.heap[g21]? = some (.cells #[] 5 (0, 0)) → 
  ∃ w8 : World, ∃ A22 : Option Addr, ∃ n23 : Nat, ∃ n24 : Nat, (Builtin.append_ #[45, 45] 45 #[(.slice (some ⟨g21, 0, none⟩) 0 0), (.slice A14 n15 n16)]).run Try.prog w7 = .ok (.slice A22 n23 n24) w8 ∧ (Go.Sx.Fr S w0 w8 ∧ Go.Sx.Mild [g21, g18, g3] w7 w8) ∧ Go.Sx.Keep w1.heap.size [] w7 w8 ∧ 
  (∀ w9 : World, Go.Sx.Fr S w0 w9 → Go.Sx.Fr (fun b => b ∈ [g18]) w8 w9 → 
  Calls Try.prog 72 #[(.agg #[.int .i64 (IntKind.i64.wrap i7), .int .i64 (IntKind.i64.wrap i10), .int .i64 (IntKind.i64.wrap i13), .int .i64 i17, .int .i64 i19, .int .i64 i20, .slice A22 n23 n24])] w9 fun r w10 => ∃ A25 : Option Addr, ∃ n26 : Nat, ∃ n27 : Nat, ∃ i28 : Int, r = .returned (.tuple #[.slice A25 n26 n27, .int .i64 i28]) ∧ (Go.Sx.Fr S w0 w10 ∧ Go.Sx.Mild [g21, g18, g3] w9 w10) ∧ 
  ((¬ i28 = (0 : Int) →
  (∀ w11 : World, Go.Sx.Fr S w0 w11 → Go.Sx.Fr (fun b => b ∈ [g3]) w10 w11 → R (.returned (.tuple #[.agg #[.int .i64 (0 : Int), .int .i64 (0 : Int), .int .i64 (0 : Int), .int .i64 (0 : Int), .int .i64 (0 : Int), .int .i64 (0 : Int), .slice none 0 0], .int .i64 (2 : Int)])) w11)) ∧
  (i28 = (0 : Int) →
  (∃ s29 : ByteArray, (convert 45 9 (.slice A25 n26 n27)).run Try.prog w10 = .ok (.string s29) w10 ∧
   (∃ s30 : ByteArray, (convert 45 9 (.slice A0 n1 n2)).run Try.prog w10 = .ok (.string s30) w10 ∧
   ((((s29).toList == (s30).toList) = false →
   (∀ w11 : World, Go.Sx.Fr S w0 w11 → Go.Sx.Fr (fun b => b ∈ [g3]) w10 w11 → R (.returned (.tuple #[.agg #[.int .i64 (0 : Int), .int .i64 (0 : Int), .int .i64 (0 : Int), .int .i64 (0 : Int), .int .i64 (0 : Int), .int .i64 (0 : Int), .slice none 0 0], .int .i64 (2 : Int)])) w11)) ∧
   (((s29).toList == (s30).toList) = true →
   (∀ w11 : World, Go.Sx.Fr S w0 w11 → Go.Sx.Fr (fun b => b ∈ [g3]) w10 w11 → R (.returned (.tuple #[.agg #[.int .i64 (IntKind.i64.wrap i7), .int .i64 (IntKind.i64.wrap i10), .int .i64 (IntKind.i64.wrap i13), .int .i64 i17, .int .i64 i19, .int .i64 i20, .slice A22 n23 n24], .int .i64 (0 : Int)])) w11))))))))))) ∧
  (∀ g20 : Nat, w0.heap.size ≤ g20 → (∀ w6 : World, Go.Sx.Fr S w0 w6 → Below w5.heap.size w5 w6 → w5.heap.size ≤ g20 → w6.heap[g20]? = some (.cells #[] 5 (0, 0)) → 
  Calls Try.prog 79 #[(.slice A0 n1 n2), (.int .i64 (11 : Int))] w6 fun r w7 => ∃ i21 : Int, r = .returned (.int .i64 i21) ∧ (Go.Sx.Fr S w0 w7 ∧ Go.Sx.Mild [g20, g18, g3] w6 w7) ∧ Go.Sx.Keep w1.heap.size [] w6 w7 ∧ 
  (w7.heap[g20]? = some (.cells #[] 5 (0, 0)) → 
  ∃ w8 : World, ∃ A22 : Option Addr, ∃ n23 : Nat, ∃ n24 : Nat, (Builtin.append_ #[45, 45] 45 #[(.slice (some ⟨g20, 0, none⟩) 0 0), (.slice A14 n15 n16)]).run Try.prog w7 = .ok (.slice A22 n23 n24) w8 ∧ (Go.Sx.Fr S w0 w8 ∧ Go.Sx.Mild [g20, g18, g3] w7 w8) ∧ Go.Sx.Keep w1.heap.size [] w7 w8 ∧ 
  (∀ w9 : World, Go.Sx.Fr S w0 w9 → Go.Sx.Fr (fun b => b ∈ [g18]) w8 w9 → 
  Calls Try.prog 72 #[(.agg #[.int .i64 (IntKind.i64.wrap i7), .int .i64 (IntKind.i64.wrap i10), .int .i64 (IntKind.i64.wrap i13), .int .i64 i17, .int .i64 i19, .int .i64 i21, .slice A22 n23 n24])] w9 fun r w10 => ∃ A25 : Option Addr, ∃ n26 : Nat, ∃ n27 : Nat, ∃ i28 : Int, r = .returned (.tuple #[.slice A25 n26 n27, .int .i64 i28]) ∧ (Go.Sx.Fr S w0 w10 ∧ Go.Sx.Mild [g20, g18, g3] w9 w10) ∧ 
  ((¬ i28 = (0 : Int) →
  (∀ w11 : World, Go.Sx.Fr S w0 w11 → Go.Sx.Fr (fun b => b ∈ [g3]) w10 w11 → R (.returned (.tuple #[.agg #[.int .i64 (0 : Int), .int .i64 (0 : Int), .int .i64 (0 : Int), .int .i64 (0 : Int), .int .i64 (0 : Int), .int .i64 (0 : Int), .slice none 0 0], .int .i64 (2 : Int)])) w11)) ∧
  (i28 = (0 : Int) →
  (∃ s29 : ByteArray, (convert 45 9 (.slice A25 n26 n27)).run Try.prog w10 = .ok (.string s29) w10 ∧
   (∃ s30 : ByteArray, (convert 45 9 (.slice A0 n1 n2)).run Try.prog w10 = .ok (.string s30) w10 ∧
   ((((s29).toList == (s30).toList) = false →
   (∀ w11 : World, Go.Sx.Fr S w0 w11 → Go.Sx.Fr (fun b => b ∈ [g3]) w10 w11 → R (.returned (.tuple #[.agg #[.int .i64 (0 : Int), .int .i64 (0 : Int), .int .i64 (0 : Int), .int .i64 (0 : Int), .int .i64 (0 : Int), .int .i64 (0 : Int), .slice none 0 0], .int .i64 (2 : Int)])) w11)) ∧
   (((s29).toList == (s30).toList) = true →
   (∀ w11 : World, Go.Sx.Fr S w0 w11 → Go.Sx.Fr (fun b => b ∈ [g3]) w10 w11 → R (.returned (.tuple #[.agg #[.int .i64 (IntKind.i64.wrap i7), .int .i64 (IntKind.i64.wrap i10), .int .i64 (IntKind.i64.wrap i13), .int .i64 i17, .int .i64 i19, .int .i64 i21, .slice A22 n23 n24], .int .i64 (0 : Int)])) w11)))))))))))))) ∧
  (∀ g19 : Nat, w0.heap.size ≤ g19 → (∀ w4 : World, Go.Sx.Fr S w0 w4 → Below w3.heap.size w3 w4 → w3.heap.size ≤ g19 → w4.heap[g19]? = some (.cells #[] 5 (0, 0)) → w3.heap.size ≤ g18 → w4.heap[g18]? = some (.cells #[.int .i64 (0 : Int), .int .i64 (0 : Int), .int .i64 (0 : Int), .int .i64 (0 : Int), .int .i64 (0 : Int), .int .i64 (0 : Int), .slice none 0 0] 47 (0, 0)) → 
  Calls Try.prog 79 #[(.slice A0 n1 n2), (.int .i64 (7 : Int))] w4 fun r w5 => ∃ i20 : Int, r = .returned (.int .i64 i20) ∧ (Go.Sx.Fr S w0 w5 ∧ Go.Sx.Mild [g19, g18, g3] w4 w5) ∧ Go.Sx.Keep w1.heap.size [] w4 w5 ∧ 
  (
  Calls Try.prog 79 #[(.slice A0 n1 n2), (.int .i64 (11 : Int))] w5 fun r w6 => ∃ i21 : Int, r = .returned (.int .i64 i21) ∧ (Go.Sx.Fr S w0 w6 ∧ Go.Sx.Mild [g19, g18, g3] w5 w6) ∧ Go.Sx.Keep w1.heap.size [] w5 w6 ∧ 
  (w6.heap[g19]? = some (.cells #[] 5 (0, 0)) → 
  ∃ w7 : World, ∃ A22 : Option Addr, ∃ n23 : Nat, ∃ n24 : Nat, (Builtin.append_ #[45, 45] 45 #[(.slice (some ⟨g19, 0, none⟩) 0 0), (.slice A14 n15 n16)]).run Try.prog w6 = .ok (.slice A22 n23 n24) w7 ∧ (Go.Sx.Fr S w0 w7 ∧ Go.Sx.Mild [g19, g18, g3] w6 w7) ∧ Go.Sx.Keep w1.heap.size [] w6 w7 ∧ 
  (∀ w8 : World, Go.Sx.Fr S w0 w8 → Go.Sx.Fr (fun b => b ∈ [g18]) w7 w8 → 
  Calls Try.prog 72 #[(.agg #[.int .i64 (IntKind.i64.wrap i7), .int .i64 (IntKind.i64.wrap i10), .int .i64 (IntKind.i64.wrap i13), .int .i64 i17, .int .i64 i20, .int .i64 i21, .slice A22 n23 n24])] w8 fun r w9 => ∃ A25 : Option Addr, ∃ n26 : Nat, ∃ n27 : Nat, ∃ i28 : Int, r = .returned (.tuple #[.slice A25 n26 n27, .int .i64 i28]) ∧ (Go.Sx.Fr S w0 w9 ∧ Go.Sx.Mild [g19, g18, g3] w8 w9) ∧ 
  ((¬ i28 = (0 : Int) →
  (∀ w10 : World, Go.Sx.Fr S w0 w10 → Go.Sx.Fr (fun b => b ∈ [g3]) w9 w10 → R (.returned (.tuple #[.agg #[.int .i64 (0 : Int), .int .i64 (0 : Int), .int .i64 (0 : Int), .int .i64 (0 : Int), .int .i64 (0 : Int), .int .i64 (0 : Int), .slice none 0 0], .int .i64 (2 : Int)])) w10)) ∧
  (i28 = (0 : Int) →
  (∃ s29 : ByteArray, (convert 45 9 (.slice A25 n26 n27)).run Try.prog w9 = .ok (.string s29) w9 ∧
   (∃ s30 : ByteArray, (convert 45 9 (.slice A0 n1 n2)).run Try.prog w9 = .ok (.string s30) w9 ∧
   ((((s29).toList == (s30).toList) = false →
   (∀ w10 : World, Go.Sx.Fr S w0 w10 → Go.Sx.Fr (fun b => b ∈ [g3]) w9 w10 → R (.returned (.tuple #[.agg #[.int .i64 (0 : Int), .int .i64 (0 : Int), .int .i64 (0 : Int), .int .i64 (0 : Int), .int .i64 (0 : Int), .int .i64 (0 : Int), .slice none 0 0], .int .i64 (2 : Int)])) w10)) ∧
   (((s29).toList == (s30).toList) = true →
   (∀ w10 : World, Go.Sx.Fr S w0 w10 → Go.Sx.Fr (fun b => b ∈ [g3]) w9 w10 → R (.returned (.tuple #[.agg #[.int .i64 (IntKind.i64.wrap i7), .int .i64 (IntKind.i64.wrap i10), .int .i64 (IntKind.i64.wrap i13), .int .i64 i17, .int .i64 i20, .int .i64 i21, .slice A22 n23 n24], .int .i64 (0 : Int)])) w10))))))))))))))))))) ∧
  (((∀ g17 : Nat, w0.heap.size ≤ g17 → (((∀ w3 : World, Go.Sx.Fr S w0 w3 → Below w2.heap.size w2 w3 → w2.heap.size ≤ g17 → w3.heap[g17]? = some (.cells #[] 5 (0, 0)) → 
  Calls Try.prog 79 #[(.slice A0 n1 n2), (.int .i64 (3 : Int))] w3 fun r w4 => ∃ i18 : Int, r = .returned (.int .i64 i18) ∧ (Go.Sx.Fr S w0 w4 ∧ Go.Sx.Mild [g17, g3] w3 w4) ∧ Go.Sx.Keep w1.heap.size [] w3 w4 ∧ 
  (((
  Calls Try.prog 79 #[(.slice A0 n1 n2), (.int .i64 (7 : Int))] w4 fun r w5 => ∃ i19 : Int, r = .returned (.int .i64 i19) ∧ (Go.Sx.Fr S w0 w5 ∧ Go.Sx.Mild [g17, g3] w4 w5) ∧ Go.Sx.Keep w1.heap.size [] w4 w5 ∧ 
  (((
  Calls Try.prog 79 #[(.slice A0 n1 n2), (.int .i64 (11 : Int))] w5 fun r w6 => ∃ i20 : Int, r = .returned (.int .i64 i20) ∧ (Go.Sx.Fr S w0 w6 ∧ Go.Sx.Mild [g17, g3] w5 w6) ∧ Go.Sx.Keep w1.heap.size [] w5 w6 ∧ 
  (((w6.heap[g17]? = some (.cells #[] 5 (0, 0)) → 
  ∃ w7 : World, ∃ A21 : Option Addr, ∃ n22 : Nat, ∃ n23 : Nat, (Builtin.append_ #[45, 45] 45 #[(.slice (some ⟨g17, 0, none⟩) 0 0), (.slice A14 n15 n16)]).run Try.prog w6 = .ok (.slice A21 n22 n23) w7 ∧ (Go.Sx.Fr S w0 w7 ∧ Go.Sx.Mild [g17, g3] w6 w7) ∧ Go.Sx.Keep w1.heap.size [] w6 w7 ∧ 
  ∀ g24 : Nat, w0.heap.size ≤ g24 → (∀ w8 : World, Go.Sx.Fr S w0 w8 → Below w7.heap.size w7 w8 → w7.heap.size ≤ g24 → w8.heap[g24]? = some (.cells #[.int .i64 (IntKind.i64.wrap i7), .int .i64 (IntKind.i64.wrap i10), .int .i64 (IntKind.i64.wrap i13), .int .i64 i18, .int .i64 i19, .int .i64 i20, .slice A21 n22 n23] 47 (0, 0)) → 
  Calls Try.prog 72 #[(.agg #[.int .i64 (IntKind.i64.wrap i7), .int .i64 (IntKind.i64.wrap i10), .int .i64 (IntKind.i64.wrap i13), .int .i64 i18, .int .i64 i19, .int .i64 i20, .slice A21 n22 n23])] w8 fun r w9 => ∃ A25 : Option Addr, ∃ n26 : Nat, ∃ n27 : Nat, ∃ i28 : Int, r = .returned (.tuple #[.slice A25 n26 n27, .int .i64 i28]) ∧ (Go.Sx.Fr S w0 w9 ∧ Go.Sx.Mild [g24, g17, g3] w8 w9) ∧ 
  ((¬ i28 = (0 : Int) →
  (∀ w10 : World, Go.Sx.Fr S w0 w10 → Go.Sx.Fr (fun b => b ∈ [g3]) w9 w10 → R (.returned (.tuple #[.agg #[.int .i64 (0 : Int), .int .i64 (0 : Int), .int .i64 (0 : Int), .int .i64 (0 : Int), .int .i64 (0 : Int), .int .i64 (0 : Int), .slice none 0 0], .int .i64 (2 : Int)])) w10)) ∧
  (i28 = (0 : Int) →
  (∃ s29 : ByteArray, (convert 45 9 (.slice A25 n26 n27)).run Try.prog w9 = .ok (.string s29) w9 ∧
   (∃ s30 : ByteArray, (convert 45 9 (.slice A0 n1 n2)).run Try.prog w9 = .ok (.string s30) w9 ∧
   ((((s29).toList == (s30).toList) = false →
   (∀ w10 : World, Go.Sx.Fr S w0 w10 → Go.Sx.Fr (fun b => b ∈ [g3]) w9 w10 → R (.returned (.tuple #[.agg #[.int .i64 (0 : Int), .int .i64 (0 : Int), .int .i64 (0 : Int), .int .i64 (0 : Int), .int .i64 (0 : Int), .int .i64 (0 : Int), .slice none 0 0], .int .i64 (2 : Int)])) w10)) ∧
   (((s29).toList == (s30).toList) = true →
   (∀ w10 : World, Go.Sx.Fr S w0 w10 → Go.Sx.Fr (fun b => b ∈ [g3]) w9 w10 → R (.returned (.tuple #[.agg #[.int .i64 (IntKind.i64.wrap i7), .int .i64 (IntKind.i64.wrap i10), .int .i64 (IntKind.i64.wrap i13), .int .i64 i18, .int .i64 i19, .int .i64 i20, .slice A21 n22 n23], .int .i64 (0 : Int)])) w10)))))))))) ∧
  (∀ g21 : Nat, w0.heap.size ≤ g21 → (∀ w7 : World, Go.Sx.Fr S w0 w7 → Below w6.heap.size w6 w7 → w6.heap.size ≤ g21 → w7.heap[g21]? = some (.cells #[.int .i64 (0 : Int), .int .i64 (0 : Int), .int .i64 (0 : Int), .int .i64 (0 : Int), .int .i64 (0 : Int), .int .i64 (0 : Int), .slice none 0 0] 47 (0, 0)) → w7.heap[g17]? = some (.cells #[] 5 (0, 0)) → 
  ∃ w8 : World, ∃ A22 : Option Addr, ∃ n23 : Nat, ∃ n24 : Nat, (Builtin.append_ #[45, 45] 45 #[(.slice (some ⟨g17, 0, none⟩) 0 0), (.slice A14 n15 n16)]).run Try.prog w7 = .ok (.slice A22 n23 n24) w8 ∧ (Go.Sx.Fr S w0 w8 ∧ Go.Sx.Mild [g21, g17, g3] w7 w8) ∧ Go.Sx.Keep w1.heap.size [] w7 w8 ∧ 
  (∀ w9 : World, Go.Sx.Fr S w0 w9 → Go.Sx.Fr (fun b => b ∈ [g21]) w8 w9 → 
  Calls Try.prog 72 #[(.agg #[.int .i64 (IntKind.i64.wrap i7), .int .i64 (IntKind.i64.wrap i10), .int .i64 (IntKind.i64.wrap i13), .int .i64 i18, .int .i64 i19, .int .i64 i20, .slice A22 n23 n24])] w9 fun r w10 => ∃ A25 : Option Addr, ∃ n26 : Nat, ∃ n27 : Nat, ∃ i28 : Int, r = .returned (.tuple #[.slice A25 n26 n27, .int .i64 i28]) ∧ (Go.Sx.Fr S w0 w10 ∧ Go.Sx.Mild [g21, g17, g3] w9 w10) ∧ 
  ((¬ i28 = (0 : Int) →
  (∀ w11 : World, Go.Sx.Fr S w0 w11 → Go.Sx.Fr (fun b => b ∈ [g3]) w10 w11 → R (.returned (.tuple #[.agg #[.int .i64 (0 : Int), .int .i64 (0 : Int), .int .i64 (0 : Int), .int .i64 (0 : Int), .int .i64 (0 : Int), .int .i64 (0 : Int), .slice none 0 0], .int .i64 (2 : Int)])) w11)) ∧
  (i28 = (0 : Int) →
  (∃ s29 : ByteArray, (convert 45 9 (.slice A25 n26 n27)).run Try.prog w10 = .ok (.string s29) w10 ∧
   (∃ s30 : ByteArray, (convert 45 9 (.slice A0 n1 n2)).run Try.prog w10 = .ok (.string s30) w10 ∧
   ((((s29).toList == (s30).toList) = false →
   (∀ w11 : World, Go.Sx.Fr S w0 w11 → Go.Sx.Fr (fun b => b ∈ [g3]) w10 w11 → R (.returned (.tuple #[.agg #[.int .i64 (0 : Int), .int .i64 (0 : Int), .int .i64 (0 : Int), .int .i64 (0 : Int), .int .i64 (0 : Int), .int .i64 (0 : Int), .slice none 0 0], .int .i64 (2 : Int)])) w11)) ∧
   (((s29).toList == (s30).toList) = true →
   (∀ w11 : World, Go.Sx.Fr S w0 w11 → Go.Sx.Fr (fun b => b ∈ [g3]) w10 w11 → R (.returned (.tuple #[.agg #[.int .i64 (IntKind.i64.wrap i7), .int .i64 (IntKind.i64.wrap i10), .int .i64 (IntKind.i64.wrap i13), .int .i64 i18, .int .i64 i19, .int .i64 i20, .slice A22 n23 n24], .int .i64 (0 : Int)])) w11))))))))))))) ∧
  (∀ g20 : Nat, w0.heap.size ≤ g20 → (∀ w6 : World, Go.Sx.Fr S w0 w6 → Below w5.heap.size w5 w6 → w5.heap.size ≤ g20 → w6.heap[g20]? = some (.cells #[.int .i64 (0 : Int), .int .i64 (0 : Int), .int .i64 (0 : Int), .int .i64 (0 : Int), .int .i64 (0 : Int), .int .i64 (0 : Int), .slice none 0 0] 47 (0, 0)) → 
  Calls Try.prog 79 #[(.slice A0 n1 n2), (.int .i64 (11 : Int))] w6 fun r w7 => ∃ i21 : Int, r = .returned (.int .i64 i21) ∧ (Go.Sx.Fr S w0 w7 ∧ Go.Sx.Mild [g20, g17, g3] w6 w7) ∧ Go.Sx.Keep w1.heap.size [] w6 w7 ∧ 
  (w7.heap[g17]? = some (.cells #[] 5 (0, 0)) → 
  ∃ w8 : World, ∃ A22 : Option Addr, ∃ n23 : Nat, ∃ n24 : Nat, (Builtin.append_ #[45, 45] 45 #[(.slice (some ⟨g17, 0, none⟩) 0 0), (.slice A14 n15 n16)]).run Try.prog w7 = .ok (.slice A22 n23 n24) w8 ∧ (Go.Sx.Fr S w0 w8 ∧ Go.Sx.Mild [g20, g17, g3] w7 w8) ∧ Go.Sx.Keep w1.heap.size [] w7 w8 ∧ 
  (∀ w9 : World, Go.Sx.Fr S w0 w9 → Go.Sx.Fr (fun b => b ∈ [g20]) w8 w9 → 
  Calls Try.prog 72 #[(.agg #[.int .i64 (IntKind.i64.wrap i7), .int .i64 (IntKind.i64.wrap i10), .int .i64 (IntKind.i64.wrap i13), .int .i64 i18, .int .i64 i19, .int .i64 i21, .slice A22 n23 n24])] w9 fun r w10 => ∃ A25 : Option Addr, ∃ n26 : Nat, ∃ n27 : Nat, ∃ i28 : Int, r = .returned (.tuple #[.slice A25 n26 n27, .int .i64 i28]) ∧ (Go.Sx.Fr S w0 w10 ∧ Go.Sx.Mild [g20, g17, g3] w9 w10) ∧ 
  ((¬ i28 = (0 : Int) →
  (∀ w11 : World, Go.Sx.Fr S w0 w11 → Go.Sx.Fr (fun b => b ∈ [g3]) w10 w11 → R (.returned (.tuple #[.agg #[.int .i64 (0 : Int), .int .i64 (0 : Int), .int .i64 (0 : Int), .int .i64 (0 : Int), .int .i64 (0 : Int), .int .i64 (0 : Int), .slice none 0 0], .int .i64 (2 : Int)])) w11)) ∧
  (i28 = (0 : Int) →
  (∃ s29 : ByteArray, (convert 45 9 (.slice A25 n26 n27)).run Try.prog w10 = .ok (.string s29) w10 ∧
   (∃ s30 : ByteArray, (convert 45 9 (.slice A0 n1 n2)).run Try.prog w10 = .ok (.string s30) w10 ∧
   ((((s29).toList == (s30).toList) = false →
   (∀ w11 : World, Go.Sx.Fr S w0 w11 → Go.Sx.Fr (fun b => b ∈ [g3]) w10 w11 → R (.returned (.tuple #[.agg #[.int .i64 (0 : Int), .int .i64 (0 : Int), .int .i64 (0 : Int), .int .i64 (0 : Int), .int .i64 (0 : Int), .int .i64 (0 : Int), .slice none 0 0], .int .i64 (2 : Int)])) w11)) ∧
   (((s29).toList == (s30).toList) = true →
   (∀ w11 : World, Go.Sx.Fr S w0 w11 → Go.Sx.Fr (fun b => b ∈ [g3]) w10 w11 → R (.returned (.tuple #[.agg #[.int .i64 (IntKind.i64.wrap i7), .int .i64 (IntKind.i64.wrap i10), .int .i64 (IntKind.i64.wrap i13), .int .i64 i18, .int .i64 i19, .int .i64 i21, .slice A22 n23 n24], .int .i64 (0 : Int)])) w11)))))))))))))) ∧
  (∀ g19 : Nat, w0.heap.size ≤ g19 → (∀ w5 : World, Go.Sx.Fr S w0 w5 → Below w4.heap.size w4 w5 → w4.heap.size ≤ g19 → w5.heap[g19]? = some (.cells #[.int .i64 (0 : Int), .int .i64 (0 : Int), .int .i64 (0 : Int), .int .i64 (0 : Int), .int .i64 (0 : Int), .int .i64 (0 : Int), .slice none 0 0] 47 (0, 0)) → 
  Calls Try.prog 79 #[(.slice A0 n1 n2), (.int .i64 (7 : Int))] w5 fun r w6 => ∃ i20 : Int, r = .returned (.int .i64 i20) ∧ (Go.Sx.Fr S w0 w6 ∧ Go.Sx.Mild [g19, g17, g3] w5 w6) ∧ Go.Sx.Keep w1.heap.size [] w5 w6 ∧ 
  (
  Calls Try.prog 79 #[(.slice A0 n1 n2), (.int .i64 (11 : Int))] w6 fun r w7 => ∃ i21 : Int, r = .returned (.int .i64 i21) ∧ (Go.Sx.Fr S w0 w7 ∧ Go.Sx.Mild [g19, g17, g3] w6 w7) ∧ Go.Sx.Keep w1.heap.size [] w6 w7 ∧ 
  (w7.heap[g17]? = some (.cells #[] 5 (0, 0)) → 
  ∃ w8 : World, ∃ A22 : Option Addr, ∃ n23 : Nat, ∃ n24 : Nat, (Builtin.append_ #[45, 45] 45 #[(.slice (some ⟨g17, 0, none⟩) 0 0), (.slice A14 n15 n16)]).run Try.prog w7 = .ok (.slice A22 n23 n24) w8 ∧ (Go.Sx.Fr S w0 w8 ∧ Go.Sx.Mild [g19, g17, g3] w7 w8) ∧ Go.Sx.Keep w1.heap.size [] w7 w8 ∧ 
  (∀ w9 : World, Go.Sx.Fr S w0 w9 → Go.Sx.Fr (fun b => b ∈ [g19]) w8 w9 → 
  Calls Try.prog 72 #[(.agg #[.int .i64 (IntKind.i64.wrap i7), .int .i64 (IntKind.i64.wrap i10), .int .i64 (IntKind.i64.wrap i13), .int .i64 i18, .int .i64 i20, .int .i64 i21, .slice A22 n23 n24])] w9 fun r w10 => ∃ A25 : Option Addr, ∃ n26 : Nat, ∃ n27 : Nat, ∃ i28 : Int, r = .returned (.tuple #[.slice A25 n26 n27, .int .i64 i28]) ∧ (Go.Sx.Fr S w0 w10 ∧ Go.Sx.Mild [g19, g17, g3] w9 w10) ∧ 
  ((¬ i28 = (0 : Int) →
  (∀ w11 : World, Go.Sx.Fr S w0 w11 → Go.Sx.Fr (fun b => b ∈ [g3]) w10 w11 → R (.returned (.tuple #[.agg #[.int .i64 (0 : Int), .int .i64 (0 : Int), .int .i64 (0 : Int), .int .i64 (0 : Int), .int .i64 (0 : Int), .int .i64 (0 : Int), .slice none 0 0], .int .i64 (2 : Int)])) w11)) ∧
  (i28 = (0 : Int) →
  (∃ s29 : ByteArray, (convert 45 9 (.slice A25 n26 n27)).run Try.prog w10 = .ok (.string s29) w10 ∧
   (∃ s30 : ByteArray, (convert 45 9 (.slice A0 n1 n2)).run Try.prog w10 = .ok (.string s30) w10 ∧
   ((((s29).toList == (s30).toList) = false →
   (∀ w11 : World, Go.Sx.Fr S w0 w11 → Go.Sx.Fr (fun b => b ∈ [g3]) w10 w11 → R (.returned (.tuple #[.agg #[.int .i64 (0 : Int), .int .i64 (0 : Int), .int .i64 (0 : Int), .int .i64 (0 : Int), .int .i64 (0 : Int), .int .i64 (0 : Int), .slice none 0 0], .int .i64 (2 : Int)])) w11)) ∧
   (((s29).toList == (s30).toList) = true →
   (∀ w11 : World, Go.Sx.Fr S w0 w11 → Go.Sx.Fr (fun b => b ∈ [g3]) w10 w11 → R (.returned (.tuple #[.agg #[.int .i64 (IntKind.i64.wrap i7), .int .i64 (IntKind.i64.wrap i10), .int .i64 (IntKind.i64.wrap i13), .int .i64 i18, .int .i64 i20, .int .i64 i21, .slice A22 n23 n24], .int .i64 (0 : Int)])) w11))))))))))))))) ∧
  (∀ g18 : Nat, w0.heap.size ≤ g18 → (∀ w3 : World, Go.Sx.Fr S w0 w3 → Below w2.heap.size w2 w3 → w2.heap.size ≤ g18 → w3.heap[g18]? = some (.cells #[.int .i64 (0 : Int), .int .i64 (0 : Int), .int .i64 (0 : Int), .int .i64 (0 : Int), .int .i64 (0 : Int), .int .i64 (0 : Int), .slice none 0 0] 47 (0, 0)) → w2.heap.size ≤ g17 → w3.heap[g17]? = some (.cells #[] 5 (0, 0)) → 
  Calls Try.prog 79 #[(.slice A0 n1 n2), (.int .i64 (3 : Int))] w3 fun r w4 => ∃ i19 : Int, r = .returned (.int .i64 i19) ∧ (Go.Sx.Fr S w0 w4 ∧ Go.Sx.Mild [g18, g17, g3] w3 w4) ∧ Go.Sx.Keep w1.heap.size [] w3 w4 ∧ 
  (
  Calls Try.prog 79 #[(.slice A0 n1 n2), (.int .i64 (7 : Int))] w4 fun r w5 => ∃ i20 : Int, r = .returned (.int .i64 i20) ∧ (Go.Sx.Fr S w0 w5 ∧ Go.Sx.Mild [g18, g17, g3] w4 w5) ∧ Go.Sx.Keep w1.heap.size [] w4 w5 ∧ 
  (
  Calls Try.prog 79 #[(.slice A0 n1 n2), (.int .i64 (11 : Int))] w5 fun r w6 => ∃ i21 : Int, r = .returned (.int .i64 i21) ∧ (Go.Sx.Fr S w0 w6 ∧ Go.Sx.Mild [g18, g17, g3] w5 w6) ∧ Go.Sx.Keep w1.heap.size [] w5 w6 ∧ 
  (w6.heap[g17]? = some (.cells #[] 5 (0, 0)) → 
  ∃ w7 : World, ∃ A22 : Option Addr, ∃ n23 : Nat, ∃ n24 : Nat, (Builtin.append_ #[45, 45] 45 #[(.slice (some ⟨g17, 0, none⟩) 0 0), (.slice A14 n15 n16)]).run Try.prog w6 = .ok (.slice A22 n23 n24) w7 ∧ (Go.Sx.Fr S w0 w7 ∧ Go.Sx.Mild [g18, g17, g3] w6 w7) ∧ Go.Sx.Keep w1.heap.size [] w6 w7 ∧ 
  (∀ w8 : World, Go.Sx.Fr S w0 w8 → Go.Sx.Fr (fun b => b ∈ [g18]) w7 w8 → 
  Calls Try.prog 72 #[(.agg #[.int .i64 (IntKind.i64.wrap i7), .int .i64 (IntKind.i64.wrap i10), .int .i64 (IntKind.i64.wrap i13), .int .i64 i19, .int .i64 i20, .int .i64 i21, .slice A22 n23 n24])] w8 fun r w9 => ∃ A25 : Option Addr, ∃ n26 : Nat, ∃ n27 : Nat, ∃ i28 : Int, r = .returned (.tuple #[.slice A25 n26 n27, .int .i64 i28]) ∧ (Go.Sx.Fr S w0 w9 ∧ Go.Sx.Mild [g18, g17, g3] w8 w9) ∧ 
  ((¬ i28 = (0 : Int) →
  (∀ w10 : World, Go.Sx.Fr S w0 w10 → Go.Sx.Fr (fun b => b ∈ [g3]) w9 w10 → R (.returned (.tuple #[.agg #[.int .i64 (0 : Int), .int .i64 (0 : Int), .int .i64 (0 : Int), .int .i64 (0 : Int), .int .i64 (0 : Int), .int .i64 (0 : Int), .slice none 0 0], .int .i64 (2 : Int)])) w10)) ∧
  (i28 = (0 : Int) →
  (∃ s29 : ByteArray, (convert 45 9 (.slice A25 n26 n27)).run Try.prog w9 = .ok (.string s29) w9 ∧
   (∃ s30 : ByteArray, (convert 45 9 (.slice A0 n1 n2)).run Try.prog w9 = .ok (.string s30) w9 ∧
   ((((s29).toList == (s30).toList) = false →
   (∀ w10 : World, Go.Sx.Fr S w0 w10 → Go.Sx.Fr (fun b => b ∈ [g3]) w9 w10 → R (.returned (.tuple #[.agg #[.int .i64 (0 : Int), .int .i64 (0 : Int), .int .i64 (0 : Int), .int .i64 (0 : Int), .int .i64 (0 : Int), .int .i64 (0 : Int), .slice none 0 0], .int .i64 (2 : Int)])) w10)) ∧
   (((s29).toList == (s30).toList) = true →
   (∀ w10 : World, Go.Sx.Fr S w0 w10 → Go.Sx.Fr (fun b => b ∈ [g3]) w9 w10 → R (.returned (.tuple #[.agg #[.int .i64 (IntKind.i64.wrap i7), .int .i64 (IntKind.i64.wrap i10), .int .i64 (IntKind.i64.wrap i13), .int .i64 i19, .int .i64 i20, .int .i64 i21, .slice A22 n23 n24], .int .i64 (0 : Int)])) w10))))))))))))))) ∧
  (∀ g17 : Nat, w0.heap.size ≤ g17 → (((∀ w3 : World, Go.Sx.Fr S w0 w3 → Below w2.heap.size w2 w3 → w2.heap.size ≤ g17 → w3.heap[g17]? = some (.cells #[.int .i64 (0 : Int), .int .i64 (0 : Int), .int .i64 (0 : Int), .int .i64 (0 : Int), .int .i64 (0 : Int), .int .i64 (0 : Int), .slice none 0 0] 47 (0, 0)) → 
  Calls Try.prog 79 #[(.slice A0 n1 n2), (.int .i64 (3 : Int))] w3 fun r w4 => ∃ i18 : Int, r = .returned (.int .i64 i18) ∧ (Go.Sx.Fr S w0 w4 ∧ Go.Sx.Mild [g17, g3] w3 w4) ∧ Go.Sx.Keep w1.heap.size [] w3 w4 ∧ 
  (((
  Calls Try.prog 79 #[(.slice A0 n1 n2), (.int .i64 (7 : Int))] w4 fun r w5 => ∃ i19 : Int, r = .returned (.int .i64 i19) ∧ (Go.Sx.Fr S w0 w5 ∧ Go.Sx.Mild [g17, g3] w4 w5) ∧ Go.Sx.Keep w1.heap.size [] w4 w5 ∧ 
  (((
  Calls Try.prog 79 #[(.slice A0 n1 n2), (.int .i64 (11 : Int))] w5 fun r w6 => ∃ i20 : Int, r = .returned (.int .i64 i20) ∧ (Go.Sx.Fr S w0 w6 ∧ Go.Sx.Mild [g17, g3] w5 w6) ∧ Go.Sx.Keep w1.heap.size [] w5 w6 ∧ 
  ∀ g21 : Nat, w0.heap.size ≤ g21 → (∀ w7 : World, Go.Sx.Fr S w0 w7 → Below w6.heap.size w6 w7 → w6.heap.size ≤ g21 → w7.heap[g21]? = some (.cells #[] 5 (0, 0)) → 
  ∃ w8 : World, ∃ A22 : Option Addr, ∃ n23 : Nat, ∃ n24 : Nat, (Builtin.append_ #[45, 45] 45 #[(.slice (some ⟨g21, 0, none⟩) 0 0), (.slice A14 n15 n16)]).run Try.prog w7 = .ok (.slice A22 n23 n24) w8 ∧ (Go.Sx.Fr S w0 w8 ∧ Go.Sx.Mild [g21, g17, g3] w7 w8) ∧ Go.Sx.Keep w1.heap.size [] w7 w8 ∧ 
  (∀ w9 : World, Go.Sx.Fr S w0 w9 → Go.Sx.Fr (fun b => b ∈ [g17]) w8 w9 → 
  Calls Try.prog 72 #[(.agg #[.int .i64 (IntKind.i64.wrap i7), .int .i64 (IntKind.i64.wrap i10), .int .i64 (IntKind.i64.wrap i13), .int .i64 i18, .int .i64 i19, .int .i64 i20, .slice A22 n23 n24])] w9 fun r w10 => ∃ A25 : Option Addr, ∃ n26 : Nat, ∃ n27 : Nat, ∃ i28 : Int, r = .returned (.tuple #[.slice A25 n26 n27, .int .i64 i28]) ∧ (Go.Sx.Fr S w0 w10 ∧ Go.Sx.Mild [g21, g17, g3] w9 w10) ∧ 
  ((¬ i28 = (0 : Int) →
  (∀ w11 : World, Go.Sx.Fr S w0 w11 → Go.Sx.Fr (fun b => b ∈ [g3]) w10 w11 → R (.returned (.tuple #[.agg #[.int .i64 (0 : Int), .int .i64 (0 : Int), .int .i64 (0 : Int), .int .i64 (0 : Int), .int .i64 (0 : Int), .int .i64 (0 : Int), .slice none 0 0], .int .i64 (2 : Int)])) w11)) ∧
  (i28 = (0 : Int) →
  (∃ s29 : ByteArray, (convert 45 9 (.slice A25 n26 n27)).run Try.prog w10 = .ok (.string s29) w10 ∧
   (∃ s30 : ByteArray, (convert 45 9 (.slice A0 n1 n2)).run Try.prog w10 = .ok (.string s30) w10 ∧
   ((((s29).toList == (s30).toList) = false →
   (∀ w11 : World, Go.Sx.Fr S w0 w11 → Go.Sx.Fr (fun b => b ∈ [g3]) w10 w11 → R (.returned (.tuple #[.agg #[.int .i64 (0 : Int), .int .i64 (0 : Int), .int .i64 (0 : Int), .int .i64 (0 : Int), .int .i64 (0 : Int), .int .i64 (0 : Int), .slice none 0 0], .int .i64 (2 : Int)])) w11)) ∧
   (((s29).toList == (s30).toList) = true →
   (∀ w11 : World, Go.Sx.Fr S w0 w11 → Go.Sx.Fr (fun b => b ∈ [g3]) w10 w11 → R (.returned (.tuple #[.agg #[.int .i64 (IntKind.i64.wrap i7), .int .i64 (IntKind.i64.wrap i10), .int .i64 (IntKind.i64.wrap i13), .int .i64 i18, .int .i64 i19, .int .i64 i20, .slice A22 n23 n24], .int .i64 (0 : Int)])) w11))))))))))) ∧
  (∀ g20 : Nat, w0.heap.size ≤ g20 → (∀ w6 : World, Go.Sx.Fr S w0 w6 → Below w5.heap.size w5 w6 → w5.heap.size ≤ g20 → w6.heap[g20]? = some (.cells #[] 5 (0, 0)) → 
  Calls Try.prog 79 #[(.slice A0 n1 n2), (.int .i64 (11 : Int))] w6 fun r w7 => ∃ i21 : Int, r = .returned (.int .i64 i21) ∧ (Go.Sx.Fr S w0 w7 ∧ Go.Sx.Mild [g20, g17, g3] w6 w7) ∧ Go.Sx.Keep w1.heap.size [] w6 w7 ∧ 
  (w7.heap[g20]? = some (.cells #[] 5 (0, 0)) → 
  ∃ w8 : World, ∃ A22 : Option Addr, ∃ n23 : Nat, ∃ n24 : Nat, (Builtin.append_ #[45, 45] 45 #[(.slice (some ⟨g20, 0, none⟩) 0 0), (.slice A14 n15 n16)]).run Try.prog w7 = .ok (.slice A22 n23 n24) w8 ∧ (Go.Sx.Fr S w0 w8 ∧ Go.Sx.Mild [g20, g17, g3] w7 w8) ∧ Go.Sx.Keep w1.heap.size [] w7 w8 ∧ 
  (∀ w9 : World, Go.Sx.Fr S w0 w9 → Go.Sx.Fr (fun b => b ∈ [g17]) w8 w9 → 
  Calls Try.prog 72 #[(.agg #[.int .i64 (IntKind.i64.wrap i7), .int .i64 (IntKind.i64.wrap i10), .int .i64 (IntKind.i64.wrap i13), .int .i64 i18, .int .i64 i19, .int .i64 i21, .slice A22 n23 n24])] w9 fun r w10 => ∃ A25 : Option Addr, ∃ n26 : Nat, ∃ n27 : Nat, ∃ i28 : Int, r = .returned (.tuple #[.slice A25 n26 n27, .int .i64 i28]) ∧ (Go.Sx.Fr S w0 w10 ∧ Go.Sx.Mild [g20, g17, g3] w9 w10) ∧ 
  ((¬ i28 = (0 : Int) →
  (∀ w11 : World, Go.Sx.Fr S w0 w11 → Go.Sx.Fr (fun b => b ∈ [g3]) w10 w11 → R (.returned (.tuple #[.agg #[.int .i64 (0 : Int), .int .i64 (0 : Int), .int .i64 (0 : Int), .int .i64 (0 : Int), .int .i64 (0 : Int), .int .i64 (0 : Int), .slice none 0 0], .int .i64 (2 : Int)])) w11)) ∧
  (i28 = (0 : Int) →
  (∃ s29 : ByteArray, (convert 45 9 (.slice A25 n26 n27)).run Try.prog w10 = .ok (.string s29) w10 ∧
   (∃ s30 : ByteArray, (convert 45 9 (.slice A0 n1 n2)).run Try.prog w10 = .ok (.string s30) w10 ∧
   ((((s29).toList == (s30).toList) = false →
   (∀ w11 : World, Go.Sx.Fr S w0 w11 → Go.Sx.Fr (fun b => b ∈ [g3]) w10 w11 → R (.returned (.tuple #[.agg #[.int .i64 (0 : Int), .int .i64 (0 : Int), .int .i64 (0 : Int), .int .i64 (0 : Int), .int .i64 (0 : Int), .int .i64 (0 : Int), .slice none 0 0], .int .i64 (2 : Int)])) w11)) ∧
   (((s29).toList == (s30).toList) = true →
   (∀ w11 : World, Go.Sx.Fr S w0 w11 → Go.Sx.Fr (fun b => b ∈ [g3]) w10 w11 → R (.returned (.tuple #[.agg #[.int .i64 (IntKind.i64.wrap i7), .int .i64 (IntKind.i64.wrap i10), .int .i64 (IntKind.i64.wrap i13), .int .i64 i18, .int .i64 i19, .int .i64 i21, .slice A22 n23 n24], .int .i64 (0 : Int)])) w11)))))))))))))) ∧
  (∀ g19 : Nat, w0.heap.size ≤ g19 → (∀ w5 : World, Go.Sx.Fr S w0 w5 → Below w4.heap.size w4 w5 → w4.heap.size ≤ g19 → w5.heap[g19]? = some (.cells #[] 5 (0, 0)) → 
  Calls Try.prog 79 #[(.slice A0 n1 n2), (.int .i64 (7 : Int))] w5 fun r w6 => ∃ i20 : Int, r = .returned (.int .i64 i20) ∧ (Go.Sx.Fr S w0 w6 ∧ Go.Sx.Mild [g19, g17, g3] w5 w6) ∧ Go.Sx.Keep w1.heap.size [] w5 w6 ∧ 
  (
  Calls Try.prog 79 #[(.slice A0 n1 n2), (.int .i64 (11 : Int))] w6 fun r w7 => ∃ i21 : Int, r = .returned (.int .i64 i21) ∧ (Go.Sx.Fr S w0 w7 ∧ Go.Sx.Mild [g19, g17, g3] w6 w7) ∧ Go.Sx.Keep w1.heap.size [] w6 w7 ∧ 
  (w7.heap[g19]? = some (.cells #[] 5 (0, 0)) → 
  ∃ w8 : World, ∃ A22 : Option Addr, ∃ n23 : Nat, ∃ n24 : Nat, (Builtin.append_ #[45, 45] 45 #[(.slice (some ⟨g19, 0, none⟩) 0 0), (.slice A14 n15 n16)]).run Try.prog w7 = .ok (.slice A22 n23 n24) w8 ∧ (Go.Sx.Fr S w0 w8 ∧ Go.Sx.Mild [g19, g17, g3] w7 w8) ∧ Go.Sx.Keep w1.heap.size [] w7 w8 ∧ 
  (∀ w9 : World, Go.Sx.Fr S w0 w9 → Go.Sx.Fr (fun b => b ∈ [g17]) w8 w9 → 
  Calls Try.prog 72 #[(.agg #[.int .i64 (IntKind.i64.wrap i7), .int .i64 (IntKind.i64.wrap i10), .int .i64 (IntKind.i64.wrap i13), .int .i64 i18, .int .i64 i20, .int .i64 i21, .slice A22 n23 n24])] w9 fun r w10 => ∃ A25 : Option Addr, ∃ n26 : Nat, ∃ n27 : Nat, ∃ i28 : Int, r = .returned (.tuple #[.slice A25 n26 n27, .int .i64 i28]) ∧ (Go.Sx.Fr S w0 w10 ∧ Go.Sx.Mild [g19, g17, g3] w9 w10) ∧ 
  ((¬ i28 = (0 : Int) →
  (∀ w11 : World, Go.Sx.Fr S w0 w11 → Go.Sx.Fr (fun b => b ∈ [g3]) w10 w11 → R (.returned (.tuple #[.agg #[.int .i64 (0 : Int), .int .i64 (0 : Int), .int .i64 (0 : Int), .int .i64 (0 : Int), .int .i64 (0 : Int), .int .i64 (0 : Int), .slice none 0 0], .int .i64 (2 : Int)])) w11)) ∧
  (i28 = (0 : Int) →
  (∃ s29 : ByteArray, (convert 45 9 (.slice A25 n26 n27)).run Try.prog w10 = .ok (.string s29) w10 ∧
   (∃ s30 : ByteArray, (convert 45 9 (.slice A0 n1 n2)).run Try.prog w10 = .ok (.string s30) w10 ∧
   ((((s29).toList == (s30).toList) = false →
   (∀ w11 : World, Go.Sx.Fr S w0 w11 → Go.Sx.Fr (fun b => b ∈ [g3]) w10 w11 → R (.returned (.tuple #[.agg #[.int .i64 (0 : Int), .int .i64 (0 : Int), .int .i64 (0 : Int), .int .i64 (0 : Int), .int .i64 (0 : Int), .int .i64 (0 : Int), .slice none 0 0], .int .i64 (2 : Int)])) w11)) ∧
   (((s29).toList == (s30).toList) = true →
   (∀ w11 : World, Go.Sx.Fr S w0 w11 → Go.Sx.Fr (fun b => b ∈ [g3]) w10 w11 → R (.returned (.tuple #[.agg #[.int .i64 (IntKind.i64.wrap i7), .int .i64 (IntKind.i64.wrap i10), .int .i64 (IntKind.i64.wrap i13), .int .i64 i18, .int .i64 i20, .int .i64 i21, .slice A22 n23 n24], .int .i64 (0 : Int)])) w11))))))))))))))) ∧
  (∀ g18 : Nat, w0.heap.size ≤ g18 → (∀ w3 : World, Go.Sx.Fr S w0 w3 → Below w2.heap.size w2 w3 → w2.heap.size ≤ g18 → w3.heap[g18]? = some (.cells #[] 5 (0, 0)) → w2.heap.size ≤ g17 → w3.heap[g17]? = some (.cells #[.int .i64 (0 : Int), .int .i64 (0 : Int), .int .i64 (0 : Int), .int .i64 (0 : Int), .int .i64 (0 : Int), .int .i64 (0 : Int), .slice none 0 0] 47 (0, 0)) → 
  Calls Try.prog 79 #[(.slice A0 n1 n2), (.int .i64 (3 : Int))] w3 fun r w4 => ∃ i19 : Int, r = .returned (.int .i64 i19) ∧ (Go.Sx.Fr S w0 w4 ∧ Go.Sx.Mild [g18, g17, g3] w3 w4) ∧ Go.Sx.Keep w1.heap.size [] w3 w4 ∧ 
  (
  Calls Try.prog 79 #[(.slice A0 n1 n2), (.int .i64 (7 : Int))] w4 fun r w5 => ∃ i20 : Int, r = .returned (.int .i64 i20) ∧ (Go.Sx.Fr S w0 w5 ∧ Go.Sx.Mild [g18, g17, g3] w4 w5) ∧ Go.Sx.Keep w1.heap.size [] w4 w5 ∧ 
  (
  Calls Try.prog 79 #[(.slice A0 n1 n2), (.int .i64 (11 : Int))] w5 fun r w6 => ∃ i21 : Int, r = .returned (.int .i64 i21) ∧ (Go.Sx.Fr S w0 w6 ∧ Go.Sx.Mild [g18, g17, g3] w5 w6) ∧ Go.Sx.Keep w1.heap.size [] w5 w6 ∧ 
  (w6.heap[g18]? = some (.cells #[] 5 (0, 0)) → 
  ∃ w7 : World, ∃ A22 : Option Addr, ∃ n23 : Nat, ∃ n24 : Nat, (Builtin.append_ #[45, 45] 45 #[(.slice (some ⟨g18, 0, none⟩) 0 0), (.slice A14 n15 n16)]).run Try.prog w6 = .ok (.slice A22 n23 n24) w7 ∧ (Go.Sx.Fr S w0 w7 ∧ Go.Sx.Mild [g18, g17, g3] w6 w7) ∧ Go.Sx.Keep w1.heap.size [] w6 w7 ∧ 
  (∀ w8 : World, Go.Sx.Fr S w0 w8 → Go.Sx.Fr (fun b => b ∈ [g17]) w7 w8 → 
  Calls Try.prog 72 #[(.agg #[.int .i64 (IntKind.i64.wrap i7), .int .i64 (IntKind.i64.wrap i10), .int .i64 (IntKind.i64.wrap i13), .int .i64 i19, .int .i64 i20, .int .i64 i21, .slice A22 n23 n24])] w8 fun r w9 => ∃ A25 : Option Addr, ∃ n26 : Nat, ∃ n27 : Nat, ∃ i28 : Int, r = .returned (.tuple #[.slice A25 n26 n27, .int .i64 i28]) ∧ (Go.Sx.Fr S w0 w9 ∧ Go.Sx.Mild [g18, g17, g3] w8 w9) ∧ 
  ((¬ i28 = (0 : Int) →
  (∀ w10 : World, Go.Sx.Fr S w0 w10 → Go.Sx.Fr (fun b => b ∈ [g3]) w9 w10 → R (.returned (.tuple #[.agg #[.int .i64 (0 : Int), .int .i64 (0 : Int), .int .i64 (0 : Int), .int .i64 (0 : Int), .int .i64 (0 : Int), .int .i64 (0 : Int), .slice none 0 0], .int .i64 (2 : Int)])) w10)) ∧
  (i28 = (0 : Int) →
  (∃ s29 : ByteArray, (convert 45 9 (.slice A25 n26 n27)).run Try.prog w9 = .ok (.string s29) w9 ∧
   (∃ s30 : ByteArray, (convert 45 9 (.slice A0 n1 n2)).run Try.prog w9 = .ok (.string s30) w9 ∧
   ((((s29).toList == (s30).toList) = false →
   (∀ w10 : World, Go.Sx.Fr S w0 w10 → Go.Sx.Fr (fun b => b ∈ [g3]) w9 w10 → R (.returned (.tuple #[.agg #[.int .i64 (0 : Int), .int .i64 (0 : Int), .int .i64 (0 : Int), .int .i64 (0 : Int), .int .i64 (0 : Int), .int .i64 (0 : Int), .slice none 0 0], .int .i64 (2 : Int)])) w10)) ∧
   (((s29).toList == (s30).toList) = true →
   (∀ w10 : World, Go.Sx.Fr S w0 w10 → Go.Sx.Fr (fun b => b ∈ [g3]) w9 w10 → R (.returned (.tuple #[.agg #[.int .i64 (IntKind.i64.wrap i7), .int .i64 (IntKind.i64.wrap i10), .int .i64 (IntKind.i64.wrap i13), .int .i64 i19, .int .i64 i20, .int .i64 i21, .slice A22 n23 n24], .int .i64 (0 : Int)])) w10))))))))))))))))))))))))))))) :
    Calls Try.prog 71 #[(.slice A0 n1 n2)] w0 R :=
  Go.Sx.fn_sound0 (P := Try.prog) (S := S) (w0 := w0) (R := R) (ws := []) (an := [⟨999999, [], [], 0⟩]) (f := 71) (n := 3) (xs := [.one (.slice (.var 0) (.var 1) (.var 2))]) (e := [.a A0, .n n1, .n n2]) rfl (by kernel_rfl) (Eq.mp (by kernel_rfl) h)


/-- tracery/frame.four: what is left of it. -/
theorem four_sx (R : Ending → World → Prop) (S : Nat → Prop) (w0 : World) (A0 : Option Addr) (n1 : Nat) (n2 : Nat) (i3 : Int) (h :
 ∀ g4 : Nat, w0.heap.size ≤ g4 → (∀ w1 : World, Go.Sx.Fr S w0 w1 → Below w0.heap.size w0 w1 → w0.heap.size ≤ g4 → w1.heap[g4]? = some (.cells #[.int .u8 (IntKind.u8.wrap (Int.fdiv i3 (2 ^ 24)))] 5 (0, 0)) → 
 ∃ w2 : World, ∃ A5 : Option Addr, ∃ n6 : Nat, ∃ n7 : Nat, (Builtin.append_ #[45, 45] 45 #[(.slice A0 n1 n2), (.slice (some ⟨g4, 0, none⟩) 1 1)]).run Try.prog w1 = .ok (.slice A5 n6 n7) w2 ∧ (Go.Sx.Fr S w0 w2 ∧ Go.Sx.Mild [g4] w1 w2) ∧ 
 ∀ g8 : Nat, w0.heap.size ≤ g8 → (∀ w3 : World, Go.Sx.Fr S w0 w3 → Below w2.heap.size w2 w3 → w2.heap.size ≤ g8 → w3.heap[g8]? = some (.cells #[.int .u8 (IntKind.u8.wrap (Int.fdiv i3 (2 ^ 16)))] 5 (0, 0)) → 
 ∃ w4 : World, ∃ A9 : Option Addr, ∃ n10 : Nat, ∃ n11 : Nat, (Builtin.append_ #[45, 45] 45 #[(.slice A5 n6 n7), (.slice (some ⟨g8, 0, none⟩) 1 1)]).run Try.prog w3 = .ok (.slice A9 n10 n11) w4 ∧ (Go.Sx.Fr S w0 w4 ∧ Go.Sx.Mild [g8, g4] w3 w4) ∧ 
 ∀ g12 : Nat, w0.heap.size ≤ g12 → (∀ w5 : World, Go.Sx.Fr S w0 w5 → Below w4.heap.size w4 w5 → w4.heap.size ≤ g12 → w5.heap[g12]? = some (.cells #[.int .u8 (IntKind.u8.wrap (Int.fdiv i3 (2 ^ 8)))] 5 (0, 0)) → 
 ∃ w6 : World, ∃ A13 : Option Addr, ∃ n14 : Nat, ∃ n15 : Nat, (Builtin.append_ #[45, 45] 45 #[(.slice A9 n10 n11), (.slice (some ⟨g12, 0, none⟩) 1 1)]).run Try.prog w5 = .ok (.slice A13 n14 n15) w6 ∧ (Go.Sx.Fr S w0 w6 ∧ Go.Sx.Mild [g12, g8, g4] w5 w6) ∧ 
 ∀ g16 : Nat, w0.heap.size ≤ g16 → (∀ w7 : World, Go.Sx.Fr S w0 w7 → Below w6.heap.size w6 w7 → w6.heap.size ≤ g16 → w7.heap[g16]? = some (.cells #[.int .u8 (IntKind.u8.wrap (Int.fdiv i3 (2 ^ 0)))] 5 (0, 0)) → 
 ∃ w8 : World, ∃ A17 : Option Addr, ∃ n18 : Nat, ∃ n19 : Nat, (Builtin.append_ #[45, 45] 45 #[(.slice A13 n14 n15), (.slice (some ⟨g16, 0, none⟩) 1 1)]).run Try.prog w7 = .ok (.slice A17 n18 n19) w8 ∧ (Go.Sx.Fr S w0 w8 ∧ Go.Sx.Mild [g16, g12, g8, g4] w7 w8) ∧ 
 (R (.returned (.slice A17 n18 n19)) w8)))))) :
    Calls Try.prog 64 #[(.slice A0 n1 n2), (.int .u32 i3)] w0 R :=
  Go.Sx.fn_sound0 (P := Try.prog) (S := S) (w0 := w0) (R := R) (ws := []) (an := [⟨2, [], [], 6⟩, ⟨999999, [], [], 0⟩]) (f := 64) (n := 4) (xs := [.one (.slice (.var 0) (.var 1) (.var 2)), .one (.int .u32 (.var 3))]) (e := [.a A0, .n n1, .n n2, .i i3]) rfl (by kernel_rfl) (Eq.mp (by kernel_rfl) h)


/-- slices.Reverse[[]byte,byte]: what is left of it. -/
theorem reverse_sx (R : Ending → World → Prop) (S : Nat → Prop) (w0 : World) (A0 : Option Addr) (n1 : Nat) (n2 : Nat) (h :
 (∃ (I0 : Int → Int → World → Prop) (M0 : Int → Int → World → Nat), (I0 (0 : Int) (IntKind.i64.wrap ((n1 : Int) - (1 : Int))) w0) ∧
 ∀ i3 : Int, ∀ i4 : Int, ∀ w1 : World, Go.Sx.Fr S w0 w1 → I0 i3 i4 w1 → 
  ((i3 < i4 →
  (
   ((0 : Int) ≤ i4 ∧ i4 < (n1 : Int) ∧ ∃ p6 : Nat, ∃ o7 : Nat, A0 = some ⟨p6, o7, none⟩ ∧
   (∀ w2 : World, Go.Sx.Fr S w0 w2 → Below w1.heap.size w1 w2 → ∃ i8 : Int, Go.Sx.CellsAt w2 p6 (o7 + (i4).toNat * 1 + 0) [.int .u8 i8] ∧ (p6 < w1.heap.size ∧ p6 ∉ []) ∧ 
   ((0 : Int) ≤ i3 ∧ i3 < (n1 : Int) ∧ ∃ p9 : Nat, ∃ o10 : Nat, A0 = some ⟨p9, o10, none⟩ ∧
   (∃ i11 : Int, Go.Sx.CellsAt w2 p9 (o10 + (i3).toNat * 1 + 0) [.int .u8 i11] ∧ (p9 < w1.heap.size ∧ p9 ∉ []) ∧ 
   ((0 : Int) ≤ i3 ∧ i3 < (n1 : Int) ∧ ∃ p12 : Nat, ∃ o13 : Nat, A0 = some ⟨p12, o13, none⟩ ∧
   (
   ∃ w3 : World, (Instr.storeAt 5 (.pointer (some ⟨p12, o13 + (i3).toNat * 1 + 0, none⟩)) (.int .u8 i8)).run Try.prog w2 = .ok () w3 ∧ (Go.Sx.Fr S w0 w3 ∧ Go.Sx.Mild [] w2 w3) ∧ 
   ((0 : Int) ≤ i4 ∧ i4 < (n1 : Int) ∧ ∃ p14 : Nat, ∃ o15 : Nat, A0 = some ⟨p14, o15, none⟩ ∧
   (
   ∃ w4 : World, (Instr.storeAt 5 (.pointer (some ⟨p14, o15 + (i4).toNat * 1 + 0, none⟩)) (.int .u8 i11)).run Try.prog w3 = .ok () w4 ∧ (Go.Sx.Fr S w0 w4 ∧ Go.Sx.Mild [] w3 w4) ∧ 
   (I0 (IntKind.i64.wrap (i3 + (1 : Int))) (IntKind.i64.wrap (i4 - (1 : Int))) w4 ∧ M0 (IntKind.i64.wrap (i3 + (1 : Int))) (IntKind.i64.wrap (i4 - (1 : Int))) w4 < M0 i3 i4 w1))))))))))) ∧
  (i4 ≤ i3 →
  (R (.returned (.tuple #[])) w1))))) :
    Calls Try.prog 66 #[(.slice A0 n1 n2)] w0 R :=
  Go.Sx.fn_sound0 (P := Try.prog) (S := S) (w0 := w0) (R := R) (ws := []) (an := []) (f := 66) (n := 3) (xs := [.one (.slice (.var 0) (.var 1) (.var 2))]) (e := [.a A0, .n n1, .n n2]) rfl (by kernel_rfl) (Eq.mp (by kernel_rfl) h)


/-- tracery/traceryref15.four: what is left of it. -/
theorem refFour_sx (R : Ending → World → Prop) (S : Nat → Prop) (w0 : World) (A0 : Option Addr) (n1 : Nat) (n2 : Nat) (i3 : Int) (h :
 (¬ (16777216 : Int) = (0 : Int) ∧
 (¬ (65536 : Int) = (0 : Int) ∧
 (¬ (256 : Int) = (0 : Int) ∧
 (¬ (256 : Int) = (0 : Int) ∧
 (¬ (256 : Int) = (0 : Int) ∧
 (¬ (256 : Int) = (0 : Int) ∧
 ∀ g4 : Nat, w0.heap.size ≤ g4 → (∀ w1 : World, Go.Sx.Fr S w0 w1 → Below w0.heap.size w0 w1 → w0.heap.size ≤ g4 → w1.heap[g4]? = some (.cells #[.int .u8 (IntKind.u8.wrap (IntKind.i64.wrap (Int.tdiv i3 (16777216 : Int)))), .int .u8 (IntKind.u8.wrap (Int.tmod (IntKind.i64.wrap (Int.tdiv i3 (65536 : Int))) (256 : Int))), .int .u8 (IntKind.u8.wrap (Int.tmod (IntKind.i64.wrap (Int.tdiv i3 (256 : Int))) (256 : Int))), .int .u8 (IntKind.u8.wrap (Int.tmod i3 (256 : Int)))] 5 (0, 0)) → 
 ∃ w2 : World, ∃ A5 : Option Addr, ∃ n6 : Nat, ∃ n7 : Nat, (Builtin.append_ #[45, 45] 45 #[(.slice A0 n1 n2), (.slice (some ⟨g4, 0, none⟩) 4 4)]).run Try.prog w1 = .ok (.slice A5 n6 n7) w2 ∧ (Go.Sx.Fr S w0 w2 ∧ Go.Sx.Mild [g4] w1 w2) ∧ 
 (R (.returned (.slice A5 n6 n7)) w2))))))))) :
    Calls Try.prog 80 #[(.slice A0 n1 n2), (.int .i64 i3)] w0 R :=
  Go.Sx.fn_sound0 (P := Try.prog) (S := S) (w0 := w0) (R := R) (ws := []) (an := [⟨999999, [], [], 0⟩]) (f := 80) (n := 4) (xs := [.one (.slice (.var 0) (.var 1) (.var 2)), .one (.int .i64 (.var 3))]) (e := [.a A0, .n n1, .n n2, .i i3]) rfl (by kernel_rfl) (Eq.mp (by kernel_rfl) h)


/-- tracery/frame.May$1: what is left of it. -/
theorem within_sx (R : Ending → World → Prop) (S : Nat → Prop) (w0 : World) (i0 : Int) (i1 : Int) (h :
 (((0 : Int) ≤ i0 →
 (R (.returned (.bool (decide (i0 ≤ i1)))) w0)) ∧
 (i0 < (0 : Int) →
 (R (.returned (.bool false)) w0)))) :
    Calls Try.prog 75 #[(.int .i64 i0), (.int .i64 i1)] w0 R :=
  Go.Sx.fn_sound0 (P := Try.prog) (S := S) (w0 := w0) (R := R) (ws := []) (an := []) (f := 75) (n := 2) (xs := [.one (.int .i64 (.var 0)), .one (.int .i64 (.var 1))]) (e := [.i i0, .i i1]) rfl (by kernel_rfl) (Eq.mp (by kernel_rfl) h)


/-- slices.ContainsFunc[[]int,int]: what is left of it. -/
theorem containsFunc_sx (R : Ending → World → Prop) (S : Nat → Prop) (w0 : World) (A0 : Option Addr) (n1 : Nat) (n2 : Nat) (v3 : Value) (h :
 (
 Calls Try.prog 86 #[(.slice A0 n1 n2), (v3)] w0 fun r w1 => ∃ i4 : Int, r = .returned (.int .i64 i4) ∧ (Go.Sx.Fr S w0 w1 ∧ Go.Sx.Mild [] w0 w1) ∧ 
 (R (.returned (.bool (decide ((0 : Int) ≤ i4)))) w1))) :
    Calls Try.prog 76 #[(.slice A0 n1 n2), (v3)] w0 R :=
  Go.Sx.fn_sound0 (P := Try.prog) (S := S) (w0 := w0) (R := R) (ws := []) (an := []) (f := 76) (n := 4) (xs := [.one (.slice (.var 0) (.var 1) (.var 2)), .one (.val 3)]) (e := [.a A0, .n n1, .n n2, .v v3]) rfl (by kernel_rfl) (Eq.mp (by kernel_rfl) h)


/-- tracery/frame.May$2: what is left of it. -/
theorem many_sx (R : Ending → World → Prop) (S : Nat → Prop) (w0 : World) (i0 : Int) (v1 : Value) (h :
 (∃ v2 : Value, (Instr.loadAt 114 (v1)).run Try.prog w0 = .ok (v2) w0 ∧
 (
 ∃ f ar, (do Go.invoke (← Deferred.ofValue (v2) #[(.int .i64 i0), (.int .i64 (1073741824 : Int))]).target (← Deferred.ofValue (v2) #[(.int .i64 i0), (.int .i64 (1073741824 : Int))]).args : Sem Next).run Try.prog w0 = .ok (.enter f ar) w0 ∧ Calls Try.prog f ar w0 fun r w1 => ∃ b3 : Bool, r = .returned (.bool b3) ∧ (Go.Sx.Fr S w0 w1 ∧ Go.Sx.Mild [] w0 w1) ∧ 
 (R (.returned (.bool (!b3))) w1)))) :
    Calls Try.prog 77 #[(.int .i64 i0), (v1)] w0 R :=
  Go.Sx.fn_sound0 (P := Try.prog) (S := S) (w0 := w0) (R := R) (ws := []) (an := []) (f := 77) (n := 2) (xs := [.one (.int .i64 (.var 0)), .one (.val 1)]) (e := [.i i0, .v v1]) rfl (by kernel_rfl) (Eq.mp (by kernel_rfl) h)


/-- tracery/traceryref15.counts: what is left of it. -/
theorem counts_sx (R : Ending → World → Prop) (S : Nat → Prop) (w0 : World) (i0 : Int) (h :
 (((0 : Int) ≤ i0 →
 (R (.returned (.bool (decide (i0 ≤ (1073741824 : Int))))) w0)) ∧
 (i0 < (0 : Int) →
 (R (.returned (.bool false)) w0)))) :
    Calls Try.prog 46 #[(.int .i64 i0)] w0 R :=
  Go.Sx.fn_sound0 (P := Try.prog) (S := S) (w0 := w0) (R := R) (ws := []) (an := []) (f := 46) (n := 1) (xs := [.one (.int .i64 (.var 0))]) (e := [.i i0]) rfl (by kernel_rfl) (Eq.mp (by kernel_rfl) h)


/-- bytes.Clone: what is left of it. -/
theorem clone_sx (R : Ending → World → Prop) (S : Nat → Prop) (w0 : World) (A0 : Option Addr) (n1 : Nat) (n2 : Nat) (h :
 (∃ b3 : Bool, (binOp .eql 45 (.slice A0 n1 n2) (.slice none 0 0)).run Try.prog w0 = .ok (.bool b3) w0 ∧
 ((b3 = true →
 (R (.returned (.slice none 0 0)) w0)) ∧
 (b3 = false →
 ∀ g4 : Nat, w0.heap.size ≤ g4 → (∀ w1 : World, Go.Sx.Fr S w0 w1 → Below w0.heap.size w0 w1 → w0.heap.size ≤ g4 → w1.heap[g4]? = some (.cells #[] 5 (0, 0)) → 
  ∃ w2 : World, ∃ A5 : Option Addr, ∃ n6 : Nat, ∃ n7 : Nat, (Builtin.append_ #[45, 45] 45 #[(.slice (some ⟨g4, 0, none⟩) 0 0), (.slice A0 n1 n2)]).run Try.prog w1 = .ok (.slice A5 n6 n7) w2 ∧ (Go.Sx.Fr S w0 w2 ∧ Go.Sx.Mild [g4] w1 w2) ∧ 
  (R (.returned (.slice A5 n6 n7)) w2)))))) :
    Calls Try.prog 68 #[(.slice A0 n1 n2)] w0 R :=
  Go.Sx.fn_sound0 (P := Try.prog) (S := S) (w0 := w0) (R := R) (ws := []) (an := [⟨999999, [], [], 0⟩]) (f := 68) (n := 3) (xs := [.one (.slice (.var 0) (.var 1) (.var 2))]) (e := [.a A0, .n n1, .n n2]) rfl (by kernel_rfl) (Eq.mp (by kernel_rfl) h)


/-- bytes.Equal: what is left of it. -/
theorem equal_sx (R : Ending → World → Prop) (S : Nat → Prop) (w0 : World) (A0 : Option Addr) (n1 : Nat) (n2 : Nat) (A3 : Option Addr) (n4 : Nat) (n5 : Nat) (h :
 (∃ s6 : ByteArray, (convert 45 9 (.slice A0 n1 n2)).run Try.prog w0 = .ok (.string s6) w0 ∧
 (∃ s7 : ByteArray, (convert 45 9 (.slice A3 n4 n5)).run Try.prog w0 = .ok (.string s7) w0 ∧
 (R (.returned (.bool ((s6).toList == (s7).toList))) w0)))) :
    Calls Try.prog 69 #[(.slice A0 n1 n2), (.slice A3 n4 n5)] w0 R :=
  Go.Sx.fn_sound0 (P := Try.prog) (S := S) (w0 := w0) (R := R) (ws := []) (an := []) (f := 69) (n := 6) (xs := [.one (.slice (.var 0) (.var 1) (.var 2)), .one (.slice (.var 3) (.var 4) (.var 5))]) (e := [.a A0, .n n1, .n n2, .a A3, .n n4, .n n5]) rfl (by kernel_rfl) (Eq.mp (by kernel_rfl) h)


/-- tracery/traceryref15.at: what is left of it. -/
theorem at_sx (R : Ending → World → Prop) (S : Nat → Prop) (w0 : World) (A0 : Option Addr) (n1 : Nat) (n2 : Nat) (i3 : Int) (h :
 (
 ((0 : Int) ≤ i3 ∧ i3 < (n1 : Int) ∧ ∃ p5 : Nat, ∃ o6 : Nat, A0 = some ⟨p5, o6, none⟩ ∧
 (∀ w1 : World, Go.Sx.Fr S w0 w1 → Below w0.heap.size w0 w1 → ∃ i7 : Int, Go.Sx.CellsAt w1 p5 (o6 + (i3).toNat * 1 + 0) [.int .u8 i7] ∧ (p5 < w0.heap.size ∧ p5 ∉ []) ∧ 
 ((0 : Int) ≤ (IntKind.i64.wrap (i3 + (1 : Int))) ∧ (IntKind.i64.wrap (i3 + (1 : Int))) < (n1 : Int) ∧ ∃ p8 : Nat, ∃ o9 : Nat, A0 = some ⟨p8, o9, none⟩ ∧
 (∃ i10 : Int, Go.Sx.CellsAt w1 p8 (o9 + ((IntKind.i64.wrap (i3 + (1 : Int)))).toNat * 1 + 0) [.int .u8 i10] ∧ (p8 < w0.heap.size ∧ p8 ∉ []) ∧ 
 ((0 : Int) ≤ (IntKind.i64.wrap (i3 + (2 : Int))) ∧ (IntKind.i64.wrap (i3 + (2 : Int))) < (n1 : Int) ∧ ∃ p11 : Nat, ∃ o12 : Nat, A0 = some ⟨p11, o12, none⟩ ∧
 (∃ i13 : Int, Go.Sx.CellsAt w1 p11 (o12 + ((IntKind.i64.wrap (i3 + (2 : Int)))).toNat * 1 + 0) [.int .u8 i13] ∧ (p11 < w0.heap.size ∧ p11 ∉ []) ∧ 
 ((0 : Int) ≤ (IntKind.i64.wrap (i3 + (3 : Int))) ∧ (IntKind.i64.wrap (i3 + (3 : Int))) < (n1 : Int) ∧ ∃ p14 : Nat, ∃ o15 : Nat, A0 = some ⟨p14, o15, none⟩ ∧
 (∃ i16 : Int, Go.Sx.CellsAt w1 p14 (o15 + ((IntKind.i64.wrap (i3 + (3 : Int)))).toNat * 1 + 0) [.int .u8 i16] ∧ (p14 < w0.heap.size ∧ p14 ∉ []) ∧ 
 (R (.returned (.int .i64 (IntKind.i64.wrap ((IntKind.i64.wrap ((IntKind.i64.wrap ((IntKind.i64.wrap ((16777216 : Int) * (IntKind.i64.wrap i7))) + (IntKind.i64.wrap ((65536 : Int) * (IntKind.i64.wrap i10))))) + (IntKind.i64.wrap ((256 : Int) * (IntKind.i64.wrap i13))))) + (IntKind.i64.wrap i16))))) w1))))))))))) :
    Calls Try.prog 79 #[(.slice A0 n1 n2), (.int .i64 i3)] w0 R :=
  Go.Sx.fn_sound0 (P := Try.prog) (S := S) (w0 := w0) (R := R) (ws := []) (an := []) (f := 79) (n := 4) (xs := [.one (.slice (.var 0) (.var 1) (.var 2)), .one (.int .i64 (.var 3))]) (e := [.a A0, .n n1, .n n2, .i i3]) rfl (by kernel_rfl) (Eq.mp (by kernel_rfl) h)


/-- slices.IndexFunc[[]int,int]: what is left of it. -/
theorem indexFunc_sx (R : Ending → World → Prop) (S : Nat → Prop) (w0 : World) (A0 : Option Addr) (n1 : Nat) (n2 : Nat) (v3 : Value) (h :
 (∃ (I0 : Int → Int → World → Prop) (M0 : Int → Int → World → Nat), (I0 (0 : Int) (0 : Int) w0) ∧
 ∀ i4 : Int, ∀ i5 : Int, ∀ w1 : World, Go.Sx.Fr S w0 w1 → I0 i4 i5 w1 → 
  ((i5 < (n1 : Int) →
  ((0 : Int) ≤ i5 ∧ i5 < (n1 : Int) ∧ ∃ p6 : Nat, ∃ o7 : Nat, A0 = some ⟨p6, o7, none⟩ ∧
   (∃ i8 : Int, Go.Sx.CellsAt w1 p6 (o7 + (i5).toNat * 1 + 0) [.int .i64 i8] ∧ 
   (
   ∃ f ar, (do Go.invoke (← Deferred.ofValue (v3) #[(.int .i64 i8)]).target (← Deferred.ofValue (v3) #[(.int .i64 i8)]).args : Sem Next).run Try.prog w1 = .ok (.enter f ar) w1 ∧ Calls Try.prog f ar w1 fun r w2 => ∃ b9 : Bool, r = .returned (.bool b9) ∧ (Go.Sx.Fr S w0 w2 ∧ Go.Sx.Mild [] w1 w2) ∧ 
   ((b9 = true →
   (R (.returned (.int .i64 i5)) w2)) ∧
   (b9 = false →
   (I0 i4 (IntKind.i64.wrap (i5 + (1 : Int))) w2 ∧ M0 i4 (IntKind.i64.wrap (i5 + (1 : Int))) w2 < M0 i4 i5 w1))))))) ∧
  ((n1 : Int) ≤ i5 →
  (R (.returned (.int .i64 (-1 : Int))) w1))))) :
    Calls Try.prog 86 #[(.slice A0 n1 n2), (v3)] w0 R :=
  Go.Sx.fn_sound0 (P := Try.prog) (S := S) (w0 := w0) (R := R) (ws := []) (an := []) (f := 86) (n := 4) (xs := [.one (.slice (.var 0) (.var 1) (.var 2)), .one (.val 3)]) (e := [.a A0, .n n1, .n n2, .v v3]) rfl (by kernel_rfl) (Eq.mp (by kernel_rfl) h)


end Go.Proofs.Ytdjjfpcfclheiaa.Frm
