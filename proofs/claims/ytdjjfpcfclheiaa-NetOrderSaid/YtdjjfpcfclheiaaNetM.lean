/- Net: what is left of the law NetTurns. -/
import Derived.Test.YtdjjfpcfclheiaaProg
import Derived.Test.YtdjjfpcfclheiaaSs
import Derived.KernelRfl
set_option linter.unusedVariables false
namespace Go.Proofs.Ytdjjfpcfclheiaa
open Go Go.RowKit Go.Proofs Go.Trc
set_option maxRecDepth 100000
/-- tracery/tracerylaw21.NetTurns: what is left of it. -/
theorem netTurns_sx (R : Ending → World → Prop) (S : Nat → Prop) (w0 : World) (i0 : Int) (i1 : Int) (i2 : Int) (i3 : Int) (i4 : Int) (i5 : Int) (A6 : Option Addr) (n7 : Nat) (n8 : Nat) (i9 : Int) (h :
 ∀ g10 : Nat, w0.heap.size ≤ g10 → (∀ w1 : World, Go.Sx.Fr S w0 w1 → Below w0.heap.size w0 w1 → w0.heap.size ≤ g10 → w1.heap[g10]? = some (.cells #[.int .i64 i0, .int .i64 i1, .int .i64 i2, .int .i64 i3, .int .i64 i4, .int .i64 i5, .slice A6 n7 n8] 47 (0, 0)) → 
 Calls Try.prog 24 #[] w1 fun r w2 => ∃ b11 : Bool, r = .returned (.bool b11) ∧ (Go.Sx.Fr S w0 w2 ∧ Go.Sx.Mild [g10] w1 w2) ∧ 
 (
 Calls Try.prog 25 #[] w2 fun r w3 => ∃ v12 : Value, r = .returned (v12) ∧ (Go.Sx.Fr S w0 w3 ∧ Go.Sx.Mild [g10] w2 w3) ∧ 
 ((b11 = false →
 (R (.returned (.bool false)) w3)) ∧
 (b11 = true →
 (∃ b13 : Bool, (binOp .eql 43 (v12) (.pointer none)).run Try.prog w3 = .ok (.bool b13) w3 ∧
  ((b13 = true →
  (R (.returned (.bool false)) w3)) ∧
  (b13 = false →
  ∀ g14 : Nat, w0.heap.size ≤ g14 → (∀ w4 : World, Go.Sx.Fr S w0 w4 → Below w3.heap.size w3 w4 → w3.heap.size ≤ g14 → w4.heap[g14]? = some (.cells #[.int .i64 i0, .int .i64 i1, .int .i64 i2, .int .i64 i3, .int .i64 i4, .int .i64 i5, .slice A6 n7 n8] 47 (0, 0)) → 
   Calls Try.prog 26 #[(.slice (some ⟨g14, 0, none⟩) 1 1)] w4 fun r w5 => ∃ A15 : Option Addr, ∃ n16 : Nat, ∃ n17 : Nat, r = .returned (.slice A15 n16 n17) ∧ (Go.Sx.Fr S w0 w5 ∧ Go.Sx.Mild [g14, g10] w4 w5) ∧ 
   ((0 : Int) ≤ (0 : Int) ∧ (0 : Int) < (n16 : Int) ∧ ∃ p18 : Nat, ∃ o19 : Nat, A15 = some ⟨p18, o19, none⟩ ∧
   (∃ i20 : Int, ∃ i21 : Int, ∃ i22 : Int, ∃ i23 : Int, ∃ i24 : Int, ∃ i25 : Int, ∃ A26 : Option Addr, ∃ n27 : Nat, ∃ n28 : Nat, Go.Sx.CellsAt w5 p18 (o19 + ((0 : Int)).toNat * 7 + 0) [.int .i64 i20, .int .i64 i21, .int .i64 i22, .int .i64 i23, .int .i64 i24, .int .i64 i25, .slice A26 n27 n28] ∧ 
   ∀ g29 : Nat, w0.heap.size ≤ g29 → (∀ w6 : World, Go.Sx.Fr S w0 w6 → Go.Sx.Fr (fun b => b ∈ [g10]) w5 w6 → w5.heap.size ≤ g29 → w6.heap[g29]? = some (.cells #[.int .i64 i20, .int .i64 i21, .int .i64 i22, .int .i64 i23, .int .i64 i24, .int .i64 i25, .slice A26 n27 n28] 47 (0, 0)) → 
   Calls Try.prog 27 #[(v12), (.slice (some ⟨g29, 0, none⟩) 1 1)] w6 fun r w7 => ∃ i30 : Int, r = .returned (.int .i64 i30) ∧ (Go.Sx.Fr S w0 w7 ∧ Go.Sx.Mild [g29, g14, g10] w6 w7) ∧ 
   ((¬ i30 = (1 : Int) →
   (
    Calls Try.prog 28 #[(.agg #[.int .i64 i20, .int .i64 i21, .int .i64 i22, .int .i64 i23, .int .i64 i24, .int .i64 i25, .slice A26 n27 n28])] w7 fun r w8 => ∃ i31 : Int, r = .returned (.int .i64 i31) ∧ (Go.Sx.Fr S w0 w8 ∧ Go.Sx.Mild [g29, g14, g10] w7 w8) ∧ 
    (R (.returned (.bool (i31 != (0 : Int)))) w8))) ∧
   (i30 = (1 : Int) →
   (
    Calls Try.prog 34 #[(v12), (.int .i64 (0 : Int))] w7 fun r w8 => ∃ i31 : Int, r = .returned (.int .i64 i31) ∧ (Go.Sx.Fr S w0 w8 ∧ Go.Sx.Mild [g29, g14, g10] w7 w8) ∧ 
    ((¬ i31 = (0 : Int) →
    (R (.returned (.bool false)) w8)) ∧
    (i31 = (0 : Int) →
    (
     Calls Try.prog 29 #[(v12)] w8 fun r w9 => ∃ i32 : Int, r = .returned (.int .i64 i32) ∧ (Go.Sx.Fr S w0 w9 ∧ Go.Sx.Mild [g29, g14, g10] w8 w9) ∧ 
     ((¬ i32 = (2 : Int) →
     (R (.returned (.bool false)) w9)) ∧
     (i32 = (2 : Int) →
     (
      Calls Try.prog 35 #[(v12), (.int .i64 (0 : Int)), (.int .i64 i9)] w9 fun r w10 => ∃ i33 : Int, r = .returned (.int .i64 i33) ∧ (Go.Sx.Fr S w0 w10 ∧ Go.Sx.Mild [g29, g14, g10] w9 w10) ∧ 
      (
      Calls Try.prog 31 #[(v12), (.int .i64 (0 : Int))] w10 fun r w11 => ∃ i34 : Int, ∃ i35 : Int, ∃ i36 : Int, ∃ i37 : Int, ∃ i38 : Int, ∃ i39 : Int, ∃ A40 : Option Addr, ∃ n41 : Nat, ∃ n42 : Nat, ∃ i43 : Int, r = .returned (.tuple #[.agg #[.int .i64 i34, .int .i64 i35, .int .i64 i36, .int .i64 i37, .int .i64 i38, .int .i64 i39, .slice A40 n41 n42], .int .i64 i43]) ∧ (Go.Sx.Fr S w0 w11 ∧ Go.Sx.Mild [g29, g14, g10] w10 w11) ∧ 
      ∀ g44 : Nat, w0.heap.size ≤ g44 → (∀ w12 : World, Go.Sx.Fr S w0 w12 → Below w11.heap.size w11 w12 → w11.heap.size ≤ g44 → w12.heap[g44]? = some (.cells #[.int .i64 i34, .int .i64 i35, .int .i64 i36, .int .i64 i37, .int .i64 i38, .int .i64 i39, .slice A40 n41 n42] 47 (0, 0)) → 
      Calls Try.prog 31 #[(v12), (.int .i64 (1 : Int))] w12 fun r w13 => ∃ i45 : Int, ∃ i46 : Int, ∃ i47 : Int, ∃ i48 : Int, ∃ i49 : Int, ∃ i50 : Int, ∃ A51 : Option Addr, ∃ n52 : Nat, ∃ n53 : Nat, ∃ i54 : Int, r = .returned (.tuple #[.agg #[.int .i64 i45, .int .i64 i46, .int .i64 i47, .int .i64 i48, .int .i64 i49, .int .i64 i50, .slice A51 n52 n53], .int .i64 i54]) ∧ (Go.Sx.Fr S w0 w13 ∧ Go.Sx.Mild [g44, g29, g14, g10] w12 w13) ∧ 
      ∀ g55 : Nat, w0.heap.size ≤ g55 → (∀ w14 : World, Go.Sx.Fr S w0 w14 → Below w13.heap.size w13 w14 → w13.heap.size ≤ g55 → w14.heap[g55]? = some (.cells #[.int .i64 i45, .int .i64 i46, .int .i64 i47, .int .i64 i48, .int .i64 i49, .int .i64 i50, .slice A51 n52 n53] 47 (0, 0)) → 
      Calls Try.prog 32 #[(.agg #[.int .i64 i45, .int .i64 i46, .int .i64 i47, .int .i64 i48, .int .i64 i49, .int .i64 i50, .slice A51 n52 n53]), (.agg #[.int .i64 i20, .int .i64 i21, .int .i64 i22, .int .i64 i23, .int .i64 i24, .int .i64 i25, .slice A26 n27 n28])] w14 fun r w15 => ∃ b56 : Bool, r = .returned (.bool b56) ∧ (Go.Sx.Fr S w0 w15 ∧ Go.Sx.Mild [g55, g44, g29, g14, g10] w14 w15) ∧ 
      ((i9 < (0 : Int) →
      ((i33 = (1 : Int) →
       ((i43 = (0 : Int) →
        ((i54 = (0 : Int) →
         (R (.returned (.bool b56)) w15)) ∧
         (¬ i54 = (0 : Int) →
         (R (.returned (.bool false)) w15)))) ∧
        (¬ i43 = (0 : Int) →
        (R (.returned (.bool false)) w15)))) ∧
       (¬ i33 = (1 : Int) →
       (R (.returned (.bool false)) w15)))) ∧
      ((0 : Int) ≤ i9 →
      (((IntKind.i64.wrap ((19 : Int) + (n27 : Int))) ≤ i9 →
       ((i33 = (1 : Int) →
        ((i43 = (0 : Int) →
         ((i54 = (0 : Int) →
          (R (.returned (.bool b56)) w15)) ∧
          (¬ i54 = (0 : Int) →
          (R (.returned (.bool false)) w15)))) ∧
         (¬ i43 = (0 : Int) →
         (R (.returned (.bool false)) w15)))) ∧
        (¬ i33 = (1 : Int) →
        (R (.returned (.bool false)) w15)))) ∧
       (i9 < (IntKind.i64.wrap ((19 : Int) + (n27 : Int))) →
       (
        Calls Try.prog 35 #[(v12), (.int .i64 (0 : Int)), (.int .i64 i9)] w15 fun r w16 => ∃ i57 : Int, r = .returned (.int .i64 i57) ∧ (Go.Sx.Fr S w0 w16 ∧ Go.Sx.Mild [g55, g44, g29, g14, g10] w15 w16) ∧ 
        (
        Calls Try.prog 31 #[(v12), (.int .i64 (0 : Int))] w16 fun r w17 => ∃ i58 : Int, ∃ i59 : Int, ∃ i60 : Int, ∃ i61 : Int, ∃ i62 : Int, ∃ i63 : Int, ∃ A64 : Option Addr, ∃ n65 : Nat, ∃ n66 : Nat, ∃ i67 : Int, r = .returned (.tuple #[.agg #[.int .i64 i58, .int .i64 i59, .int .i64 i60, .int .i64 i61, .int .i64 i62, .int .i64 i63, .slice A64 n65 n66], .int .i64 i67]) ∧ (Go.Sx.Fr S w0 w17 ∧ Go.Sx.Mild [g55, g44, g29, g14, g10] w16 w17) ∧ 
        ∀ g68 : Nat, w0.heap.size ≤ g68 → (∀ w18 : World, Go.Sx.Fr S w0 w18 → Below w17.heap.size w17 w18 → w17.heap.size ≤ g68 → w18.heap[g68]? = some (.cells #[.int .i64 i58, .int .i64 i59, .int .i64 i60, .int .i64 i61, .int .i64 i62, .int .i64 i63, .slice A64 n65 n66] 47 (0, 0)) → 
        Calls Try.prog 32 #[(.agg #[.int .i64 i58, .int .i64 i59, .int .i64 i60, .int .i64 i61, .int .i64 i62, .int .i64 i63, .slice A64 n65 n66]), (.agg #[.int .i64 i20, .int .i64 i21, .int .i64 i22, .int .i64 i23, .int .i64 i24, .int .i64 i25, .slice A26 n27 n28])] w18 fun r w19 => ∃ b69 : Bool, r = .returned (.bool b69) ∧ (Go.Sx.Fr S w0 w19 ∧ Go.Sx.Mild [g68, g55, g44, g29, g14, g10] w18 w19) ∧ 
        ((i33 = (0 : Int) →
        ((i43 = (2 : Int) →
         ((i54 = (0 : Int) →
          ((b56 = true →
           ((i57 = (0 : Int) →
            ((i67 = (0 : Int) →
             (R (.returned (.bool b69)) w19)) ∧
             (¬ i67 = (0 : Int) →
             (R (.returned (.bool false)) w19)))) ∧
            (¬ i57 = (0 : Int) →
            (R (.returned (.bool false)) w19)))) ∧
           (b56 = false →
           (R (.returned (.bool false)) w19)))) ∧
          (¬ i54 = (0 : Int) →
          (R (.returned (.bool false)) w19)))) ∧
         (¬ i43 = (2 : Int) →
         (R (.returned (.bool false)) w19)))) ∧
        (¬ i33 = (0 : Int) →
        (R (.returned (.bool false)) w19)))))))))))))))))))))))))))))))))) :
    Calls Try.prog 8 #[(.agg #[.int .i64 i0, .int .i64 i1, .int .i64 i2, .int .i64 i3, .int .i64 i4, .int .i64 i5, .slice A6 n7 n8]), (.int .i64 i9)] w0 R :=
  Go.Sx.fn_sound0 (P := Try.prog) (S := S) (w0 := w0) (R := R) (ws := []) (an := [⟨999998, [], [], 0⟩, ⟨999999, [], [], 0⟩]) (f := 8) (n := 10) (xs := [.agg [.int .i64 (.var 0), .int .i64 (.var 1), .int .i64 (.var 2), .int .i64 (.var 3), .int .i64 (.var 4), .int .i64 (.var 5), .slice (.var 6) (.var 7) (.var 8)], .one (.int .i64 (.var 9))]) (e := [.i i0, .i i1, .i i2, .i i3, .i i4, .i i5, .a A6, .n n7, .n n8, .i i9]) rfl (by kernel_rfl) (Eq.mp (by kernel_rfl) h)


end Go.Proofs.Ytdjjfpcfclheiaa
