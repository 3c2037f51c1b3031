/- Frames: what is left of the laws. -/
import Derived.Test.YtolipmnmaikfcaaProg
import Derived.Test.YtolipmnmaikfcaaSs
import Derived.KernelRfl
set_option linter.unusedVariables false
namespace Go.Proofs.Ytolipmnmaikfcaa
open Go Go.RowKit Go.Proofs Go.Trc
set_option maxRecDepth 100000
/-- tracery/tracerylaw15.FramePuts: what is left of it. -/
theorem framePuts_sx (R : Ending → World → Prop) (S : Nat → Prop) (w0 : World) (i0 : Int) (i1 : Int) (i2 : Int) (i3 : Int) (i4 : Int) (i5 : Int) (A6 : Option Addr) (n7 : Nat) (n8 : Nat) (h :
 ∀ g9 : Nat, w0.heap.size ≤ g9 → (∀ w1 : World, Go.Sx.Fr S w0 w1 → Below w0.heap.size w0 w1 → w0.heap.size ≤ g9 → w1.heap[g9]? = some (.cells #[.int .i64 i0, .int .i64 i1, .int .i64 i2, .int .i64 i3, .int .i64 i4, .int .i64 i5, .slice A6 n7 n8] 24 (0, 0)) → 
 Calls Try.prog 9 #[] w1 fun r w2 => ∃ b10 : Bool, r = .returned (.bool b10) ∧ (Go.Sx.Fr S w0 w2 ∧ Go.Sx.Mild [g9] w1 w2) ∧ 
 (
 Calls Try.prog 10 #[(.agg #[.int .i64 i0, .int .i64 i1, .int .i64 i2, .int .i64 i3, .int .i64 i4, .int .i64 i5, .slice A6 n7 n8])] w2 fun r w3 => ∃ i11 : Int, ∃ i12 : Int, ∃ i13 : Int, ∃ i14 : Int, ∃ i15 : Int, ∃ i16 : Int, ∃ A17 : Option Addr, ∃ n18 : Nat, ∃ n19 : Nat, r = .returned (.agg #[.int .i64 i11, .int .i64 i12, .int .i64 i13, .int .i64 i14, .int .i64 i15, .int .i64 i16, .slice A17 n18 n19]) ∧ (Go.Sx.Fr S w0 w3 ∧ Go.Sx.Mild [g9] w2 w3) ∧ 
 (∀ w4 : World, Go.Sx.Fr S w0 w4 → Go.Sx.Fr (fun b => b ∈ [g9]) w3 w4 → 
 Calls Try.prog 11 #[(.agg #[.int .i64 i11, .int .i64 i12, .int .i64 i13, .int .i64 i14, .int .i64 i15, .int .i64 i16, .slice A17 n18 n19])] w4 fun r w5 => ∃ A20 : Option Addr, ∃ n21 : Nat, ∃ n22 : Nat, ∃ i23 : Int, r = .returned (.tuple #[.slice A20 n21 n22, .int .i64 i23]) ∧ (Go.Sx.Fr S w0 w5 ∧ Go.Sx.Mild [g9] w4 w5) ∧ 
 (
 Calls Try.prog 12 #[(.agg #[.int .i64 i11, .int .i64 i12, .int .i64 i13, .int .i64 i14, .int .i64 i15, .int .i64 i16, .slice A17 n18 n19])] w5 fun r w6 => ∃ A24 : Option Addr, ∃ n25 : Nat, ∃ n26 : Nat, ∃ i27 : Int, r = .returned (.tuple #[.slice A24 n25 n26, .int .i64 i27]) ∧ (Go.Sx.Fr S w0 w6 ∧ Go.Sx.Mild [g9] w5 w6) ∧ 
 (
 ((b10 = true →
 (∀ w7 : World, Go.Sx.Fr S w0 w7 → Below w6.heap.size w6 w7 → 
  Calls Try.prog 13 #[(.agg #[.int .i64 i11, .int .i64 i12, .int .i64 i13, .int .i64 i14, .int .i64 i15, .int .i64 i16, .slice A17 n18 n19])] w7 fun r w8 => ∃ i29 : Int, r = .returned (.int .i64 i29) ∧ (Go.Sx.Fr S w0 w8 ∧ Go.Sx.Mild [g9] w7 w8) ∧ Go.Sx.Keep w6.heap.size [] w7 w8 ∧ 
  (
  Calls Try.prog 14 #[(.agg #[.int .i64 i11, .int .i64 i12, .int .i64 i13, .int .i64 i14, .int .i64 i15, .int .i64 i16, .slice A17 n18 n19])] w8 fun r w9 => ∃ i30 : Int, r = .returned (.int .i64 i30) ∧ (Go.Sx.Fr S w0 w9 ∧ Go.Sx.Mild [g9] w8 w9) ∧ Go.Sx.Keep w6.heap.size [] w8 w9 ∧ 
  ((i29 = i30 →
  (∃ s31 : ByteArray, (∀ w', Go.Sx.Keep w6.heap.size [] w9 w' → (convert 22 9 (.slice A20 n21 n22)).run Try.prog w' = .ok (.string s31) w') ∧
   (∃ s32 : ByteArray, (∀ w', Go.Sx.Keep w6.heap.size [] w9 w' → (convert 22 9 (.slice A24 n25 n26)).run Try.prog w' = .ok (.string s32) w') ∧
   (((s31).toList = (s32).toList →
   ((i23 = i27 →
    (
     Calls Try.prog 15 #[(.slice A17 n18 n19)] w9 fun r w10 => ∃ i33 : Int, r = .returned (.int .u32 i33) ∧ (Go.Sx.Fr S w0 w10 ∧ Go.Sx.Mild [g9] w9 w10) ∧ Go.Sx.Keep w6.heap.size [] w9 w10 ∧ 
     (
     Calls Try.prog 16 #[(.slice A17 n18 n19)] w10 fun r w11 => ∃ i34 : Int, r = .returned (.int .u32 i34) ∧ (Go.Sx.Fr S w0 w11 ∧ Go.Sx.Mild [g9] w10 w11) ∧ 
     (R (.returned (.bool (i33 == i34))) w11)))) ∧
    (¬ i23 = i27 →
    (R (.returned (.bool false)) w9)))) ∧
   (¬ (s31).toList = (s32).toList →
   (R (.returned (.bool false)) w9)))))) ∧
  (¬ i29 = i30 →
  (R (.returned (.bool false)) w9)))))) ∧
 (b10 = false →
 (∀ w7 : World, Go.Sx.Fr S w0 w7 → Below w6.heap.size w6 w7 → R (.returned (.bool false)) w7))))))))) :
    Calls Try.prog 3 #[(.agg #[.int .i64 i0, .int .i64 i1, .int .i64 i2, .int .i64 i3, .int .i64 i4, .int .i64 i5, .slice A6 n7 n8])] w0 R :=
  Go.Sx.fn_sound0 (P := Try.prog) (S := S) (w0 := w0) (R := R) (ws := []) (an := [⟨999999, [], [], 0⟩]) (f := 3) (n := 9) (xs := [.agg [.int .i64 (.var 0), .int .i64 (.var 1), .int .i64 (.var 2), .int .i64 (.var 3), .int .i64 (.var 4), .int .i64 (.var 5), .slice (.var 6) (.var 7) (.var 8)]]) (e := [.i i0, .i i1, .i i2, .i i3, .i i4, .i i5, .a A6, .n n7, .n n8]) rfl (by kernel_rfl) (Eq.mp (by kernel_rfl) h)


/-- tracery/tracerylaw15.FrameApart: what is left of it. -/
theorem frameApart_sx (R : Ending → World → Prop) (S : Nat → Prop) (w0 : World) (i0 : Int) (i1 : Int) (i2 : Int) (i3 : Int) (i4 : Int) (i5 : Int) (A6 : Option Addr) (n7 : Nat) (n8 : Nat) (i9 : Int) (i10 : Int) (h :
 ∀ g11 : Nat, w0.heap.size ≤ g11 → (∀ w1 : World, Go.Sx.Fr S w0 w1 → Below w0.heap.size w0 w1 → w0.heap.size ≤ g11 → w1.heap[g11]? = some (.cells #[.int .i64 i0, .int .i64 i1, .int .i64 i2, .int .i64 i3, .int .i64 i4, .int .i64 i5, .slice A6 n7 n8] 24 (0, 0)) → 
 Calls Try.prog 9 #[] w1 fun r w2 => ∃ b12 : Bool, r = .returned (.bool b12) ∧ (Go.Sx.Fr S w0 w2 ∧ Go.Sx.Mild [g11] w1 w2) ∧ 
 (
 Calls Try.prog 10 #[(.agg #[.int .i64 i0, .int .i64 i1, .int .i64 i2, .int .i64 i3, .int .i64 i4, .int .i64 i5, .slice A6 n7 n8])] w2 fun r w3 => ∃ i13 : Int, ∃ i14 : Int, ∃ i15 : Int, ∃ i16 : Int, ∃ i17 : Int, ∃ i18 : Int, ∃ A19 : Option Addr, ∃ n20 : Nat, ∃ n21 : Nat, r = .returned (.agg #[.int .i64 i13, .int .i64 i14, .int .i64 i15, .int .i64 i16, .int .i64 i17, .int .i64 i18, .slice A19 n20 n21]) ∧ (Go.Sx.Fr S w0 w3 ∧ Go.Sx.Mild [g11] w2 w3) ∧ 
 (((1000 : Int) < (n20 : Int) →
 (∀ w4 : World, Go.Sx.Fr S w0 w4 → Go.Sx.Fr (fun b => b ∈ [g11]) w3 w4 → R (.returned (.bool b12)) w4)) ∧
 ((n20 : Int) ≤ (1000 : Int) →
 (∀ w4 : World, Go.Sx.Fr S w0 w4 → Go.Sx.Fr (fun b => b ∈ [g11]) w3 w4 → 
  Calls Try.prog 11 #[(.agg #[.int .i64 i13, .int .i64 i14, .int .i64 i15, .int .i64 i16, .int .i64 i17, .int .i64 i18, .slice A19 n20 n21])] w4 fun r w5 => ∃ A22 : Option Addr, ∃ n23 : Nat, ∃ n24 : Nat, ∃ i25 : Int, r = .returned (.tuple #[.slice A22 n23 n24, .int .i64 i25]) ∧ (Go.Sx.Fr S w0 w5 ∧ Go.Sx.Mild [g11] w4 w5) ∧ 
  ((¬ i25 = (0 : Int) →
  ((b12 = true →
   (R (.returned (.bool ((n23 : Int) == (0 : Int)))) w5)) ∧
   (b12 = false →
   (R (.returned (.bool false)) w5)))) ∧
  (i25 = (0 : Int) →
  ∀ g26 : Nat, w0.heap.size ≤ g26 → ((i9 = (0 : Int) →
   (∀ w6 : World, Go.Sx.Fr S w0 w6 → Below w5.heap.size w5 w6 → w5.heap.size ≤ g26 → w6.heap[g26]? = some (.cells #[.int .i64 i10, .int .i64 i14, .int .i64 i15, .int .i64 i16, .int .i64 i17, .int .i64 i18, .slice A19 n20 n21] 24 (0, 0)) → 
    Calls Try.prog 11 #[(.agg #[.int .i64 i10, .int .i64 i14, .int .i64 i15, .int .i64 i16, .int .i64 i17, .int .i64 i18, .slice A19 n20 n21])] w6 fun r w7 => ∃ A27 : Option Addr, ∃ n28 : Nat, ∃ n29 : Nat, ∃ i30 : Int, r = .returned (.tuple #[.slice A27 n28 n29, .int .i64 i30]) ∧ (Go.Sx.Fr S w0 w7 ∧ Go.Sx.Mild [g26, g11] w6 w7) ∧ 
    (
    Calls Try.prog 17 #[(.agg #[.int .i64 i13, .int .i64 i14, .int .i64 i15, .int .i64 i16, .int .i64 i17, .int .i64 i18, .slice A19 n20 n21]), (.agg #[.int .i64 i10, .int .i64 i14, .int .i64 i15, .int .i64 i16, .int .i64 i17, .int .i64 i18, .slice A19 n20 n21])] w7 fun r w8 => ∃ b31 : Bool, r = .returned (.bool b31) ∧ (Go.Sx.Fr S w0 w8 ∧ Go.Sx.Mild [g26, g11] w7 w8) ∧ 
    ((b12 = true →
    (((n23 : Int) = (IntKind.i64.wrap ((19 : Int) + (n20 : Int))) →
     ((¬ i30 = (0 : Int) →
      (R (.returned (.bool true)) w8)) ∧
      (i30 = (0 : Int) →
      (∃ s32 : ByteArray, (convert 22 9 (.slice A22 n23 n24)).run Try.prog w8 = .ok (.string s32) w8 ∧
       (∃ s33 : ByteArray, (convert 22 9 (.slice A27 n28 n29)).run Try.prog w8 = .ok (.string s33) w8 ∧
       (∃ b34 : Bool, (binOp .eql 4 (.bool ((s32).toList == (s33).toList)) (.bool b31)).run Try.prog w8 = .ok (.bool b34) w8 ∧
       (R (.returned (.bool b34)) w8))))))) ∧
     (¬ (n23 : Int) = (IntKind.i64.wrap ((19 : Int) + (n20 : Int))) →
     (R (.returned (.bool false)) w8)))) ∧
    (b12 = false →
    (R (.returned (.bool false)) w8)))))) ∧
   (¬ i9 = (0 : Int) →
   ((i9 = (1 : Int) →
    (∀ w6 : World, Go.Sx.Fr S w0 w6 → Below w5.heap.size w5 w6 → w5.heap.size ≤ g26 → w6.heap[g26]? = some (.cells #[.int .i64 i13, .int .i64 i10, .int .i64 i15, .int .i64 i16, .int .i64 i17, .int .i64 i18, .slice A19 n20 n21] 24 (0, 0)) → 
     Calls Try.prog 11 #[(.agg #[.int .i64 i13, .int .i64 i10, .int .i64 i15, .int .i64 i16, .int .i64 i17, .int .i64 i18, .slice A19 n20 n21])] w6 fun r w7 => ∃ A27 : Option Addr, ∃ n28 : Nat, ∃ n29 : Nat, ∃ i30 : Int, r = .returned (.tuple #[.slice A27 n28 n29, .int .i64 i30]) ∧ (Go.Sx.Fr S w0 w7 ∧ Go.Sx.Mild [g26, g11] w6 w7) ∧ 
     (
     Calls Try.prog 17 #[(.agg #[.int .i64 i13, .int .i64 i14, .int .i64 i15, .int .i64 i16, .int .i64 i17, .int .i64 i18, .slice A19 n20 n21]), (.agg #[.int .i64 i13, .int .i64 i10, .int .i64 i15, .int .i64 i16, .int .i64 i17, .int .i64 i18, .slice A19 n20 n21])] w7 fun r w8 => ∃ b31 : Bool, r = .returned (.bool b31) ∧ (Go.Sx.Fr S w0 w8 ∧ Go.Sx.Mild [g26, g11] w7 w8) ∧ 
     ((b12 = true →
     (((n23 : Int) = (IntKind.i64.wrap ((19 : Int) + (n20 : Int))) →
      ((¬ i30 = (0 : Int) →
       (R (.returned (.bool true)) w8)) ∧
       (i30 = (0 : Int) →
       (∃ s32 : ByteArray, (convert 22 9 (.slice A22 n23 n24)).run Try.prog w8 = .ok (.string s32) w8 ∧
        (∃ s33 : ByteArray, (convert 22 9 (.slice A27 n28 n29)).run Try.prog w8 = .ok (.string s33) w8 ∧
        (∃ b34 : Bool, (binOp .eql 4 (.bool ((s32).toList == (s33).toList)) (.bool b31)).run Try.prog w8 = .ok (.bool b34) w8 ∧
        (R (.returned (.bool b34)) w8))))))) ∧
      (¬ (n23 : Int) = (IntKind.i64.wrap ((19 : Int) + (n20 : Int))) →
      (R (.returned (.bool false)) w8)))) ∧
     (b12 = false →
     (R (.returned (.bool false)) w8)))))) ∧
    (¬ i9 = (1 : Int) →
    ((i9 = (2 : Int) →
     (∀ w6 : World, Go.Sx.Fr S w0 w6 → Below w5.heap.size w5 w6 → w5.heap.size ≤ g26 → w6.heap[g26]? = some (.cells #[.int .i64 i13, .int .i64 i14, .int .i64 i10, .int .i64 i16, .int .i64 i17, .int .i64 i18, .slice A19 n20 n21] 24 (0, 0)) → 
      Calls Try.prog 11 #[(.agg #[.int .i64 i13, .int .i64 i14, .int .i64 i10, .int .i64 i16, .int .i64 i17, .int .i64 i18, .slice A19 n20 n21])] w6 fun r w7 => ∃ A27 : Option Addr, ∃ n28 : Nat, ∃ n29 : Nat, ∃ i30 : Int, r = .returned (.tuple #[.slice A27 n28 n29, .int .i64 i30]) ∧ (Go.Sx.Fr S w0 w7 ∧ Go.Sx.Mild [g26, g11] w6 w7) ∧ 
      (
      Calls Try.prog 17 #[(.agg #[.int .i64 i13, .int .i64 i14, .int .i64 i15, .int .i64 i16, .int .i64 i17, .int .i64 i18, .slice A19 n20 n21]), (.agg #[.int .i64 i13, .int .i64 i14, .int .i64 i10, .int .i64 i16, .int .i64 i17, .int .i64 i18, .slice A19 n20 n21])] w7 fun r w8 => ∃ b31 : Bool, r = .returned (.bool b31) ∧ (Go.Sx.Fr S w0 w8 ∧ Go.Sx.Mild [g26, g11] w7 w8) ∧ 
      ((b12 = true →
      (((n23 : Int) = (IntKind.i64.wrap ((19 : Int) + (n20 : Int))) →
       ((¬ i30 = (0 : Int) →
        (R (.returned (.bool true)) w8)) ∧
        (i30 = (0 : Int) →
        (∃ s32 : ByteArray, (convert 22 9 (.slice A22 n23 n24)).run Try.prog w8 = .ok (.string s32) w8 ∧
         (∃ s33 : ByteArray, (convert 22 9 (.slice A27 n28 n29)).run Try.prog w8 = .ok (.string s33) w8 ∧
         (∃ b34 : Bool, (binOp .eql 4 (.bool ((s32).toList == (s33).toList)) (.bool b31)).run Try.prog w8 = .ok (.bool b34) w8 ∧
         (R (.returned (.bool b34)) w8))))))) ∧
       (¬ (n23 : Int) = (IntKind.i64.wrap ((19 : Int) + (n20 : Int))) →
       (R (.returned (.bool false)) w8)))) ∧
      (b12 = false →
      (R (.returned (.bool false)) w8)))))) ∧
     (¬ i9 = (2 : Int) →
     ((i9 = (3 : Int) →
      (∀ w6 : World, Go.Sx.Fr S w0 w6 → Below w5.heap.size w5 w6 → w5.heap.size ≤ g26 → w6.heap[g26]? = some (.cells #[.int .i64 i13, .int .i64 i14, .int .i64 i15, .int .i64 i10, .int .i64 i17, .int .i64 i18, .slice A19 n20 n21] 24 (0, 0)) → 
       Calls Try.prog 11 #[(.agg #[.int .i64 i13, .int .i64 i14, .int .i64 i15, .int .i64 i10, .int .i64 i17, .int .i64 i18, .slice A19 n20 n21])] w6 fun r w7 => ∃ A27 : Option Addr, ∃ n28 : Nat, ∃ n29 : Nat, ∃ i30 : Int, r = .returned (.tuple #[.slice A27 n28 n29, .int .i64 i30]) ∧ (Go.Sx.Fr S w0 w7 ∧ Go.Sx.Mild [g26, g11] w6 w7) ∧ 
       (
       Calls Try.prog 17 #[(.agg #[.int .i64 i13, .int .i64 i14, .int .i64 i15, .int .i64 i16, .int .i64 i17, .int .i64 i18, .slice A19 n20 n21]), (.agg #[.int .i64 i13, .int .i64 i14, .int .i64 i15, .int .i64 i10, .int .i64 i17, .int .i64 i18, .slice A19 n20 n21])] w7 fun r w8 => ∃ b31 : Bool, r = .returned (.bool b31) ∧ (Go.Sx.Fr S w0 w8 ∧ Go.Sx.Mild [g26, g11] w7 w8) ∧ 
       ((b12 = true →
       (((n23 : Int) = (IntKind.i64.wrap ((19 : Int) + (n20 : Int))) →
        ((¬ i30 = (0 : Int) →
         (R (.returned (.bool true)) w8)) ∧
         (i30 = (0 : Int) →
         (∃ s32 : ByteArray, (convert 22 9 (.slice A22 n23 n24)).run Try.prog w8 = .ok (.string s32) w8 ∧
          (∃ s33 : ByteArray, (convert 22 9 (.slice A27 n28 n29)).run Try.prog w8 = .ok (.string s33) w8 ∧
          (∃ b34 : Bool, (binOp .eql 4 (.bool ((s32).toList == (s33).toList)) (.bool b31)).run Try.prog w8 = .ok (.bool b34) w8 ∧
          (R (.returned (.bool b34)) w8))))))) ∧
        (¬ (n23 : Int) = (IntKind.i64.wrap ((19 : Int) + (n20 : Int))) →
        (R (.returned (.bool false)) w8)))) ∧
       (b12 = false →
       (R (.returned (.bool false)) w8)))))) ∧
      (¬ i9 = (3 : Int) →
      ((i9 = (4 : Int) →
       (∀ w6 : World, Go.Sx.Fr S w0 w6 → Below w5.heap.size w5 w6 → w5.heap.size ≤ g26 → w6.heap[g26]? = some (.cells #[.int .i64 i13, .int .i64 i14, .int .i64 i15, .int .i64 i16, .int .i64 i10, .int .i64 i18, .slice A19 n20 n21] 24 (0, 0)) → 
        Calls Try.prog 11 #[(.agg #[.int .i64 i13, .int .i64 i14, .int .i64 i15, .int .i64 i16, .int .i64 i10, .int .i64 i18, .slice A19 n20 n21])] w6 fun r w7 => ∃ A27 : Option Addr, ∃ n28 : Nat, ∃ n29 : Nat, ∃ i30 : Int, r = .returned (.tuple #[.slice A27 n28 n29, .int .i64 i30]) ∧ (Go.Sx.Fr S w0 w7 ∧ Go.Sx.Mild [g26, g11] w6 w7) ∧ 
        (
        Calls Try.prog 17 #[(.agg #[.int .i64 i13, .int .i64 i14, .int .i64 i15, .int .i64 i16, .int .i64 i17, .int .i64 i18, .slice A19 n20 n21]), (.agg #[.int .i64 i13, .int .i64 i14, .int .i64 i15, .int .i64 i16, .int .i64 i10, .int .i64 i18, .slice A19 n20 n21])] w7 fun r w8 => ∃ b31 : Bool, r = .returned (.bool b31) ∧ (Go.Sx.Fr S w0 w8 ∧ Go.Sx.Mild [g26, g11] w7 w8) ∧ 
        ((b12 = true →
        (((n23 : Int) = (IntKind.i64.wrap ((19 : Int) + (n20 : Int))) →
         ((¬ i30 = (0 : Int) →
          (R (.returned (.bool true)) w8)) ∧
          (i30 = (0 : Int) →
          (∃ s32 : ByteArray, (convert 22 9 (.slice A22 n23 n24)).run Try.prog w8 = .ok (.string s32) w8 ∧
           (∃ s33 : ByteArray, (convert 22 9 (.slice A27 n28 n29)).run Try.prog w8 = .ok (.string s33) w8 ∧
           (∃ b34 : Bool, (binOp .eql 4 (.bool ((s32).toList == (s33).toList)) (.bool b31)).run Try.prog w8 = .ok (.bool b34) w8 ∧
           (R (.returned (.bool b34)) w8))))))) ∧
         (¬ (n23 : Int) = (IntKind.i64.wrap ((19 : Int) + (n20 : Int))) →
         (R (.returned (.bool false)) w8)))) ∧
        (b12 = false →
        (R (.returned (.bool false)) w8)))))) ∧
       (¬ i9 = (4 : Int) →
       ((i9 = (5 : Int) →
        (∀ w6 : World, Go.Sx.Fr S w0 w6 → Below w5.heap.size w5 w6 → w5.heap.size ≤ g26 → w6.heap[g26]? = some (.cells #[.int .i64 i13, .int .i64 i14, .int .i64 i15, .int .i64 i16, .int .i64 i17, .int .i64 i10, .slice A19 n20 n21] 24 (0, 0)) → 
         Calls Try.prog 11 #[(.agg #[.int .i64 i13, .int .i64 i14, .int .i64 i15, .int .i64 i16, .int .i64 i17, .int .i64 i10, .slice A19 n20 n21])] w6 fun r w7 => ∃ A27 : Option Addr, ∃ n28 : Nat, ∃ n29 : Nat, ∃ i30 : Int, r = .returned (.tuple #[.slice A27 n28 n29, .int .i64 i30]) ∧ (Go.Sx.Fr S w0 w7 ∧ Go.Sx.Mild [g26, g11] w6 w7) ∧ 
         (
         Calls Try.prog 17 #[(.agg #[.int .i64 i13, .int .i64 i14, .int .i64 i15, .int .i64 i16, .int .i64 i17, .int .i64 i18, .slice A19 n20 n21]), (.agg #[.int .i64 i13, .int .i64 i14, .int .i64 i15, .int .i64 i16, .int .i64 i17, .int .i64 i10, .slice A19 n20 n21])] w7 fun r w8 => ∃ b31 : Bool, r = .returned (.bool b31) ∧ (Go.Sx.Fr S w0 w8 ∧ Go.Sx.Mild [g26, g11] w7 w8) ∧ 
         ((b12 = true →
         (((n23 : Int) = (IntKind.i64.wrap ((19 : Int) + (n20 : Int))) →
          ((¬ i30 = (0 : Int) →
           (R (.returned (.bool true)) w8)) ∧
           (i30 = (0 : Int) →
           (∃ s32 : ByteArray, (convert 22 9 (.slice A22 n23 n24)).run Try.prog w8 = .ok (.string s32) w8 ∧
            (∃ s33 : ByteArray, (convert 22 9 (.slice A27 n28 n29)).run Try.prog w8 = .ok (.string s33) w8 ∧
            (∃ b34 : Bool, (binOp .eql 4 (.bool ((s32).toList == (s33).toList)) (.bool b31)).run Try.prog w8 = .ok (.bool b34) w8 ∧
            (R (.returned (.bool b34)) w8))))))) ∧
          (¬ (n23 : Int) = (IntKind.i64.wrap ((19 : Int) + (n20 : Int))) →
          (R (.returned (.bool false)) w8)))) ∧
         (b12 = false →
         (R (.returned (.bool false)) w8)))))) ∧
        (¬ i9 = (5 : Int) →
        ∀ g27 : Nat, w0.heap.size ≤ g27 → (∀ w6 : World, Go.Sx.Fr S w0 w6 → Below w5.heap.size w5 w6 → w5.heap.size ≤ g27 → w6.heap[g27]? = some (.cells #[] 5 (0, 0)) → w5.heap.size ≤ g26 → w6.heap[g26]? = some (.cells #[.int .i64 i13, .int .i64 i14, .int .i64 i15, .int .i64 i16, .int .i64 i17, .int .i64 i18, .slice A19 n20 n21] 24 (0, 0)) → 
         ∃ w7 : World, ∃ A28 : Option Addr, ∃ n29 : Nat, ∃ n30 : Nat, (Builtin.append_ #[22, 22] 22 #[(.slice (some ⟨g27, 0, none⟩) 0 0), (.slice A19 n20 n21)]).run Try.prog w6 = .ok (.slice A28 n29 n30) w7 ∧ (Go.Sx.Fr S w0 w7 ∧ Go.Sx.Mild [g27, g26, g11] w6 w7) ∧ 
         ∀ g31 : Nat, w0.heap.size ≤ g31 → (∀ w8 : World, Go.Sx.Fr S w0 w8 → Below w7.heap.size w7 w8 → w7.heap.size ≤ g31 → w8.heap[g31]? = some (.cells #[.int .u8 (IntKind.u8.wrap i10)] 5 (0, 0)) → 
         ∃ w9 : World, ∃ A32 : Option Addr, ∃ n33 : Nat, ∃ n34 : Nat, (Builtin.append_ #[22, 22] 22 #[(.slice A28 n29 n30), (.slice (some ⟨g31, 0, none⟩) 1 1)]).run Try.prog w8 = .ok (.slice A32 n33 n34) w9 ∧ (Go.Sx.Fr S w0 w9 ∧ Go.Sx.Mild [g31, g27, g26, g11] w8 w9) ∧ 
         (∀ w10 : World, Go.Sx.Fr S w0 w10 → Go.Sx.Fr (fun b => b ∈ [g26]) w9 w10 → 
         Calls Try.prog 11 #[(.agg #[.int .i64 i13, .int .i64 i14, .int .i64 i15, .int .i64 i16, .int .i64 i17, .int .i64 i18, .slice A32 n33 n34])] w10 fun r w11 => ∃ A35 : Option Addr, ∃ n36 : Nat, ∃ n37 : Nat, ∃ i38 : Int, r = .returned (.tuple #[.slice A35 n36 n37, .int .i64 i38]) ∧ (Go.Sx.Fr S w0 w11 ∧ Go.Sx.Mild [g31, g27, g26, g11] w10 w11) ∧ 
         (
         Calls Try.prog 17 #[(.agg #[.int .i64 i13, .int .i64 i14, .int .i64 i15, .int .i64 i16, .int .i64 i17, .int .i64 i18, .slice A19 n20 n21]), (.agg #[.int .i64 i13, .int .i64 i14, .int .i64 i15, .int .i64 i16, .int .i64 i17, .int .i64 i18, .slice A32 n33 n34])] w11 fun r w12 => ∃ b39 : Bool, r = .returned (.bool b39) ∧ (Go.Sx.Fr S w0 w12 ∧ Go.Sx.Mild [g31, g27, g26, g11] w11 w12) ∧ 
         ((b12 = true →
         (((n23 : Int) = (IntKind.i64.wrap ((19 : Int) + (n20 : Int))) →
          ((¬ i38 = (0 : Int) →
           (R (.returned (.bool true)) w12)) ∧
           (i38 = (0 : Int) →
           (∃ s40 : ByteArray, (convert 22 9 (.slice A22 n23 n24)).run Try.prog w12 = .ok (.string s40) w12 ∧
            (∃ s41 : ByteArray, (convert 22 9 (.slice A35 n36 n37)).run Try.prog w12 = .ok (.string s41) w12 ∧
            (∃ b42 : Bool, (binOp .eql 4 (.bool ((s40).toList == (s41).toList)) (.bool b39)).run Try.prog w12 = .ok (.bool b42) w12 ∧
            (R (.returned (.bool b42)) w12))))))) ∧
          (¬ (n23 : Int) = (IntKind.i64.wrap ((19 : Int) + (n20 : Int))) →
          (R (.returned (.bool false)) w12)))) ∧
         (b12 = false →
         (R (.returned (.bool false)) w12))))))))))))))))))))))))))) :
    Calls Try.prog 4 #[(.agg #[.int .i64 i0, .int .i64 i1, .int .i64 i2, .int .i64 i3, .int .i64 i4, .int .i64 i5, .slice A6 n7 n8]), (.int .i64 i9), (.int .i64 i10)] w0 R :=
  Go.Sx.fn_sound0 (P := Try.prog) (S := S) (w0 := w0) (R := R) (ws := []) (an := [⟨999999, [], [], 0⟩]) (f := 4) (n := 11) (xs := [.agg [.int .i64 (.var 0), .int .i64 (.var 1), .int .i64 (.var 2), .int .i64 (.var 3), .int .i64 (.var 4), .int .i64 (.var 5), .slice (.var 6) (.var 7) (.var 8)], .one (.int .i64 (.var 9)), .one (.int .i64 (.var 10))]) (e := [.i i0, .i i1, .i i2, .i i3, .i i4, .i i5, .a A6, .n n7, .n n8, .i i9, .i i10]) rfl (by kernel_rfl) (Eq.mp (by kernel_rfl) h)


/-- tracery/tracerylaw15.FrameSums: what is left of it. -/
theorem frameSums_sx (R : Ending → World → Prop) (S : Nat → Prop) (w0 : World) (A0 : Option Addr) (n1 : Nat) (n2 : Nat) (A3 : Option Addr) (n4 : Nat) (n5 : Nat) (A6 : Option Addr) (n7 : Nat) (n8 : Nat) (h :
 (
 Calls Try.prog 9 #[] w0 fun r w1 => ∃ b9 : Bool, r = .returned (.bool b9) ∧ (Go.Sx.Fr S w0 w1 ∧ Go.Sx.Mild [] w0 w1) ∧ 
 (∃ i10 : Int, (Builtin.min_ #[3, 3, 3, 3] 3 #[(.int .i64 (n1 : Int)), (.int .i64 (n4 : Int)), (.int .i64 (n7 : Int)), (.int .i64 (300 : Int))]).run Try.prog w1 = .ok (.int .i64 i10) w1 ∧
 ∀ g11 : Nat, w0.heap.size ≤ g11 → ∀ g12 : Nat, w0.heap.size ≤ g12 → (∃ (I0 : Option Addr → Nat → Nat → Option Addr → Nat → Nat → Int → Int → World → Prop) (M0 : Option Addr → Nat → Nat → Option Addr → Nat → Nat → Int → Int → World → Nat), (∀ w2 : World, Go.Sx.Fr S w0 w2 → Below w1.heap.size w1 w2 → w1.heap.size ≤ g12 → w2.heap[g12]? = some (.cells #[] 5 (0, 0)) → w1.heap.size ≤ g11 → w2.heap[g11]? = some (.cells #[] 5 (0, 0)) → I0 (some ⟨g11, 0, none⟩) 0 0 (some ⟨g12, 0, none⟩) 0 0 (0 : Int) (0 : Int) w2) ∧
 ∀ A13 : Option Addr, ∀ n14 : Nat, ∀ n15 : Nat, ∀ A16 : Option Addr, ∀ n17 : Nat, ∀ n18 : Nat, ∀ i19 : Int, ∀ i20 : Int, ∀ w3 : World, Go.Sx.Fr S w0 w3 → I0 A13 n14 n15 A16 n17 n18 i19 i20 w3 → 
  ((i20 < i10 →
  (
   ((0 : Int) ≤ i20 ∧ i20 < (n1 : Int) ∧ ∃ p22 : Nat, ∃ o23 : Nat, A0 = some ⟨p22, o23, none⟩ ∧
   (∀ w4 : World, Go.Sx.Fr S w0 w4 → Below w3.heap.size w3 w4 → ∃ i24 : Int, Go.Sx.CellsAt w4 p22 (o23 + (i20).toNat * 1 + 0) [.int .u8 i24] ∧ (p22 < w3.heap.size ∧ p22 ∉ []) ∧ 
   ((0 : Int) ≤ i20 ∧ i20 < (n7 : Int) ∧ ∃ p25 : Nat, ∃ o26 : Nat, A6 = some ⟨p25, o26, none⟩ ∧
   (∃ i27 : Int, Go.Sx.CellsAt w4 p25 (o26 + (i20).toNat * 1 + 0) [.int .u8 i27] ∧ (p25 < w3.heap.size ∧ p25 ∉ []) ∧ 
   ∀ g28 : Nat, w0.heap.size ≤ g28 → (∀ w5 : World, Go.Sx.Fr S w0 w5 → Below w4.heap.size w4 w5 → w4.heap.size ≤ g28 → w5.heap[g28]? = some (.cells #[.int .u8 (bits .xor .u8 i24 i27)] 5 (0, 0)) → 
   ∃ w6 : World, ∃ A29 : Option Addr, ∃ n30 : Nat, ∃ n31 : Nat, (Builtin.append_ #[22, 22] 22 #[(.slice A13 n14 n15), (.slice (some ⟨g28, 0, none⟩) 1 1)]).run Try.prog w5 = .ok (.slice A29 n30 n31) w6 ∧ (Go.Sx.Fr S w0 w6 ∧ Go.Sx.Mild [g28, g12, g11] w5 w6) ∧ 
   (
   ((0 : Int) ≤ i20 ∧ i20 < (n4 : Int) ∧ ∃ p33 : Nat, ∃ o34 : Nat, A3 = some ⟨p33, o34, none⟩ ∧
   (∀ w7 : World, Go.Sx.Fr S w0 w7 → Below w6.heap.size w6 w7 → ∃ i35 : Int, Go.Sx.CellsAt w7 p33 (o34 + (i20).toNat * 1 + 0) [.int .u8 i35] ∧ (p33 < w6.heap.size ∧ p33 ∉ []) ∧ 
   ((0 : Int) ≤ i20 ∧ i20 < (n7 : Int) ∧ ∃ p36 : Nat, ∃ o37 : Nat, A6 = some ⟨p36, o37, none⟩ ∧
   (∃ i38 : Int, Go.Sx.CellsAt w7 p36 (o37 + (i20).toNat * 1 + 0) [.int .u8 i38] ∧ (p36 < w6.heap.size ∧ p36 ∉ []) ∧ 
   ∀ g39 : Nat, w0.heap.size ≤ g39 → (∀ w8 : World, Go.Sx.Fr S w0 w8 → Below w7.heap.size w7 w8 → w7.heap.size ≤ g39 → w8.heap[g39]? = some (.cells #[.int .u8 (bits .xor .u8 i35 i38)] 5 (0, 0)) → 
   ∃ w9 : World, ∃ A40 : Option Addr, ∃ n41 : Nat, ∃ n42 : Nat, (Builtin.append_ #[22, 22] 22 #[(.slice A16 n17 n18), (.slice (some ⟨g39, 0, none⟩) 1 1)]).run Try.prog w8 = .ok (.slice A40 n41 n42) w9 ∧ (Go.Sx.Fr S w0 w9 ∧ Go.Sx.Mild [g39, g28, g12, g11] w8 w9) ∧ 
   ((0 : Int) ≤ i20 ∧ i20 < (n7 : Int) ∧ ∃ p43 : Nat, ∃ o44 : Nat, A6 = some ⟨p43, o44, none⟩ ∧
   (∃ i45 : Int, Go.Sx.CellsAt w9 p43 (o44 + (i20).toNat * 1 + 0) [.int .u8 i45] ∧ 
   ((¬ i45 = (0 : Int) →
   (I0 A29 n30 n31 A40 n41 n42 (IntKind.i64.wrap (i19 + (1 : Int))) (IntKind.i64.wrap (i20 + (1 : Int))) w9 ∧ M0 A29 n30 n31 A40 n41 n42 (IntKind.i64.wrap (i19 + (1 : Int))) (IntKind.i64.wrap (i20 + (1 : Int))) w9 < M0 A13 n14 n15 A16 n17 n18 i19 i20 w3)) ∧
   (i45 = (0 : Int) →
   (I0 A29 n30 n31 A40 n41 n42 i19 (IntKind.i64.wrap (i20 + (1 : Int))) w9 ∧ M0 A29 n30 n31 A40 n41 n42 i19 (IntKind.i64.wrap (i20 + (1 : Int))) w9 < M0 A13 n14 n15 A16 n17 n18 i19 i20 w3)))))))))))))))))) ∧
  (i10 ≤ i20 →
  (∃ A21 : Option Addr, ∃ n22 : Nat, ∃ n23 : Nat, (Instr.sliceAt 22 (.slice A0 n1 n2) none (some (.int .i64 i10)) none).run Try.prog w3 = .ok (.slice A21 n22 n23) w3 ∧
   (
   Calls Try.prog 15 #[(.slice A21 n22 n23)] w3 fun r w4 => ∃ i24 : Int, r = .returned (.int .u32 i24) ∧ (Go.Sx.Fr S w0 w4 ∧ Go.Sx.Mild [g12, g11] w3 w4) ∧ 
   (
   Calls Try.prog 15 #[(.slice A13 n14 n15)] w4 fun r w5 => ∃ i25 : Int, r = .returned (.int .u32 i25) ∧ (Go.Sx.Fr S w0 w5 ∧ Go.Sx.Mild [g12, g11] w4 w5) ∧ 
   (∃ A26 : Option Addr, ∃ n27 : Nat, ∃ n28 : Nat, (Instr.sliceAt 22 (.slice A3 n4 n5) none (some (.int .i64 i10)) none).run Try.prog w5 = .ok (.slice A26 n27 n28) w5 ∧
   (
   Calls Try.prog 15 #[(.slice A26 n27 n28)] w5 fun r w6 => ∃ i29 : Int, r = .returned (.int .u32 i29) ∧ (Go.Sx.Fr S w0 w6 ∧ Go.Sx.Mild [g12, g11] w5 w6) ∧ 
   (
   Calls Try.prog 15 #[(.slice A16 n17 n18)] w6 fun r w7 => ∃ i30 : Int, r = .returned (.int .u32 i30) ∧ (Go.Sx.Fr S w0 w7 ∧ Go.Sx.Mild [g12, g11] w6 w7) ∧ 
   ((b9 = true →
   (((bits .xor .u32 i24 i25) = (bits .xor .u32 i29 i30) →
    ((¬ i19 = (1 : Int) →
     (((0 : Int) < i19 →
      (R (.returned (.bool true)) w7)) ∧
      (i19 ≤ (0 : Int) →
      (R (.returned (.bool ((bits .xor .u32 i24 i25) == (0 : Int)))) w7)))) ∧
     (i19 = (1 : Int) →
     ((¬ (bits .xor .u32 i24 i25) = (0 : Int) →
      (((0 : Int) < i19 →
       (R (.returned (.bool true)) w7)) ∧
       (i19 ≤ (0 : Int) →
       (R (.returned (.bool ((bits .xor .u32 i24 i25) == (0 : Int)))) w7)))) ∧
      ((bits .xor .u32 i24 i25) = (0 : Int) →
      (R (.returned (.bool false)) w7)))))) ∧
    (¬ (bits .xor .u32 i24 i25) = (bits .xor .u32 i29 i30) →
    (R (.returned (.bool false)) w7)))) ∧
   (b9 = false →
   (R (.returned (.bool false)) w7))))))))))))))) :
    Calls Try.prog 5 #[(.slice A0 n1 n2), (.slice A3 n4 n5), (.slice A6 n7 n8)] w0 R :=
  Go.Sx.fn_sound0 (P := Try.prog) (S := S) (w0 := w0) (R := R) (ws := []) (an := [⟨999999, [], [], 0⟩]) (f := 5) (n := 9) (xs := [.one (.slice (.var 0) (.var 1) (.var 2)), .one (.slice (.var 3) (.var 4) (.var 5)), .one (.slice (.var 6) (.var 7) (.var 8))]) (e := [.a A0, .n n1, .n n2, .a A3, .n n4, .n n5, .a A6, .n n7, .n n8]) rfl (by kernel_rfl) (Eq.mp (by kernel_rfl) h)


end Go.Proofs.Ytolipmnmaikfcaa
