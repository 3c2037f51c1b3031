/- Frames: what is left of the laws. -/
import Derived.Test.YtolipmnmaikfcaaProg
import Derived.Test.YtolipmnmaikfcaaSs
import Derived.KernelRfl
set_option linter.unusedVariables false
namespace Go.Proofs.Ytolipmnmaikfcaa
open Go Go.RowKit Go.Proofs Go.Trc
set_option maxRecDepth 100000
/-- tracery/tracerylaw15.FrameTakes: what is left of it. -/
theorem frameTakes_sx (R : Ending → World → Prop) (S : Nat → Prop) (w0 : World) (A0 : Option Addr) (n1 : Nat) (n2 : Nat) (b3 : Bool) (h :
 (
 Calls Try.prog 9 #[] w0 fun r w1 => ∃ b4 : Bool, r = .returned (.bool b4) ∧ (Go.Sx.Fr S w0 w1 ∧ Go.Sx.Mild [] w0 w1) ∧ 
 (((1000 : Int) < (n1 : Int) →
 (∃ A5 : Option Addr, ∃ n6 : Nat, ∃ n7 : Nat, (Instr.sliceAt 22 (.slice A0 n1 n2) none (some (.int .i64 (1000 : Int))) none).run Try.prog w1 = .ok (.slice A5 n6 n7) w1 ∧
  ∀ g8 : Nat, w0.heap.size ≤ g8 → (∀ w2 : World, Go.Sx.Fr S w0 w2 → Below w1.heap.size w1 w2 → w1.heap.size ≤ g8 → w2.heap[g8]? = some (.cells #[] 5 (0, 0)) → 
  ∃ w3 : World, ∃ A9 : Option Addr, ∃ n10 : Nat, ∃ n11 : Nat, (Builtin.append_ #[22, 22] 22 #[(.slice (some ⟨g8, 0, none⟩) 0 0), (.slice A5 n6 n7)]).run Try.prog w2 = .ok (.slice A9 n10 n11) w3 ∧ (Go.Sx.Fr S w0 w3 ∧ Go.Sx.Mild [g8] w2 w3) ∧ 
  (
  Calls Try.prog 16 #[(.slice A5 n6 n7)] w3 fun r w4 => ∃ i12 : Int, r = .returned (.int .u32 i12) ∧ (Go.Sx.Fr S w0 w4 ∧ Go.Sx.Mild [g8] w3 w4) ∧ 
  ((b3 = true →
  ∀ g13 : Nat, w0.heap.size ≤ g13 → (∀ w5 : World, Go.Sx.Fr S w0 w5 → Below w4.heap.size w4 w5 → w4.heap.size ≤ g13 → w5.heap[g13]? = some (.cells #[.int .u8 (IntKind.u8.wrap i12), .int .u8 (IntKind.u8.wrap (Int.fdiv i12 (2 ^ 8))), .int .u8 (IntKind.u8.wrap (Int.fdiv i12 (2 ^ 16))), .int .u8 (IntKind.u8.wrap (Int.fdiv i12 (2 ^ 24)))] 5 (0, 0)) → 
   ∃ w6 : World, ∃ A14 : Option Addr, ∃ n15 : Nat, ∃ n16 : Nat, (Builtin.append_ #[22, 22] 22 #[(.slice A9 n10 n11), (.slice (some ⟨g13, 0, none⟩) 4 4)]).run Try.prog w5 = .ok (.slice A14 n15 n16) w6 ∧ (Go.Sx.Fr S w0 w6 ∧ Go.Sx.Mild [g13, g8] w5 w6) ∧ 
   ∀ g17 : Nat, w0.heap.size ≤ g17 → (∀ w7 : World, Go.Sx.Fr S w0 w7 → Below w6.heap.size w6 w7 → w6.heap.size ≤ g17 → w7.heap[g17]? = some (.cells #[] 5 (0, 0)) → 
   ∃ w8 : World, ∃ A18 : Option Addr, ∃ n19 : Nat, ∃ n20 : Nat, (Builtin.append_ #[22, 22] 22 #[(.slice (some ⟨g17, 0, none⟩) 0 0), (.slice A14 n15 n16)]).run Try.prog w7 = .ok (.slice A18 n19 n20) w8 ∧ (Go.Sx.Fr S w0 w8 ∧ Go.Sx.Mild [g17, g13, g8] w7 w8) ∧ 
   (
   Calls Try.prog 18 #[(.slice A18 n19 n20)] w8 fun r w9 => ∃ i21 : Int, ∃ i22 : Int, ∃ i23 : Int, ∃ i24 : Int, ∃ i25 : Int, ∃ i26 : Int, ∃ A27 : Option Addr, ∃ n28 : Nat, ∃ n29 : Nat, ∃ i30 : Int, r = .returned (.tuple #[.agg #[.int .i64 i21, .int .i64 i22, .int .i64 i23, .int .i64 i24, .int .i64 i25, .int .i64 i26, .slice A27 n28 n29], .int .i64 i30]) ∧ (Go.Sx.Fr S w0 w9 ∧ Go.Sx.Mild [g17, g13, g8] w8 w9) ∧ 
   ∀ g31 : Nat, w0.heap.size ≤ g31 → (∀ w10 : World, Go.Sx.Fr S w0 w10 → Below w9.heap.size w9 w10 → w9.heap.size ≤ g31 → w10.heap[g31]? = some (.cells #[.int .i64 i21, .int .i64 i22, .int .i64 i23, .int .i64 i24, .int .i64 i25, .int .i64 i26, .slice A27 n28 n29] 24 (0, 0)) → 
   Calls Try.prog 19 #[(.slice A14 n15 n16)] w10 fun r w11 => ∃ i32 : Int, ∃ i33 : Int, ∃ i34 : Int, ∃ i35 : Int, ∃ i36 : Int, ∃ i37 : Int, ∃ A38 : Option Addr, ∃ n39 : Nat, ∃ n40 : Nat, ∃ i41 : Int, r = .returned (.tuple #[.agg #[.int .i64 i32, .int .i64 i33, .int .i64 i34, .int .i64 i35, .int .i64 i36, .int .i64 i37, .slice A38 n39 n40], .int .i64 i41]) ∧ (Go.Sx.Fr S w0 w11 ∧ Go.Sx.Mild [g31, g17, g13, g8] w10 w11) ∧ 
   ∀ g42 : Nat, w0.heap.size ≤ g42 → (∀ w12 : World, Go.Sx.Fr S w0 w12 → Below w11.heap.size w11 w12 → w11.heap.size ≤ g42 → w12.heap[g42]? = some (.cells #[.int .i64 i32, .int .i64 i33, .int .i64 i34, .int .i64 i35, .int .i64 i36, .int .i64 i37, .slice A38 n39 n40] 24 (0, 0)) → 
   Calls Try.prog 17 #[(.agg #[.int .i64 i21, .int .i64 i22, .int .i64 i23, .int .i64 i24, .int .i64 i25, .int .i64 i26, .slice A27 n28 n29]), (.agg #[.int .i64 i32, .int .i64 i33, .int .i64 i34, .int .i64 i35, .int .i64 i36, .int .i64 i37, .slice A38 n39 n40])] w12 fun r w13 => ∃ b43 : Bool, r = .returned (.bool b43) ∧ (Go.Sx.Fr S w0 w13 ∧ Go.Sx.Mild [g42, g31, g17, g13, g8] w12 w13) ∧ 
   ((b4 = true →
   ((b43 = true →
    (R (.returned (.bool (i30 == i41))) w13)) ∧
    (b43 = false →
    (R (.returned (.bool false)) w13)))) ∧
   (b4 = false →
   (R (.returned (.bool false)) w13))))))))) ∧
  (b3 = false →
  ∀ g13 : Nat, w0.heap.size ≤ g13 → (∀ w5 : World, Go.Sx.Fr S w0 w5 → Below w4.heap.size w4 w5 → w4.heap.size ≤ g13 → w5.heap[g13]? = some (.cells #[] 5 (0, 0)) → 
   ∃ w6 : World, ∃ A14 : Option Addr, ∃ n15 : Nat, ∃ n16 : Nat, (Builtin.append_ #[22, 22] 22 #[(.slice (some ⟨g13, 0, none⟩) 0 0), (.slice A9 n10 n11)]).run Try.prog w5 = .ok (.slice A14 n15 n16) w6 ∧ (Go.Sx.Fr S w0 w6 ∧ Go.Sx.Mild [g13, g8] w5 w6) ∧ 
   (
   Calls Try.prog 18 #[(.slice A14 n15 n16)] w6 fun r w7 => ∃ i17 : Int, ∃ i18 : Int, ∃ i19 : Int, ∃ i20 : Int, ∃ i21 : Int, ∃ i22 : Int, ∃ A23 : Option Addr, ∃ n24 : Nat, ∃ n25 : Nat, ∃ i26 : Int, r = .returned (.tuple #[.agg #[.int .i64 i17, .int .i64 i18, .int .i64 i19, .int .i64 i20, .int .i64 i21, .int .i64 i22, .slice A23 n24 n25], .int .i64 i26]) ∧ (Go.Sx.Fr S w0 w7 ∧ Go.Sx.Mild [g13, g8] w6 w7) ∧ 
   ∀ g27 : Nat, w0.heap.size ≤ g27 → (∀ w8 : World, Go.Sx.Fr S w0 w8 → Below w7.heap.size w7 w8 → w7.heap.size ≤ g27 → w8.heap[g27]? = some (.cells #[.int .i64 i17, .int .i64 i18, .int .i64 i19, .int .i64 i20, .int .i64 i21, .int .i64 i22, .slice A23 n24 n25] 24 (0, 0)) → 
   Calls Try.prog 19 #[(.slice A9 n10 n11)] w8 fun r w9 => ∃ i28 : Int, ∃ i29 : Int, ∃ i30 : Int, ∃ i31 : Int, ∃ i32 : Int, ∃ i33 : Int, ∃ A34 : Option Addr, ∃ n35 : Nat, ∃ n36 : Nat, ∃ i37 : Int, r = .returned (.tuple #[.agg #[.int .i64 i28, .int .i64 i29, .int .i64 i30, .int .i64 i31, .int .i64 i32, .int .i64 i33, .slice A34 n35 n36], .int .i64 i37]) ∧ (Go.Sx.Fr S w0 w9 ∧ Go.Sx.Mild [g27, g13, g8] w8 w9) ∧ 
   ∀ g38 : Nat, w0.heap.size ≤ g38 → (∀ w10 : World, Go.Sx.Fr S w0 w10 → Below w9.heap.size w9 w10 → w9.heap.size ≤ g38 → w10.heap[g38]? = some (.cells #[.int .i64 i28, .int .i64 i29, .int .i64 i30, .int .i64 i31, .int .i64 i32, .int .i64 i33, .slice A34 n35 n36] 24 (0, 0)) → 
   Calls Try.prog 17 #[(.agg #[.int .i64 i17, .int .i64 i18, .int .i64 i19, .int .i64 i20, .int .i64 i21, .int .i64 i22, .slice A23 n24 n25]), (.agg #[.int .i64 i28, .int .i64 i29, .int .i64 i30, .int .i64 i31, .int .i64 i32, .int .i64 i33, .slice A34 n35 n36])] w10 fun r w11 => ∃ b39 : Bool, r = .returned (.bool b39) ∧ (Go.Sx.Fr S w0 w11 ∧ Go.Sx.Mild [g38, g27, g13, g8] w10 w11) ∧ 
   ((b4 = true →
   ((b39 = true →
    (R (.returned (.bool (i26 == i37))) w11)) ∧
    (b39 = false →
    (R (.returned (.bool false)) w11)))) ∧
   (b4 = false →
   (R (.returned (.bool false)) w11))))))))))))) ∧
 ((n1 : Int) ≤ (1000 : Int) →
 ∀ g5 : Nat, w0.heap.size ≤ g5 → (∀ w2 : World, Go.Sx.Fr S w0 w2 → Below w1.heap.size w1 w2 → w1.heap.size ≤ g5 → w2.heap[g5]? = some (.cells #[] 5 (0, 0)) → 
  ∃ w3 : World, ∃ A6 : Option Addr, ∃ n7 : Nat, ∃ n8 : Nat, (Builtin.append_ #[22, 22] 22 #[(.slice (some ⟨g5, 0, none⟩) 0 0), (.slice A0 n1 n2)]).run Try.prog w2 = .ok (.slice A6 n7 n8) w3 ∧ (Go.Sx.Fr S w0 w3 ∧ Go.Sx.Mild [g5] w2 w3) ∧ 
  (
  Calls Try.prog 16 #[(.slice A0 n1 n2)] w3 fun r w4 => ∃ i9 : Int, r = .returned (.int .u32 i9) ∧ (Go.Sx.Fr S w0 w4 ∧ Go.Sx.Mild [g5] w3 w4) ∧ 
  ((b3 = true →
  ∀ g10 : Nat, w0.heap.size ≤ g10 → (∀ w5 : World, Go.Sx.Fr S w0 w5 → Below w4.heap.size w4 w5 → w4.heap.size ≤ g10 → w5.heap[g10]? = some (.cells #[.int .u8 (IntKind.u8.wrap i9), .int .u8 (IntKind.u8.wrap (Int.fdiv i9 (2 ^ 8))), .int .u8 (IntKind.u8.wrap (Int.fdiv i9 (2 ^ 16))), .int .u8 (IntKind.u8.wrap (Int.fdiv i9 (2 ^ 24)))] 5 (0, 0)) → 
   ∃ w6 : World, ∃ A11 : Option Addr, ∃ n12 : Nat, ∃ n13 : Nat, (Builtin.append_ #[22, 22] 22 #[(.slice A6 n7 n8), (.slice (some ⟨g10, 0, none⟩) 4 4)]).run Try.prog w5 = .ok (.slice A11 n12 n13) w6 ∧ (Go.Sx.Fr S w0 w6 ∧ Go.Sx.Mild [g10, g5] w5 w6) ∧ 
   ∀ g14 : Nat, w0.heap.size ≤ g14 → (∀ w7 : World, Go.Sx.Fr S w0 w7 → Below w6.heap.size w6 w7 → w6.heap.size ≤ g14 → w7.heap[g14]? = some (.cells #[] 5 (0, 0)) → 
   ∃ w8 : World, ∃ A15 : Option Addr, ∃ n16 : Nat, ∃ n17 : Nat, (Builtin.append_ #[22, 22] 22 #[(.slice (some ⟨g14, 0, none⟩) 0 0), (.slice A11 n12 n13)]).run Try.prog w7 = .ok (.slice A15 n16 n17) w8 ∧ (Go.Sx.Fr S w0 w8 ∧ Go.Sx.Mild [g14, g10, g5] w7 w8) ∧ 
   (
   Calls Try.prog 18 #[(.slice A15 n16 n17)] w8 fun r w9 => ∃ i18 : Int, ∃ i19 : Int, ∃ i20 : Int, ∃ i21 : Int, ∃ i22 : Int, ∃ i23 : Int, ∃ A24 : Option Addr, ∃ n25 : Nat, ∃ n26 : Nat, ∃ i27 : Int, r = .returned (.tuple #[.agg #[.int .i64 i18, .int .i64 i19, .int .i64 i20, .int .i64 i21, .int .i64 i22, .int .i64 i23, .slice A24 n25 n26], .int .i64 i27]) ∧ (Go.Sx.Fr S w0 w9 ∧ Go.Sx.Mild [g14, g10, g5] w8 w9) ∧ 
   ∀ g28 : Nat, w0.heap.size ≤ g28 → (∀ w10 : World, Go.Sx.Fr S w0 w10 → Below w9.heap.size w9 w10 → w9.heap.size ≤ g28 → w10.heap[g28]? = some (.cells #[.int .i64 i18, .int .i64 i19, .int .i64 i20, .int .i64 i21, .int .i64 i22, .int .i64 i23, .slice A24 n25 n26] 24 (0, 0)) → 
   Calls Try.prog 19 #[(.slice A11 n12 n13)] w10 fun r w11 => ∃ i29 : Int, ∃ i30 : Int, ∃ i31 : Int, ∃ i32 : Int, ∃ i33 : Int, ∃ i34 : Int, ∃ A35 : Option Addr, ∃ n36 : Nat, ∃ n37 : Nat, ∃ i38 : Int, r = .returned (.tuple #[.agg #[.int .i64 i29, .int .i64 i30, .int .i64 i31, .int .i64 i32, .int .i64 i33, .int .i64 i34, .slice A35 n36 n37], .int .i64 i38]) ∧ (Go.Sx.Fr S w0 w11 ∧ Go.Sx.Mild [g28, g14, g10, g5] w10 w11) ∧ 
   ∀ g39 : Nat, w0.heap.size ≤ g39 → (∀ w12 : World, Go.Sx.Fr S w0 w12 → Below w11.heap.size w11 w12 → w11.heap.size ≤ g39 → w12.heap[g39]? = some (.cells #[.int .i64 i29, .int .i64 i30, .int .i64 i31, .int .i64 i32, .int .i64 i33, .int .i64 i34, .slice A35 n36 n37] 24 (0, 0)) → 
   Calls Try.prog 17 #[(.agg #[.int .i64 i18, .int .i64 i19, .int .i64 i20, .int .i64 i21, .int .i64 i22, .int .i64 i23, .slice A24 n25 n26]), (.agg #[.int .i64 i29, .int .i64 i30, .int .i64 i31, .int .i64 i32, .int .i64 i33, .int .i64 i34, .slice A35 n36 n37])] w12 fun r w13 => ∃ b40 : Bool, r = .returned (.bool b40) ∧ (Go.Sx.Fr S w0 w13 ∧ Go.Sx.Mild [g39, g28, g14, g10, g5] w12 w13) ∧ 
   ((b4 = true →
   ((b40 = true →
    (R (.returned (.bool (i27 == i38))) w13)) ∧
    (b40 = false →
    (R (.returned (.bool false)) w13)))) ∧
   (b4 = false →
   (R (.returned (.bool false)) w13))))))))) ∧
  (b3 = false →
  ∀ g10 : Nat, w0.heap.size ≤ g10 → (∀ w5 : World, Go.Sx.Fr S w0 w5 → Below w4.heap.size w4 w5 → w4.heap.size ≤ g10 → w5.heap[g10]? = some (.cells #[] 5 (0, 0)) → 
   ∃ w6 : World, ∃ A11 : Option Addr, ∃ n12 : Nat, ∃ n13 : Nat, (Builtin.append_ #[22, 22] 22 #[(.slice (some ⟨g10, 0, none⟩) 0 0), (.slice A6 n7 n8)]).run Try.prog w5 = .ok (.slice A11 n12 n13) w6 ∧ (Go.Sx.Fr S w0 w6 ∧ Go.Sx.Mild [g10, g5] w5 w6) ∧ 
   (
   Calls Try.prog 18 #[(.slice A11 n12 n13)] w6 fun r w7 => ∃ i14 : Int, ∃ i15 : Int, ∃ i16 : Int, ∃ i17 : Int, ∃ i18 : Int, ∃ i19 : Int, ∃ A20 : Option Addr, ∃ n21 : Nat, ∃ n22 : Nat, ∃ i23 : Int, r = .returned (.tuple #[.agg #[.int .i64 i14, .int .i64 i15, .int .i64 i16, .int .i64 i17, .int .i64 i18, .int .i64 i19, .slice A20 n21 n22], .int .i64 i23]) ∧ (Go.Sx.Fr S w0 w7 ∧ Go.Sx.Mild [g10, g5] w6 w7) ∧ 
   ∀ g24 : Nat, w0.heap.size ≤ g24 → (∀ w8 : World, Go.Sx.Fr S w0 w8 → Below w7.heap.size w7 w8 → w7.heap.size ≤ g24 → w8.heap[g24]? = some (.cells #[.int .i64 i14, .int .i64 i15, .int .i64 i16, .int .i64 i17, .int .i64 i18, .int .i64 i19, .slice A20 n21 n22] 24 (0, 0)) → 
   Calls Try.prog 19 #[(.slice A6 n7 n8)] w8 fun r w9 => ∃ i25 : Int, ∃ i26 : Int, ∃ i27 : Int, ∃ i28 : Int, ∃ i29 : Int, ∃ i30 : Int, ∃ A31 : Option Addr, ∃ n32 : Nat, ∃ n33 : Nat, ∃ i34 : Int, r = .returned (.tuple #[.agg #[.int .i64 i25, .int .i64 i26, .int .i64 i27, .int .i64 i28, .int .i64 i29, .int .i64 i30, .slice A31 n32 n33], .int .i64 i34]) ∧ (Go.Sx.Fr S w0 w9 ∧ Go.Sx.Mild [g24, g10, g5] w8 w9) ∧ 
   ∀ g35 : Nat, w0.heap.size ≤ g35 → (∀ w10 : World, Go.Sx.Fr S w0 w10 → Below w9.heap.size w9 w10 → w9.heap.size ≤ g35 → w10.heap[g35]? = some (.cells #[.int .i64 i25, .int .i64 i26, .int .i64 i27, .int .i64 i28, .int .i64 i29, .int .i64 i30, .slice A31 n32 n33] 24 (0, 0)) → 
   Calls Try.prog 17 #[(.agg #[.int .i64 i14, .int .i64 i15, .int .i64 i16, .int .i64 i17, .int .i64 i18, .int .i64 i19, .slice A20 n21 n22]), (.agg #[.int .i64 i25, .int .i64 i26, .int .i64 i27, .int .i64 i28, .int .i64 i29, .int .i64 i30, .slice A31 n32 n33])] w10 fun r w11 => ∃ b36 : Bool, r = .returned (.bool b36) ∧ (Go.Sx.Fr S w0 w11 ∧ Go.Sx.Mild [g35, g24, g10, g5] w10 w11) ∧ 
   ((b4 = true →
   ((b36 = true →
    (R (.returned (.bool (i23 == i34))) w11)) ∧
    (b36 = false →
    (R (.returned (.bool false)) w11)))) ∧
   (b4 = false →
   (R (.returned (.bool false)) w11))))))))))))))) :
    Calls Try.prog 6 #[(.slice A0 n1 n2), (.bool b3)] w0 R :=
  Go.Sx.fn_sound0 (P := Try.prog) (S := S) (w0 := w0) (R := R) (ws := []) (an := [⟨999999, [], [], 0⟩]) (f := 6) (n := 4) (xs := [.one (.slice (.var 0) (.var 1) (.var 2)), .one (.bool (.var 3))]) (e := [.a A0, .n n1, .n n2, .b b3]) rfl (by kernel_rfl) (Eq.mp (by kernel_rfl) h)


/-- tracery/tracerylaw15.FrameBack: what is left of it. -/
theorem frameBack_sx (R : Ending → World → Prop) (S : Nat → Prop) (w0 : World) (i0 : Int) (i1 : Int) (i2 : Int) (i3 : Int) (i4 : Int) (i5 : Int) (A6 : Option Addr) (n7 : Nat) (n8 : Nat) (i9 : Int) (i10 : Int) (i11 : Int) (i12 : Int) (i13 : Int) (i14 : Int) (A15 : Option Addr) (n16 : Nat) (n17 : Nat) (i18 : Int) (i19 : Int) (i20 : Int) (i21 : Int) (i22 : Int) (h :
 ∀ g23 : Nat, w0.heap.size ≤ g23 → ∀ g24 : Nat, w0.heap.size ≤ g24 → ∀ g25 : Nat, w0.heap.size ≤ g25 → (∀ w1 : World, Go.Sx.Fr S w0 w1 → Below w0.heap.size w0 w1 → w0.heap.size ≤ g25 → w1.heap[g25]? = some (.cells #[.int .i64 i18, .int .u8 i19, .int .u8 i20, .int .u8 i21, .int .u8 i22] 43 (0, 0)) → w0.heap.size ≤ g24 → w1.heap[g24]? = some (.cells #[.int .i64 i9, .int .i64 i10, .int .i64 i11, .int .i64 i12, .int .i64 i13, .int .i64 i14, .slice A15 n16 n17] 24 (0, 0)) → w0.heap.size ≤ g23 → w1.heap[g23]? = some (.cells #[.int .i64 i0, .int .i64 i1, .int .i64 i2, .int .i64 i3, .int .i64 i4, .int .i64 i5, .slice A6 n7 n8] 24 (0, 0)) → 
 Calls Try.prog 9 #[] w1 fun r w2 => ∃ b26 : Bool, r = .returned (.bool b26) ∧ (Go.Sx.Fr S w0 w2 ∧ Go.Sx.Mild [g25, g24, g23] w1 w2) ∧ 
 (
 Calls Try.prog 10 #[(.agg #[.int .i64 i0, .int .i64 i1, .int .i64 i2, .int .i64 i3, .int .i64 i4, .int .i64 i5, .slice A6 n7 n8])] w2 fun r w3 => ∃ i27 : Int, ∃ i28 : Int, ∃ i29 : Int, ∃ i30 : Int, ∃ i31 : Int, ∃ i32 : Int, ∃ A33 : Option Addr, ∃ n34 : Nat, ∃ n35 : Nat, r = .returned (.agg #[.int .i64 i27, .int .i64 i28, .int .i64 i29, .int .i64 i30, .int .i64 i31, .int .i64 i32, .slice A33 n34 n35]) ∧ (Go.Sx.Fr S w0 w3 ∧ Go.Sx.Mild [g25, g24, g23] w2 w3) ∧ 
 (∀ w4 : World, Go.Sx.Fr S w0 w4 → Go.Sx.Fr (fun b => b ∈ [g23]) w3 w4 → 
 Calls Try.prog 10 #[(.agg #[.int .i64 i9, .int .i64 i10, .int .i64 i11, .int .i64 i12, .int .i64 i13, .int .i64 i14, .slice A15 n16 n17])] w4 fun r w5 => ∃ i36 : Int, ∃ i37 : Int, ∃ i38 : Int, ∃ i39 : Int, ∃ i40 : Int, ∃ i41 : Int, ∃ A42 : Option Addr, ∃ n43 : Nat, ∃ n44 : Nat, r = .returned (.agg #[.int .i64 i36, .int .i64 i37, .int .i64 i38, .int .i64 i39, .int .i64 i40, .int .i64 i41, .slice A42 n43 n44]) ∧ (Go.Sx.Fr S w0 w5 ∧ Go.Sx.Mild [g25, g24, g23] w4 w5) ∧ 
 (((1000 : Int) < (n34 : Int) →
 (∀ w6 : World, Go.Sx.Fr S w0 w6 → Go.Sx.Fr (fun b => b ∈ [g24]) w5 w6 → R (.returned (.bool b26)) w6)) ∧
 ((n34 : Int) ≤ (1000 : Int) →
 (((1000 : Int) < (n43 : Int) →
  (∀ w6 : World, Go.Sx.Fr S w0 w6 → Go.Sx.Fr (fun b => b ∈ [g24]) w5 w6 → R (.returned (.bool b26)) w6)) ∧
  ((n43 : Int) ≤ (1000 : Int) →
  (∀ w6 : World, Go.Sx.Fr S w0 w6 → Go.Sx.Fr (fun b => b ∈ [g24]) w5 w6 → 
   Calls Try.prog 11 #[(.agg #[.int .i64 i27, .int .i64 i28, .int .i64 i29, .int .i64 i30, .int .i64 i31, .int .i64 i32, .slice A33 n34 n35])] w6 fun r w7 => ∃ A45 : Option Addr, ∃ n46 : Nat, ∃ n47 : Nat, ∃ i48 : Int, r = .returned (.tuple #[.slice A45 n46 n47, .int .i64 i48]) ∧ (Go.Sx.Fr S w0 w7 ∧ Go.Sx.Mild [g25, g24, g23] w6 w7) ∧ 
   (
   Calls Try.prog 11 #[(.agg #[.int .i64 i36, .int .i64 i37, .int .i64 i38, .int .i64 i39, .int .i64 i40, .int .i64 i41, .slice A42 n43 n44])] w7 fun r w8 => ∃ A49 : Option Addr, ∃ n50 : Nat, ∃ n51 : Nat, ∃ i52 : Int, r = .returned (.tuple #[.slice A49 n50 n51, .int .i64 i52]) ∧ (Go.Sx.Fr S w0 w8 ∧ Go.Sx.Mild [g25, g24, g23] w7 w8) ∧ 
   ((¬ i48 = (0 : Int) →
   ((b26 = true →
    (R (.returned (.bool ((n46 : Int) == (0 : Int)))) w8)) ∧
    (b26 = false →
    (R (.returned (.bool false)) w8)))) ∧
   (i48 = (0 : Int) →
   ((¬ i52 = (0 : Int) →
    ((b26 = true →
     (R (.returned (.bool true)) w8)) ∧
     (b26 = false →
     (R (.returned (.bool false)) w8)))) ∧
    (i52 = (0 : Int) →
    (
     Calls Try.prog 18 #[(.slice A45 n46 n47)] w8 fun r w9 => ∃ i53 : Int, ∃ i54 : Int, ∃ i55 : Int, ∃ i56 : Int, ∃ i57 : Int, ∃ i58 : Int, ∃ A59 : Option Addr, ∃ n60 : Nat, ∃ n61 : Nat, ∃ i62 : Int, r = .returned (.tuple #[.agg #[.int .i64 i53, .int .i64 i54, .int .i64 i55, .int .i64 i56, .int .i64 i57, .int .i64 i58, .slice A59 n60 n61], .int .i64 i62]) ∧ (Go.Sx.Fr S w0 w9 ∧ Go.Sx.Mild [g25, g24, g23] w8 w9) ∧ 
     ∀ g63 : Nat, w0.heap.size ≤ g63 → (∀ w10 : World, Go.Sx.Fr S w0 w10 → Below w9.heap.size w9 w10 → w9.heap.size ≤ g63 → w10.heap[g63]? = some (.cells #[.int .i64 i53, .int .i64 i54, .int .i64 i55, .int .i64 i56, .int .i64 i57, .int .i64 i58, .slice A59 n60 n61] 24 (0, 0)) → 
     Calls Try.prog 17 #[(.agg #[.int .i64 i53, .int .i64 i54, .int .i64 i55, .int .i64 i56, .int .i64 i57, .int .i64 i58, .slice A59 n60 n61]), (.agg #[.int .i64 i27, .int .i64 i28, .int .i64 i29, .int .i64 i30, .int .i64 i31, .int .i64 i32, .slice A33 n34 n35])] w10 fun r w11 => ∃ b64 : Bool, r = .returned (.bool b64) ∧ (Go.Sx.Fr S w0 w11 ∧ Go.Sx.Mild [g63, g25, g24, g23] w10 w11) ∧ 
     (
     Calls Try.prog 17 #[(.agg #[.int .i64 i27, .int .i64 i28, .int .i64 i29, .int .i64 i30, .int .i64 i31, .int .i64 i32, .slice A33 n34 n35]), (.agg #[.int .i64 i36, .int .i64 i37, .int .i64 i38, .int .i64 i39, .int .i64 i40, .int .i64 i41, .slice A42 n43 n44])] w11 fun r w12 => ∃ b65 : Bool, r = .returned (.bool b65) ∧ (Go.Sx.Fr S w0 w12 ∧ Go.Sx.Mild [g63, g25, g24, g23] w11 w12) ∧ 
     ((b26 = false →
     (R (.returned (.bool false)) w12)) ∧
     (b26 = true →
     ((¬ i62 = (0 : Int) →
      (R (.returned (.bool false)) w12)) ∧
      (i62 = (0 : Int) →
      ((b64 = false →
       (R (.returned (.bool false)) w12)) ∧
       (b64 = true →
       (∃ s66 : ByteArray, (convert 22 9 (.slice A45 n46 n47)).run Try.prog w12 = .ok (.string s66) w12 ∧
        (∃ s67 : ByteArray, (convert 22 9 (.slice A49 n50 n51)).run Try.prog w12 = .ok (.string s67) w12 ∧
        (∃ b68 : Bool, (binOp .neq 4 (.bool ((s66).toList == (s67).toList)) (.bool b65)).run Try.prog w12 = .ok (.bool b68) w12 ∧
        ((b68 = true →
        (R (.returned (.bool false)) w12)) ∧
        (b68 = false →
        ((i18 < (0 : Int) →
         (R (.returned (.bool true)) w12)) ∧
         ((0 : Int) ≤ i18 →
         (((n46 : Int) ≤ i18 →
          (R (.returned (.bool true)) w12)) ∧
          (i18 < (n46 : Int) →
          (∃ (I0 : Bool → Int → World → Prop) (M0 : Bool → Int → World → Nat), (I0 false (0 : Int) w12) ∧
           ∀ b69 : Bool, ∀ i70 : Int, ∀ w13 : World, Go.Sx.Fr S w0 w13 → I0 b69 i70 w13 → 
            ((i70 < (4 : Int) →
            (((IntKind.i64.wrap (i18 + i70)) < (n46 : Int) →
             (
              ((0 : Int) ≤ (IntKind.i64.wrap (i18 + i70)) ∧ (IntKind.i64.wrap (i18 + i70)) < (n46 : Int) ∧ ∃ p72 : Nat, ∃ o73 : Nat, A45 = some ⟨p72, o73, none⟩ ∧
              (∀ w14 : World, Go.Sx.Fr S w0 w14 → Below w13.heap.size w13 w14 → ∃ i74 : Int, Go.Sx.CellsAt w14 p72 (o73 + ((IntKind.i64.wrap (i18 + i70))).toNat * 1 + 0) [.int .u8 i74] ∧ (p72 < w13.heap.size ∧ p72 ∉ []) ∧ 
              ((i70 = (0 : Int) →
              ((0 : Int) ≤ (IntKind.i64.wrap (i18 + i70)) ∧ (IntKind.i64.wrap (i18 + i70)) < (n46 : Int) ∧ ∃ p75 : Nat, ∃ o76 : Nat, A45 = some ⟨p75, o76, none⟩ ∧
               (
               ∃ w15 : World, (Instr.storeAt 5 (.pointer (some ⟨p75, o76 + ((IntKind.i64.wrap (i18 + i70))).toNat * 1 + 0, none⟩)) (.int .u8 (bits .xor .u8 i74 i19))).run Try.prog w14 = .ok () w15 ∧ (Go.Sx.Fr S w0 w15 ∧ Go.Sx.Mild [g63, g25, g24, g23] w14 w15) ∧ 
               ((b69 = true →
               (I0 true (IntKind.i64.wrap (i70 + (1 : Int))) w15 ∧ M0 true (IntKind.i64.wrap (i70 + (1 : Int))) w15 < M0 b69 i70 w13)) ∧
               (b69 = false →
               (I0 (i19 != (0 : Int)) (IntKind.i64.wrap (i70 + (1 : Int))) w15 ∧ M0 (i19 != (0 : Int)) (IntKind.i64.wrap (i70 + (1 : Int))) w15 < M0 b69 i70 w13)))))) ∧
              (¬ i70 = (0 : Int) →
              ((i70 = (1 : Int) →
               ((0 : Int) ≤ (IntKind.i64.wrap (i18 + i70)) ∧ (IntKind.i64.wrap (i18 + i70)) < (n46 : Int) ∧ ∃ p75 : Nat, ∃ o76 : Nat, A45 = some ⟨p75, o76, none⟩ ∧
                (
                ∃ w15 : World, (Instr.storeAt 5 (.pointer (some ⟨p75, o76 + ((IntKind.i64.wrap (i18 + i70))).toNat * 1 + 0, none⟩)) (.int .u8 (bits .xor .u8 i74 i20))).run Try.prog w14 = .ok () w15 ∧ (Go.Sx.Fr S w0 w15 ∧ Go.Sx.Mild [g63, g25, g24, g23] w14 w15) ∧ 
                ((b69 = true →
                (I0 true (IntKind.i64.wrap (i70 + (1 : Int))) w15 ∧ M0 true (IntKind.i64.wrap (i70 + (1 : Int))) w15 < M0 b69 i70 w13)) ∧
                (b69 = false →
                (I0 (i20 != (0 : Int)) (IntKind.i64.wrap (i70 + (1 : Int))) w15 ∧ M0 (i20 != (0 : Int)) (IntKind.i64.wrap (i70 + (1 : Int))) w15 < M0 b69 i70 w13)))))) ∧
               (¬ i70 = (1 : Int) →
               ((i70 = (2 : Int) →
                ((0 : Int) ≤ (IntKind.i64.wrap (i18 + i70)) ∧ (IntKind.i64.wrap (i18 + i70)) < (n46 : Int) ∧ ∃ p75 : Nat, ∃ o76 : Nat, A45 = some ⟨p75, o76, none⟩ ∧
                 (
                 ∃ w15 : World, (Instr.storeAt 5 (.pointer (some ⟨p75, o76 + ((IntKind.i64.wrap (i18 + i70))).toNat * 1 + 0, none⟩)) (.int .u8 (bits .xor .u8 i74 i21))).run Try.prog w14 = .ok () w15 ∧ (Go.Sx.Fr S w0 w15 ∧ Go.Sx.Mild [g63, g25, g24, g23] w14 w15) ∧ 
                 ((b69 = true →
                 (I0 true (IntKind.i64.wrap (i70 + (1 : Int))) w15 ∧ M0 true (IntKind.i64.wrap (i70 + (1 : Int))) w15 < M0 b69 i70 w13)) ∧
                 (b69 = false →
                 (I0 (i21 != (0 : Int)) (IntKind.i64.wrap (i70 + (1 : Int))) w15 ∧ M0 (i21 != (0 : Int)) (IntKind.i64.wrap (i70 + (1 : Int))) w15 < M0 b69 i70 w13)))))) ∧
                (¬ i70 = (2 : Int) →
                (i70 = (3 : Int) ∧
                 ((0 : Int) ≤ (IntKind.i64.wrap (i18 + i70)) ∧ (IntKind.i64.wrap (i18 + i70)) < (n46 : Int) ∧ ∃ p75 : Nat, ∃ o76 : Nat, A45 = some ⟨p75, o76, none⟩ ∧
                 (
                 ∃ w15 : World, (Instr.storeAt 5 (.pointer (some ⟨p75, o76 + ((IntKind.i64.wrap (i18 + i70))).toNat * 1 + 0, none⟩)) (.int .u8 (bits .xor .u8 i74 i22))).run Try.prog w14 = .ok () w15 ∧ (Go.Sx.Fr S w0 w15 ∧ Go.Sx.Mild [g63, g25, g24, g23] w14 w15) ∧ 
                 ((b69 = true →
                 (I0 true (IntKind.i64.wrap (i70 + (1 : Int))) w15 ∧ M0 true (IntKind.i64.wrap (i70 + (1 : Int))) w15 < M0 b69 i70 w13)) ∧
                 (b69 = false →
                 (i70 = (3 : Int) ∧
                  (I0 (i22 != (0 : Int)) (IntKind.i64.wrap (i70 + (1 : Int))) w15 ∧ M0 (i22 != (0 : Int)) (IntKind.i64.wrap (i70 + (1 : Int))) w15 < M0 b69 i70 w13))))))))))))))))) ∧
             ((n46 : Int) ≤ (IntKind.i64.wrap (i18 + i70)) →
             (
              Calls Try.prog 18 #[(.slice A45 n46 n47)] w13 fun r w14 => ∃ i71 : Int, ∃ i72 : Int, ∃ i73 : Int, ∃ i74 : Int, ∃ i75 : Int, ∃ i76 : Int, ∃ A77 : Option Addr, ∃ n78 : Nat, ∃ n79 : Nat, ∃ i80 : Int, r = .returned (.tuple #[.agg #[.int .i64 i71, .int .i64 i72, .int .i64 i73, .int .i64 i74, .int .i64 i75, .int .i64 i76, .slice A77 n78 n79], .int .i64 i80]) ∧ (Go.Sx.Fr S w0 w14 ∧ Go.Sx.Mild [g63, g25, g24, g23] w13 w14) ∧ 
              ∀ g81 : Nat, w0.heap.size ≤ g81 → (∀ w15 : World, Go.Sx.Fr S w0 w15 → Below w14.heap.size w14 w15 → w14.heap.size ≤ g81 → w15.heap[g81]? = some (.cells #[.int .i64 i71, .int .i64 i72, .int .i64 i73, .int .i64 i74, .int .i64 i75, .int .i64 i76, .slice A77 n78 n79] 24 (0, 0)) → ∃ b82 : Bool, (binOp .eql 4 (.bool (i80 == (2 : Int))) (.bool b69)).run Try.prog w15 = .ok (.bool b82) w15 ∧
              (R (.returned (.bool b82)) w15)))))) ∧
            ((4 : Int) ≤ i70 →
            (
             Calls Try.prog 18 #[(.slice A45 n46 n47)] w13 fun r w14 => ∃ i71 : Int, ∃ i72 : Int, ∃ i73 : Int, ∃ i74 : Int, ∃ i75 : Int, ∃ i76 : Int, ∃ A77 : Option Addr, ∃ n78 : Nat, ∃ n79 : Nat, ∃ i80 : Int, r = .returned (.tuple #[.agg #[.int .i64 i71, .int .i64 i72, .int .i64 i73, .int .i64 i74, .int .i64 i75, .int .i64 i76, .slice A77 n78 n79], .int .i64 i80]) ∧ (Go.Sx.Fr S w0 w14 ∧ Go.Sx.Mild [g63, g25, g24, g23] w13 w14) ∧ 
             ∀ g81 : Nat, w0.heap.size ≤ g81 → (∀ w15 : World, Go.Sx.Fr S w0 w15 → Below w14.heap.size w14 w15 → w14.heap.size ≤ g81 → w15.heap[g81]? = some (.cells #[.int .i64 i71, .int .i64 i72, .int .i64 i73, .int .i64 i74, .int .i64 i75, .int .i64 i76, .slice A77 n78 n79] 24 (0, 0)) → ∃ b82 : Bool, (binOp .eql 4 (.bool (i80 == (2 : Int))) (.bool b69)).run Try.prog w15 = .ok (.bool b82) w15 ∧
             (R (.returned (.bool b82)) w15)))))))))))))))))))))))))))))))))))))) :
    Calls Try.prog 7 #[(.agg #[.int .i64 i0, .int .i64 i1, .int .i64 i2, .int .i64 i3, .int .i64 i4, .int .i64 i5, .slice A6 n7 n8]), (.agg #[.int .i64 i9, .int .i64 i10, .int .i64 i11, .int .i64 i12, .int .i64 i13, .int .i64 i14, .slice A15 n16 n17]), (.agg #[.int .i64 i18, .int .u8 i19, .int .u8 i20, .int .u8 i21, .int .u8 i22])] w0 R :=
  Go.Sx.fn_sound0 (P := Try.prog) (S := S) (w0 := w0) (R := R) (ws := []) (an := [⟨999999, [], [], 0⟩]) (f := 7) (n := 23) (xs := [.agg [.int .i64 (.var 0), .int .i64 (.var 1), .int .i64 (.var 2), .int .i64 (.var 3), .int .i64 (.var 4), .int .i64 (.var 5), .slice (.var 6) (.var 7) (.var 8)], .agg [.int .i64 (.var 9), .int .i64 (.var 10), .int .i64 (.var 11), .int .i64 (.var 12), .int .i64 (.var 13), .int .i64 (.var 14), .slice (.var 15) (.var 16) (.var 17)], .agg [.int .i64 (.var 18), .int .u8 (.var 19), .int .u8 (.var 20), .int .u8 (.var 21), .int .u8 (.var 22)]]) (e := [.i i0, .i i1, .i i2, .i i3, .i i4, .i i5, .a A6, .n n7, .n n8, .i i9, .i i10, .i i11, .i i12, .i i13, .i i14, .a A15, .n n16, .n n17, .i i18, .i i19, .i i20, .i i21, .i i22]) rfl (by kernel_rfl) (Eq.mp (by kernel_rfl) h)


/-- tracery/tracerylaw15.FrameShort: what is left of it. -/
theorem frameShort_sx (R : Ending → World → Prop) (S : Nat → Prop) (w0 : World) (i0 : Int) (i1 : Int) (i2 : Int) (i3 : Int) (i4 : Int) (i5 : Int) (A6 : Option Addr) (n7 : Nat) (n8 : Nat) (A9 : Option Addr) (n10 : Nat) (n11 : Nat) (h :
 ∀ g12 : Nat, w0.heap.size ≤ g12 → (∀ w1 : World, Go.Sx.Fr S w0 w1 → Below w0.heap.size w0 w1 → w0.heap.size ≤ g12 → w1.heap[g12]? = some (.cells #[.int .i64 i0, .int .i64 i1, .int .i64 i2, .int .i64 i3, .int .i64 i4, .int .i64 i5, .slice A6 n7 n8] 24 (0, 0)) → 
 Calls Try.prog 9 #[] w1 fun r w2 => ∃ b13 : Bool, r = .returned (.bool b13) ∧ (Go.Sx.Fr S w0 w2 ∧ Go.Sx.Mild [g12] w1 w2) ∧ 
 (
 Calls Try.prog 10 #[(.agg #[.int .i64 i0, .int .i64 i1, .int .i64 i2, .int .i64 i3, .int .i64 i4, .int .i64 i5, .slice A6 n7 n8])] w2 fun r w3 => ∃ i14 : Int, ∃ i15 : Int, ∃ i16 : Int, ∃ i17 : Int, ∃ i18 : Int, ∃ i19 : Int, ∃ A20 : Option Addr, ∃ n21 : Nat, ∃ n22 : Nat, r = .returned (.agg #[.int .i64 i14, .int .i64 i15, .int .i64 i16, .int .i64 i17, .int .i64 i18, .int .i64 i19, .slice A20 n21 n22]) ∧ (Go.Sx.Fr S w0 w3 ∧ Go.Sx.Mild [g12] w2 w3) ∧ 
 (((18 : Int) < (n10 : Int) →
 (∀ w4 : World, Go.Sx.Fr S w0 w4 → Go.Sx.Fr (fun b => b ∈ [g12]) w3 w4 → ∃ A23 : Option Addr, ∃ n24 : Nat, ∃ n25 : Nat, (Instr.sliceAt 22 (.slice A9 n10 n11) none (some (.int .i64 (18 : Int))) none).run Try.prog w4 = .ok (.slice A23 n24 n25) w4 ∧
  ∀ g26 : Nat, w0.heap.size ≤ g26 → (∀ w5 : World, Go.Sx.Fr S w0 w5 → Below w4.heap.size w4 w5 → w4.heap.size ≤ g26 → w5.heap[g26]? = some (.cells #[] 5 (0, 0)) → 
  ∃ w6 : World, ∃ A27 : Option Addr, ∃ n28 : Nat, ∃ n29 : Nat, (Builtin.append_ #[22, 22] 22 #[(.slice (some ⟨g26, 0, none⟩) 0 0), (.slice A23 n24 n25)]).run Try.prog w5 = .ok (.slice A27 n28 n29) w6 ∧ (Go.Sx.Fr S w0 w6 ∧ Go.Sx.Mild [g26, g12] w5 w6) ∧ 
  (
  Calls Try.prog 18 #[(.slice A27 n28 n29)] w6 fun r w7 => ∃ i30 : Int, ∃ i31 : Int, ∃ i32 : Int, ∃ i33 : Int, ∃ i34 : Int, ∃ i35 : Int, ∃ A36 : Option Addr, ∃ n37 : Nat, ∃ n38 : Nat, ∃ i39 : Int, r = .returned (.tuple #[.agg #[.int .i64 i30, .int .i64 i31, .int .i64 i32, .int .i64 i33, .int .i64 i34, .int .i64 i35, .slice A36 n37 n38], .int .i64 i39]) ∧ (Go.Sx.Fr S w0 w7 ∧ Go.Sx.Mild [g26, g12] w6 w7) ∧ 
  ∀ g40 : Nat, w0.heap.size ≤ g40 → (∀ w8 : World, Go.Sx.Fr S w0 w8 → Below w7.heap.size w7 w8 → w7.heap.size ≤ g40 → w8.heap[g40]? = some (.cells #[.int .i64 i30, .int .i64 i31, .int .i64 i32, .int .i64 i33, .int .i64 i34, .int .i64 i35, .slice A36 n37 n38] 24 (0, 0)) → 
  Calls Try.prog 11 #[(.agg #[.int .i64 i14, .int .i64 i15, .int .i64 i16, .int .i64 i17, .int .i64 i18, .int .i64 i19, .slice A20 n21 n22])] w8 fun r w9 => ∃ A41 : Option Addr, ∃ n42 : Nat, ∃ n43 : Nat, ∃ i44 : Int, r = .returned (.tuple #[.slice A41 n42 n43, .int .i64 i44]) ∧ (Go.Sx.Fr S w0 w9 ∧ Go.Sx.Mild [g40, g26, g12] w8 w9) ∧ 
  ((¬ i44 = (0 : Int) →
  ((b13 = true →
   (R (.returned (.bool (i39 == (2 : Int)))) w9)) ∧
   (b13 = false →
   (R (.returned (.bool false)) w9)))) ∧
  (i44 = (0 : Int) →
  (((1000 : Int) < (n21 : Int) →
   ((b13 = true →
    (R (.returned (.bool (i39 == (2 : Int)))) w9)) ∧
    (b13 = false →
    (R (.returned (.bool false)) w9)))) ∧
   ((n21 : Int) ≤ (1000 : Int) →
   (
    Calls Try.prog 18 #[(.slice A41 n42 n43)] w9 fun r w10 => ∃ i45 : Int, ∃ i46 : Int, ∃ i47 : Int, ∃ i48 : Int, ∃ i49 : Int, ∃ i50 : Int, ∃ A51 : Option Addr, ∃ n52 : Nat, ∃ n53 : Nat, ∃ i54 : Int, r = .returned (.tuple #[.agg #[.int .i64 i45, .int .i64 i46, .int .i64 i47, .int .i64 i48, .int .i64 i49, .int .i64 i50, .slice A51 n52 n53], .int .i64 i54]) ∧ (Go.Sx.Fr S w0 w10 ∧ Go.Sx.Mild [g40, g26, g12] w9 w10) ∧ 
    ∀ g55 : Nat, w0.heap.size ≤ g55 → (∃ (I0 : Int → World → Prop) (M0 : Int → World → Nat), (∀ w11 : World, Go.Sx.Fr S w0 w11 → Below w10.heap.size w10 w11 → w10.heap.size ≤ g55 → w11.heap[g55]? = some (.cells #[.int .i64 i45, .int .i64 i46, .int .i64 i47, .int .i64 i48, .int .i64 i49, .int .i64 i50, .slice A51 n52 n53] 24 (0, 0)) → I0 (0 : Int) w11) ∧
    ∀ i56 : Int, ∀ w12 : World, Go.Sx.Fr S w0 w12 → I0 i56 w12 → 
     ((i56 < (n42 : Int) →
     ((0 : Int) ≤ i56 ∧ i56 < (n42 : Int) ∧ ∃ p57 : Nat, ∃ o58 : Nat, A41 = some ⟨p57, o58, none⟩ ∧
      (
      ∃ w13 : World, (Instr.storeAt 5 (.pointer (some ⟨p57, o58 + (i56).toNat * 1 + 0, none⟩)) (.int .u8 (7 : Int))).run Try.prog w12 = .ok () w13 ∧ (Go.Sx.Fr S w0 w13 ∧ Go.Sx.Mild [g55, g40, g26, g12] w12 w13) ∧ 
      (I0 (IntKind.i64.wrap (i56 + (1 : Int))) w13 ∧ M0 (IntKind.i64.wrap (i56 + (1 : Int))) w13 < M0 i56 w12)))) ∧
     ((n42 : Int) ≤ i56 →
     (
      Calls Try.prog 17 #[(.agg #[.int .i64 i45, .int .i64 i46, .int .i64 i47, .int .i64 i48, .int .i64 i49, .int .i64 i50, .slice A51 n52 n53]), (.agg #[.int .i64 i14, .int .i64 i15, .int .i64 i16, .int .i64 i17, .int .i64 i18, .int .i64 i19, .slice A20 n21 n22])] w12 fun r w13 => ∃ b57 : Bool, r = .returned (.bool b57) ∧ (Go.Sx.Fr S w0 w13 ∧ Go.Sx.Mild [g55, g40, g26, g12] w12 w13) ∧ 
      ((b13 = true →
      ((i39 = (2 : Int) →
       ((i54 = (0 : Int) →
        (R (.returned (.bool b57)) w13)) ∧
        (¬ i54 = (0 : Int) →
        (R (.returned (.bool false)) w13)))) ∧
       (¬ i39 = (2 : Int) →
       (R (.returned (.bool false)) w13)))) ∧
      (b13 = false →
      (R (.returned (.bool false)) w13))))))))))))))))) ∧
 ((n10 : Int) ≤ (18 : Int) →
 ∀ g23 : Nat, w0.heap.size ≤ g23 → (∀ w4 : World, Go.Sx.Fr S w0 w4 → Go.Sx.Fr (fun b => b ∈ [g12]) w3 w4 → w3.heap.size ≤ g23 → w4.heap[g23]? = some (.cells #[] 5 (0, 0)) → 
  ∃ w5 : World, ∃ A24 : Option Addr, ∃ n25 : Nat, ∃ n26 : Nat, (Builtin.append_ #[22, 22] 22 #[(.slice (some ⟨g23, 0, none⟩) 0 0), (.slice A9 n10 n11)]).run Try.prog w4 = .ok (.slice A24 n25 n26) w5 ∧ (Go.Sx.Fr S w0 w5 ∧ Go.Sx.Mild [g23, g12] w4 w5) ∧ 
  (
  Calls Try.prog 18 #[(.slice A24 n25 n26)] w5 fun r w6 => ∃ i27 : Int, ∃ i28 : Int, ∃ i29 : Int, ∃ i30 : Int, ∃ i31 : Int, ∃ i32 : Int, ∃ A33 : Option Addr, ∃ n34 : Nat, ∃ n35 : Nat, ∃ i36 : Int, r = .returned (.tuple #[.agg #[.int .i64 i27, .int .i64 i28, .int .i64 i29, .int .i64 i30, .int .i64 i31, .int .i64 i32, .slice A33 n34 n35], .int .i64 i36]) ∧ (Go.Sx.Fr S w0 w6 ∧ Go.Sx.Mild [g23, g12] w5 w6) ∧ 
  ∀ g37 : Nat, w0.heap.size ≤ g37 → (∀ w7 : World, Go.Sx.Fr S w0 w7 → Below w6.heap.size w6 w7 → w6.heap.size ≤ g37 → w7.heap[g37]? = some (.cells #[.int .i64 i27, .int .i64 i28, .int .i64 i29, .int .i64 i30, .int .i64 i31, .int .i64 i32, .slice A33 n34 n35] 24 (0, 0)) → 
  Calls Try.prog 11 #[(.agg #[.int .i64 i14, .int .i64 i15, .int .i64 i16, .int .i64 i17, .int .i64 i18, .int .i64 i19, .slice A20 n21 n22])] w7 fun r w8 => ∃ A38 : Option Addr, ∃ n39 : Nat, ∃ n40 : Nat, ∃ i41 : Int, r = .returned (.tuple #[.slice A38 n39 n40, .int .i64 i41]) ∧ (Go.Sx.Fr S w0 w8 ∧ Go.Sx.Mild [g37, g23, g12] w7 w8) ∧ 
  ((¬ i41 = (0 : Int) →
  ((b13 = true →
   (R (.returned (.bool (i36 == (2 : Int)))) w8)) ∧
   (b13 = false →
   (R (.returned (.bool false)) w8)))) ∧
  (i41 = (0 : Int) →
  (((1000 : Int) < (n21 : Int) →
   ((b13 = true →
    (R (.returned (.bool (i36 == (2 : Int)))) w8)) ∧
    (b13 = false →
    (R (.returned (.bool false)) w8)))) ∧
   ((n21 : Int) ≤ (1000 : Int) →
   (
    Calls Try.prog 18 #[(.slice A38 n39 n40)] w8 fun r w9 => ∃ i42 : Int, ∃ i43 : Int, ∃ i44 : Int, ∃ i45 : Int, ∃ i46 : Int, ∃ i47 : Int, ∃ A48 : Option Addr, ∃ n49 : Nat, ∃ n50 : Nat, ∃ i51 : Int, r = .returned (.tuple #[.agg #[.int .i64 i42, .int .i64 i43, .int .i64 i44, .int .i64 i45, .int .i64 i46, .int .i64 i47, .slice A48 n49 n50], .int .i64 i51]) ∧ (Go.Sx.Fr S w0 w9 ∧ Go.Sx.Mild [g37, g23, g12] w8 w9) ∧ 
    ∀ g52 : Nat, w0.heap.size ≤ g52 → (∃ (I0 : Int → World → Prop) (M0 : Int → World → Nat), (∀ w10 : World, Go.Sx.Fr S w0 w10 → Below w9.heap.size w9 w10 → w9.heap.size ≤ g52 → w10.heap[g52]? = some (.cells #[.int .i64 i42, .int .i64 i43, .int .i64 i44, .int .i64 i45, .int .i64 i46, .int .i64 i47, .slice A48 n49 n50] 24 (0, 0)) → I0 (0 : Int) w10) ∧
    ∀ i53 : Int, ∀ w11 : World, Go.Sx.Fr S w0 w11 → I0 i53 w11 → 
     ((i53 < (n39 : Int) →
     ((0 : Int) ≤ i53 ∧ i53 < (n39 : Int) ∧ ∃ p54 : Nat, ∃ o55 : Nat, A38 = some ⟨p54, o55, none⟩ ∧
      (
      ∃ w12 : World, (Instr.storeAt 5 (.pointer (some ⟨p54, o55 + (i53).toNat * 1 + 0, none⟩)) (.int .u8 (7 : Int))).run Try.prog w11 = .ok () w12 ∧ (Go.Sx.Fr S w0 w12 ∧ Go.Sx.Mild [g52, g37, g23, g12] w11 w12) ∧ 
      (I0 (IntKind.i64.wrap (i53 + (1 : Int))) w12 ∧ M0 (IntKind.i64.wrap (i53 + (1 : Int))) w12 < M0 i53 w11)))) ∧
     ((n39 : Int) ≤ i53 →
     (
      Calls Try.prog 17 #[(.agg #[.int .i64 i42, .int .i64 i43, .int .i64 i44, .int .i64 i45, .int .i64 i46, .int .i64 i47, .slice A48 n49 n50]), (.agg #[.int .i64 i14, .int .i64 i15, .int .i64 i16, .int .i64 i17, .int .i64 i18, .int .i64 i19, .slice A20 n21 n22])] w11 fun r w12 => ∃ b54 : Bool, r = .returned (.bool b54) ∧ (Go.Sx.Fr S w0 w12 ∧ Go.Sx.Mild [g52, g37, g23, g12] w11 w12) ∧ 
      ((b13 = true →
      ((i36 = (2 : Int) →
       ((i51 = (0 : Int) →
        (R (.returned (.bool b54)) w12)) ∧
        (¬ i51 = (0 : Int) →
        (R (.returned (.bool false)) w12)))) ∧
       (¬ i36 = (2 : Int) →
       (R (.returned (.bool false)) w12)))) ∧
      (b13 = false →
      (R (.returned (.bool false)) w12)))))))))))))))))))) :
    Calls Try.prog 8 #[(.agg #[.int .i64 i0, .int .i64 i1, .int .i64 i2, .int .i64 i3, .int .i64 i4, .int .i64 i5, .slice A6 n7 n8]), (.slice A9 n10 n11)] w0 R :=
  Go.Sx.fn_sound0 (P := Try.prog) (S := S) (w0 := w0) (R := R) (ws := []) (an := [⟨999999, [], [], 0⟩]) (f := 8) (n := 12) (xs := [.agg [.int .i64 (.var 0), .int .i64 (.var 1), .int .i64 (.var 2), .int .i64 (.var 3), .int .i64 (.var 4), .int .i64 (.var 5), .slice (.var 6) (.var 7) (.var 8)], .one (.slice (.var 9) (.var 10) (.var 11))]) (e := [.i i0, .i i1, .i i2, .i i3, .i i4, .i i5, .a A6, .n n7, .n n8, .a A9, .n n10, .n n11]) rfl (by kernel_rfl) (Eq.mp (by kernel_rfl) h)


end Go.Proofs.Ytolipmnmaikfcaa
