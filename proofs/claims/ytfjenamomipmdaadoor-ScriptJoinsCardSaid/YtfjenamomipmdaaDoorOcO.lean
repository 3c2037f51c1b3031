/- Opcode: what is left of the statements on taking. -/
import Derived.Test.YtfjenamomipmdaaDoorProg
import Derived.Test.YtfjenamomipmdaaDoorSs
import Derived.KernelRfl
set_option linter.unusedVariables false
namespace Go.Proofs.YtfjenamomipmdaaDoor
open Go Go.RowKit Go.Proofs Go.Trc
set_option maxRecDepth 100000
/-- tracery/traceryref09.Same: what is left of it. -/
theorem same09_sx (R : Ending → World → Prop) (S : Nat → Prop) (w0 : World) (A0 : Option Addr) (n1 : Nat) (n2 : Nat) (A3 : Option Addr) (n4 : Nat) (n5 : Nat) (h :
 ∀ g6 : Nat, w0.heap.size ≤ g6 → ∀ g7 : Nat, w0.heap.size ≤ g7 → ((¬ (n1 : Int) = (n4 : Int) →
 (∀ w1 : World, Go.Sx.Fr S w0 w1 → Below w0.heap.size w0 w1 → w0.heap.size ≤ g7 → w1.heap[g7]? = some (.cells #[.slice A3 n4 n5] 25 (0, 0)) → w0.heap.size ≤ g6 → w1.heap[g6]? = some (.cells #[.slice A0 n1 n2] 25 (0, 0)) → R (.returned (.bool false)) w1)) ∧
 ((n1 : Int) = (n4 : Int) →
 (∃ (I0 : Bool → Int → World → Prop) (M0 : Bool → Int → World → Nat), (∀ w1 : World, Go.Sx.Fr S w0 w1 → Below w0.heap.size w0 w1 → w0.heap.size ≤ g7 → w1.heap[g7]? = some (.cells #[.slice A3 n4 n5] 25 (0, 0)) → w0.heap.size ≤ g6 → w1.heap[g6]? = some (.cells #[.slice A0 n1 n2] 25 (0, 0)) → I0 false (0 : Int) w1) ∧
  ∀ b8 : Bool, ∀ i9 : Int, ∀ w2 : World, Go.Sx.Fr S w0 w2 → I0 b8 i9 w2 → 
   ((i9 < (n1 : Int) →
   (
    ((0 : Int) ≤ i9 ∧ i9 < (n1 : Int) ∧ ∃ p11 : Nat, ∃ o12 : Nat, A0 = some ⟨p11, o12, none⟩ ∧
    (∀ w3 : World, Go.Sx.Fr S w0 w3 → Below w2.heap.size w2 w3 → ∃ i13 : Int, ∃ i14 : Int, ∃ i15 : Int, ∃ i16 : Int, ∃ i17 : Int, ∃ i18 : Int, ∃ i19 : Int, ∃ i20 : Int, ∃ i21 : Int, ∃ i22 : Int, ∃ i23 : Int, ∃ i24 : Int, ∃ i25 : Int, ∃ i26 : Int, ∃ i27 : Int, ∃ i28 : Int, ∃ i29 : Int, ∃ b30 : Bool, ∃ s31 : ByteArray, ∃ i32 : Int, Go.Sx.CellsAt w3 p11 (o12 + (i9).toNat * 20 + 0) [.int .i64 i13, .int .i64 i14, .int .i64 i15, .int .i64 i16, .int .i64 i17, .int .i64 i18, .int .i64 i19, .int .i64 i20, .int .i64 i21, .int .i64 i22, .int .i64 i23, .int .i64 i24, .int .i64 i25, .int .i64 i26, .int .i64 i27, .int .i64 i28, .int .i64 i29, .bool b30, .string s31, .int .i64 i32] ∧ (p11 < w2.heap.size ∧ p11 ∉ []) ∧ 
    ((0 : Int) ≤ i9 ∧ i9 < (n4 : Int) ∧ ∃ p33 : Nat, ∃ o34 : Nat, A3 = some ⟨p33, o34, none⟩ ∧
    (∃ i35 : Int, ∃ i36 : Int, ∃ i37 : Int, ∃ i38 : Int, ∃ i39 : Int, ∃ i40 : Int, ∃ i41 : Int, ∃ i42 : Int, ∃ i43 : Int, ∃ i44 : Int, ∃ i45 : Int, ∃ i46 : Int, ∃ i47 : Int, ∃ i48 : Int, ∃ i49 : Int, ∃ i50 : Int, ∃ i51 : Int, ∃ b52 : Bool, ∃ s53 : ByteArray, ∃ i54 : Int, Go.Sx.CellsAt w3 p33 (o34 + (i9).toNat * 20 + 0) [.int .i64 i35, .int .i64 i36, .int .i64 i37, .int .i64 i38, .int .i64 i39, .int .i64 i40, .int .i64 i41, .int .i64 i42, .int .i64 i43, .int .i64 i44, .int .i64 i45, .int .i64 i46, .int .i64 i47, .int .i64 i48, .int .i64 i49, .int .i64 i50, .int .i64 i51, .bool b52, .string s53, .int .i64 i54] ∧ (p33 < w2.heap.size ∧ p33 ∉ []) ∧ 
    (∃ b55 : Bool, (∀ w', Go.Sx.Keep w2.heap.size [] w3 w' → (binOp .neq 39 (.agg #[.int .i64 i13, .int .i64 i14, .int .i64 i15, .int .i64 i16, .int .i64 i17, .int .i64 i18, .int .i64 i19, .int .i64 i20, .int .i64 i21, .int .i64 i22, .int .i64 i23, .int .i64 i24, .int .i64 i25, .int .i64 i26, .int .i64 i27, .int .i64 i28, .int .i64 i29, .bool b30, .string s31, .int .i64 i32]) (.agg #[.int .i64 i35, .int .i64 i36, .int .i64 i37, .int .i64 i38, .int .i64 i39, .int .i64 i40, .int .i64 i41, .int .i64 i42, .int .i64 i43, .int .i64 i44, .int .i64 i45, .int .i64 i46, .int .i64 i47, .int .i64 i48, .int .i64 i49, .int .i64 i50, .int .i64 i51, .bool b52, .string s53, .int .i64 i54])).run Tryd.prog w' = .ok (.bool b55) w') ∧
    ((b55 = true →
    (R (.returned (.bool false)) w3)) ∧
    (b55 = false →
    (I0 b8 (IntKind.i64.wrap (i9 + (1 : Int))) w3 ∧ M0 b8 (IntKind.i64.wrap (i9 + (1 : Int))) w3 < M0 b8 i9 w2)))))))))) ∧
   ((n1 : Int) ≤ i9 →
   (R (.returned (.bool true)) w2))))))) :
    Calls Tryd.prog 18 #[(.agg #[.slice A0 n1 n2]), (.agg #[.slice A3 n4 n5])] w0 R :=
  Go.Sx.fn_sound0 (P := Tryd.prog) (S := S) (w0 := w0) (R := R) (ws := []) (an := [⟨999999, [], [], 0⟩]) (f := 18) (n := 6) (xs := [.agg [.slice (.var 0) (.var 1) (.var 2)], .agg [.slice (.var 3) (.var 4) (.var 5)]]) (e := [.a A0, .n n1, .n n2, .a A3, .n n4, .n n5]) rfl (by kernel_rfl) (Eq.mp (by kernel_rfl) h)


/-- tracery/tracerylaw10.OpcodeTakes: what is left of it. -/
theorem opcodeTakes_sx (R : Ending → World → Prop) (S : Nat → Prop) (w0 : World) (A0 : Option Addr) (n1 : Nat) (n2 : Nat) (h :
 (
 Calls Tryd.prog 14 #[] w0 fun r w1 => ∃ b3 : Bool, r = .returned (.bool b3) ∧ (Go.Sx.Fr S w0 w1 ∧ Go.Sx.Mild [] w0 w1) ∧ 
 (((400 : Int) < (n1 : Int) →
 (∃ A4 : Option Addr, ∃ n5 : Nat, ∃ n6 : Nat, (Instr.sliceAt 22 (.slice A0 n1 n2) none (some (.int .i64 (400 : Int))) none).run Tryd.prog w1 = .ok (.slice A4 n5 n6) w1 ∧
  ∀ g7 : Nat, w0.heap.size ≤ g7 → (∀ w2 : World, Go.Sx.Fr S w0 w2 → Below w1.heap.size w1 w2 → w1.heap.size ≤ g7 → w2.heap[g7]? = some (.cells #[] 5 (0, 0)) → 
  ∃ w3 : World, ∃ A8 : Option Addr, ∃ n9 : Nat, ∃ n10 : Nat, (Builtin.append_ #[22, 22] 22 #[(.slice (some ⟨g7, 0, none⟩) 0 0), (.slice A4 n5 n6)]).run Tryd.prog w2 = .ok (.slice A8 n9 n10) w3 ∧ (Go.Sx.Fr S w0 w3 ∧ Go.Sx.Mild [g7] w2 w3) ∧ 
  (
  Calls Tryd.prog 19 #[(.slice A8 n9 n10)] w3 fun r w4 => ∃ A11 : Option Addr, ∃ n12 : Nat, ∃ n13 : Nat, ∃ A14 : Option Addr, ∃ n15 : Nat, ∃ n16 : Nat, ∃ i17 : Int, r = .returned (.tuple #[.agg #[.slice A11 n12 n13], .slice A14 n15 n16, .int .i64 i17]) ∧ (Go.Sx.Fr S w0 w4 ∧ Go.Sx.Mild [g7] w3 w4) ∧ 
  ∀ g18 : Nat, w0.heap.size ≤ g18 → (∀ w5 : World, Go.Sx.Fr S w0 w5 → Below w4.heap.size w4 w5 → w4.heap.size ≤ g18 → w5.heap[g18]? = some (.cells #[.slice A11 n12 n13] 25 (0, 0)) → 
  Calls Tryd.prog 20 #[(.slice A4 n5 n6)] w5 fun r w6 => ∃ A19 : Option Addr, ∃ n20 : Nat, ∃ n21 : Nat, ∃ A22 : Option Addr, ∃ n23 : Nat, ∃ n24 : Nat, ∃ i25 : Int, r = .returned (.tuple #[.agg #[.slice A19 n20 n21], .slice A22 n23 n24, .int .i64 i25]) ∧ (Go.Sx.Fr S w0 w6 ∧ Go.Sx.Mild [g18, g7] w5 w6) ∧ 
  ∀ g26 : Nat, w0.heap.size ≤ g26 → ∀ g27 : Nat, w0.heap.size ≤ g27 → (∀ w7 : World, Go.Sx.Fr S w0 w7 → Below w6.heap.size w6 w7 → w6.heap.size ≤ g27 → w7.heap[g27]? = some (.cells #[] 5 (0, 0)) → w6.heap.size ≤ g26 → w7.heap[g26]? = some (.cells #[.slice A19 n20 n21] 25 (0, 0)) → 
  ∃ w8 : World, ∃ A28 : Option Addr, ∃ n29 : Nat, ∃ n30 : Nat, (Builtin.append_ #[22, 22] 22 #[(.slice (some ⟨g27, 0, none⟩) 0 0), (.slice A4 n5 n6)]).run Tryd.prog w7 = .ok (.slice A28 n29 n30) w8 ∧ (Go.Sx.Fr S w0 w8 ∧ Go.Sx.Mild [g27, g26, g18, g7] w7 w8) ∧ 
  (
  Calls Tryd.prog 21 #[(.slice A28 n29 n30)] w8 fun r w9 => ∃ A31 : Option Addr, ∃ n32 : Nat, ∃ n33 : Nat, ∃ i34 : Int, r = .returned (.tuple #[.agg #[.slice A31 n32 n33], .int .i64 i34]) ∧ (Go.Sx.Fr S w0 w9 ∧ Go.Sx.Mild [g27, g26, g18, g7] w8 w9) ∧ 
  ∀ g35 : Nat, w0.heap.size ≤ g35 → (∀ w10 : World, Go.Sx.Fr S w0 w10 → Below w9.heap.size w9 w10 → w9.heap.size ≤ g35 → w10.heap[g35]? = some (.cells #[.slice A31 n32 n33] 25 (0, 0)) → 
  Calls Tryd.prog 22 #[(.slice A4 n5 n6)] w10 fun r w11 => ∃ A36 : Option Addr, ∃ n37 : Nat, ∃ n38 : Nat, ∃ i39 : Int, r = .returned (.tuple #[.agg #[.slice A36 n37 n38], .int .i64 i39]) ∧ (Go.Sx.Fr S w0 w11 ∧ Go.Sx.Mild [g35, g27, g26, g18, g7] w10 w11) ∧ 
  ∀ g40 : Nat, w0.heap.size ≤ g40 → (∀ w12 : World, Go.Sx.Fr S w0 w12 → Below w11.heap.size w11 w12 → w11.heap.size ≤ g40 → w12.heap[g40]? = some (.cells #[.slice A36 n37 n38] 25 (0, 0)) → 
  Calls Tryd.prog 18 #[(.agg #[.slice A11 n12 n13]), (.agg #[.slice A19 n20 n21])] w12 fun r w13 => ∃ b41 : Bool, r = .returned (.bool b41) ∧ (Go.Sx.Fr S w0 w13 ∧ Go.Sx.Mild [g40, g35, g27, g26, g18, g7] w12 w13) ∧ 
  (
  Calls Tryd.prog 18 #[(.agg #[.slice A31 n32 n33]), (.agg #[.slice A36 n37 n38])] w13 fun r w14 => ∃ b42 : Bool, r = .returned (.bool b42) ∧ (Go.Sx.Fr S w0 w14 ∧ Go.Sx.Mild [g40, g35, g27, g26, g18, g7] w13 w14) ∧ 
  ((b3 = true →
  ((b41 = true →
   (∃ s43 : ByteArray, (convert 22 9 (.slice A14 n15 n16)).run Tryd.prog w14 = .ok (.string s43) w14 ∧
    (∃ s44 : ByteArray, (convert 22 9 (.slice A22 n23 n24)).run Tryd.prog w14 = .ok (.string s44) w14 ∧
    (((s43).toList = (s44).toList →
    ((i17 = i25 →
     ((b42 = true →
      (R (.returned (.bool (i34 == i39))) w14)) ∧
      (b42 = false →
      (R (.returned (.bool false)) w14)))) ∧
     (¬ i17 = i25 →
     (R (.returned (.bool false)) w14)))) ∧
    (¬ (s43).toList = (s44).toList →
    (R (.returned (.bool false)) w14)))))) ∧
   (b41 = false →
   (R (.returned (.bool false)) w14)))) ∧
  (b3 = false →
  (R (.returned (.bool false)) w14))))))))))))) ∧
 ((n1 : Int) ≤ (400 : Int) →
 ∀ g4 : Nat, w0.heap.size ≤ g4 → (∀ w2 : World, Go.Sx.Fr S w0 w2 → Below w1.heap.size w1 w2 → w1.heap.size ≤ g4 → w2.heap[g4]? = some (.cells #[] 5 (0, 0)) → 
  ∃ w3 : World, ∃ A5 : Option Addr, ∃ n6 : Nat, ∃ n7 : Nat, (Builtin.append_ #[22, 22] 22 #[(.slice (some ⟨g4, 0, none⟩) 0 0), (.slice A0 n1 n2)]).run Tryd.prog w2 = .ok (.slice A5 n6 n7) w3 ∧ (Go.Sx.Fr S w0 w3 ∧ Go.Sx.Mild [g4] w2 w3) ∧ 
  (
  Calls Tryd.prog 19 #[(.slice A5 n6 n7)] w3 fun r w4 => ∃ A8 : Option Addr, ∃ n9 : Nat, ∃ n10 : Nat, ∃ A11 : Option Addr, ∃ n12 : Nat, ∃ n13 : Nat, ∃ i14 : Int, r = .returned (.tuple #[.agg #[.slice A8 n9 n10], .slice A11 n12 n13, .int .i64 i14]) ∧ (Go.Sx.Fr S w0 w4 ∧ Go.Sx.Mild [g4] w3 w4) ∧ 
  ∀ g15 : Nat, w0.heap.size ≤ g15 → (∀ w5 : World, Go.Sx.Fr S w0 w5 → Below w4.heap.size w4 w5 → w4.heap.size ≤ g15 → w5.heap[g15]? = some (.cells #[.slice A8 n9 n10] 25 (0, 0)) → 
  Calls Tryd.prog 20 #[(.slice A0 n1 n2)] w5 fun r w6 => ∃ A16 : Option Addr, ∃ n17 : Nat, ∃ n18 : Nat, ∃ A19 : Option Addr, ∃ n20 : Nat, ∃ n21 : Nat, ∃ i22 : Int, r = .returned (.tuple #[.agg #[.slice A16 n17 n18], .slice A19 n20 n21, .int .i64 i22]) ∧ (Go.Sx.Fr S w0 w6 ∧ Go.Sx.Mild [g15, g4] w5 w6) ∧ 
  ∀ g23 : Nat, w0.heap.size ≤ g23 → ∀ g24 : Nat, w0.heap.size ≤ g24 → (∀ w7 : World, Go.Sx.Fr S w0 w7 → Below w6.heap.size w6 w7 → w6.heap.size ≤ g24 → w7.heap[g24]? = some (.cells #[] 5 (0, 0)) → w6.heap.size ≤ g23 → w7.heap[g23]? = some (.cells #[.slice A16 n17 n18] 25 (0, 0)) → 
  ∃ w8 : World, ∃ A25 : Option Addr, ∃ n26 : Nat, ∃ n27 : Nat, (Builtin.append_ #[22, 22] 22 #[(.slice (some ⟨g24, 0, none⟩) 0 0), (.slice A0 n1 n2)]).run Tryd.prog w7 = .ok (.slice A25 n26 n27) w8 ∧ (Go.Sx.Fr S w0 w8 ∧ Go.Sx.Mild [g24, g23, g15, g4] w7 w8) ∧ 
  (
  Calls Tryd.prog 21 #[(.slice A25 n26 n27)] w8 fun r w9 => ∃ A28 : Option Addr, ∃ n29 : Nat, ∃ n30 : Nat, ∃ i31 : Int, r = .returned (.tuple #[.agg #[.slice A28 n29 n30], .int .i64 i31]) ∧ (Go.Sx.Fr S w0 w9 ∧ Go.Sx.Mild [g24, g23, g15, g4] w8 w9) ∧ 
  ∀ g32 : Nat, w0.heap.size ≤ g32 → (∀ w10 : World, Go.Sx.Fr S w0 w10 → Below w9.heap.size w9 w10 → w9.heap.size ≤ g32 → w10.heap[g32]? = some (.cells #[.slice A28 n29 n30] 25 (0, 0)) → 
  Calls Tryd.prog 22 #[(.slice A0 n1 n2)] w10 fun r w11 => ∃ A33 : Option Addr, ∃ n34 : Nat, ∃ n35 : Nat, ∃ i36 : Int, r = .returned (.tuple #[.agg #[.slice A33 n34 n35], .int .i64 i36]) ∧ (Go.Sx.Fr S w0 w11 ∧ Go.Sx.Mild [g32, g24, g23, g15, g4] w10 w11) ∧ 
  ∀ g37 : Nat, w0.heap.size ≤ g37 → (∀ w12 : World, Go.Sx.Fr S w0 w12 → Below w11.heap.size w11 w12 → w11.heap.size ≤ g37 → w12.heap[g37]? = some (.cells #[.slice A33 n34 n35] 25 (0, 0)) → 
  Calls Tryd.prog 18 #[(.agg #[.slice A8 n9 n10]), (.agg #[.slice A16 n17 n18])] w12 fun r w13 => ∃ b38 : Bool, r = .returned (.bool b38) ∧ (Go.Sx.Fr S w0 w13 ∧ Go.Sx.Mild [g37, g32, g24, g23, g15, g4] w12 w13) ∧ 
  (
  Calls Tryd.prog 18 #[(.agg #[.slice A28 n29 n30]), (.agg #[.slice A33 n34 n35])] w13 fun r w14 => ∃ b39 : Bool, r = .returned (.bool b39) ∧ (Go.Sx.Fr S w0 w14 ∧ Go.Sx.Mild [g37, g32, g24, g23, g15, g4] w13 w14) ∧ 
  ((b3 = true →
  ((b38 = true →
   (∃ s40 : ByteArray, (convert 22 9 (.slice A11 n12 n13)).run Tryd.prog w14 = .ok (.string s40) w14 ∧
    (∃ s41 : ByteArray, (convert 22 9 (.slice A19 n20 n21)).run Tryd.prog w14 = .ok (.string s41) w14 ∧
    (((s40).toList = (s41).toList →
    ((i14 = i22 →
     ((b39 = true →
      (R (.returned (.bool (i31 == i36))) w14)) ∧
      (b39 = false →
      (R (.returned (.bool false)) w14)))) ∧
     (¬ i14 = i22 →
     (R (.returned (.bool false)) w14)))) ∧
    (¬ (s40).toList = (s41).toList →
    (R (.returned (.bool false)) w14)))))) ∧
   (b38 = false →
   (R (.returned (.bool false)) w14)))) ∧
  (b3 = false →
  (R (.returned (.bool false)) w14))))))))))))))) :
    Calls Tryd.prog 6 #[(.slice A0 n1 n2)] w0 R :=
  Go.Sx.fn_sound0 (P := Tryd.prog) (S := S) (w0 := w0) (R := R) (ws := []) (an := [⟨999998, [], [], 0⟩, ⟨999999, [], [], 0⟩]) (f := 6) (n := 3) (xs := [.one (.slice (.var 0) (.var 1) (.var 2))]) (e := [.a A0, .n n1, .n n2]) rfl (by kernel_rfl) (Eq.mp (by kernel_rfl) h)


/-- tracery/tracerylaw10.OpcodeBack: what is left of it. -/
theorem opcodeBack_sx (R : Ending → World → Prop) (S : Nat → Prop) (w0 : World) (A0 : Option Addr) (n1 : Nat) (n2 : Nat) (A3 : Option Addr) (n4 : Nat) (n5 : Nat) (A6 : Option Addr) (n7 : Nat) (n8 : Nat) (h :
 ∀ g9 : Nat, w0.heap.size ≤ g9 → ∀ g10 : Nat, w0.heap.size ≤ g10 → (∀ w1 : World, Go.Sx.Fr S w0 w1 → Below w0.heap.size w0 w1 → w0.heap.size ≤ g10 → w1.heap[g10]? = some (.cells #[.slice A3 n4 n5] 25 (0, 0)) → w0.heap.size ≤ g9 → w1.heap[g9]? = some (.cells #[.slice A0 n1 n2] 25 (0, 0)) → 
 Calls Tryd.prog 14 #[] w1 fun r w2 => ∃ b11 : Bool, r = .returned (.bool b11) ∧ (Go.Sx.Fr S w0 w2 ∧ Go.Sx.Mild [g10, g9] w1 w2) ∧ 
 (
 Calls Tryd.prog 16 #[(.agg #[.slice A0 n1 n2])] w2 fun r w3 => ∃ A12 : Option Addr, ∃ n13 : Nat, ∃ n14 : Nat, r = .returned (.agg #[.slice A12 n13 n14]) ∧ (Go.Sx.Fr S w0 w3 ∧ Go.Sx.Mild [g10, g9] w2 w3) ∧ 
 (∀ w4 : World, Go.Sx.Fr S w0 w4 → Go.Sx.Fr (fun b => b ∈ [g9]) w3 w4 → 
 Calls Tryd.prog 16 #[(.agg #[.slice A3 n4 n5])] w4 fun r w5 => ∃ A15 : Option Addr, ∃ n16 : Nat, ∃ n17 : Nat, r = .returned (.agg #[.slice A15 n16 n17]) ∧ (Go.Sx.Fr S w0 w5 ∧ Go.Sx.Mild [g10, g9] w4 w5) ∧ 
 (((50 : Int) < (n7 : Int) →
 (∀ w6 : World, Go.Sx.Fr S w0 w6 → Go.Sx.Fr (fun b => b ∈ [g10]) w5 w6 → ∃ A18 : Option Addr, ∃ n19 : Nat, ∃ n20 : Nat, (Instr.sliceAt 22 (.slice A6 n7 n8) none (some (.int .i64 (50 : Int))) none).run Tryd.prog w6 = .ok (.slice A18 n19 n20) w6 ∧
  (
  Calls Tryd.prog 15 #[(.slice none 0 0), (.agg #[.slice A12 n13 n14])] w6 fun r w7 => ∃ A21 : Option Addr, ∃ n22 : Nat, ∃ n23 : Nat, ∃ i24 : Int, r = .returned (.tuple #[.slice A21 n22 n23, .int .i64 i24]) ∧ (Go.Sx.Fr S w0 w7 ∧ Go.Sx.Mild [g10, g9] w6 w7) ∧ 
  (
  Calls Tryd.prog 15 #[(.slice none 0 0), (.agg #[.slice A15 n16 n17])] w7 fun r w8 => ∃ A25 : Option Addr, ∃ n26 : Nat, ∃ n27 : Nat, ∃ i28 : Int, r = .returned (.tuple #[.slice A25 n26 n27, .int .i64 i28]) ∧ (Go.Sx.Fr S w0 w8 ∧ Go.Sx.Mild [g10, g9] w7 w8) ∧ 
  ((¬ i24 = (0 : Int) →
  ((b11 = true →
   (R (.returned (.bool ((n22 : Int) == (0 : Int)))) w8)) ∧
   (b11 = false →
   (R (.returned (.bool false)) w8)))) ∧
  (i24 = (0 : Int) →
  ((¬ i28 = (0 : Int) →
   ((b11 = true →
    (R (.returned (.bool true)) w8)) ∧
    (b11 = false →
    (R (.returned (.bool false)) w8)))) ∧
   (i28 = (0 : Int) →
   ∀ g29 : Nat, w0.heap.size ≤ g29 → (∀ w9 : World, Go.Sx.Fr S w0 w9 → Below w8.heap.size w8 w9 → w8.heap.size ≤ g29 → w9.heap[g29]? = some (.cells #[] 5 (0, 0)) → 
    ∃ w10 : World, ∃ A30 : Option Addr, ∃ n31 : Nat, ∃ n32 : Nat, (Builtin.append_ #[22, 22] 22 #[(.slice (some ⟨g29, 0, none⟩) 0 0), (.slice A21 n22 n23)]).run Tryd.prog w9 = .ok (.slice A30 n31 n32) w10 ∧ (Go.Sx.Fr S w0 w10 ∧ Go.Sx.Mild [g29, g10, g9] w9 w10) ∧ 
    (
    ∃ w11 : World, ∃ A33 : Option Addr, ∃ n34 : Nat, ∃ n35 : Nat, (Builtin.append_ #[22, 22] 22 #[(.slice A30 n31 n32), (.slice A18 n19 n20)]).run Tryd.prog w10 = .ok (.slice A33 n34 n35) w11 ∧ (Go.Sx.Fr S w0 w11 ∧ Go.Sx.Mild [g29, g10, g9] w10 w11) ∧ 
    (
    Calls Tryd.prog 19 #[(.slice A33 n34 n35)] w11 fun r w12 => ∃ A36 : Option Addr, ∃ n37 : Nat, ∃ n38 : Nat, ∃ A39 : Option Addr, ∃ n40 : Nat, ∃ n41 : Nat, ∃ i42 : Int, r = .returned (.tuple #[.agg #[.slice A36 n37 n38], .slice A39 n40 n41, .int .i64 i42]) ∧ (Go.Sx.Fr S w0 w12 ∧ Go.Sx.Mild [g29, g10, g9] w11 w12) ∧ 
    ∀ g43 : Nat, w0.heap.size ≤ g43 → (∀ w13 : World, Go.Sx.Fr S w0 w13 → Below w12.heap.size w12 w13 → w12.heap.size ≤ g43 → w13.heap[g43]? = some (.cells #[.slice A36 n37 n38] 25 (0, 0)) → 
    Calls Tryd.prog 18 #[(.agg #[.slice A36 n37 n38]), (.agg #[.slice A12 n13 n14])] w13 fun r w14 => ∃ b44 : Bool, r = .returned (.bool b44) ∧ (Go.Sx.Fr S w0 w14 ∧ Go.Sx.Mild [g43, g29, g10, g9] w13 w14) ∧ 
    (
    Calls Tryd.prog 18 #[(.agg #[.slice A12 n13 n14]), (.agg #[.slice A15 n16 n17])] w14 fun r w15 => ∃ b45 : Bool, r = .returned (.bool b45) ∧ (Go.Sx.Fr S w0 w15 ∧ Go.Sx.Mild [g43, g29, g10, g9] w14 w15) ∧ 
    (((n22 : Int) = (0 : Int) →
    (R (.returned (.bool false)) w15)) ∧
    (¬ (n22 : Int) = (0 : Int) →
    (∃ A46 : Option Addr, ∃ n47 : Nat, ∃ n48 : Nat, (Instr.sliceAt 22 (.slice A21 n22 n23) none (some (.int .i64 (IntKind.i64.wrap ((n22 : Int) - (1 : Int))))) none).run Tryd.prog w15 = .ok (.slice A46 n47 n48) w15 ∧
     (
     Calls Tryd.prog 21 #[(.slice A46 n47 n48)] w15 fun r w16 => ∃ A49 : Option Addr, ∃ n50 : Nat, ∃ n51 : Nat, ∃ i52 : Int, r = .returned (.tuple #[.agg #[.slice A49 n50 n51], .int .i64 i52]) ∧ (Go.Sx.Fr S w0 w16 ∧ Go.Sx.Mild [g43, g29, g10, g9] w15 w16) ∧ 
     ∀ g53 : Nat, w0.heap.size ≤ g53 → ∀ g54 : Nat, w0.heap.size ≤ g54 → (∀ w17 : World, Go.Sx.Fr S w0 w17 → Below w16.heap.size w16 w17 → w16.heap.size ≤ g54 → w17.heap[g54]? = some (.cells #[] 5 (0, 0)) → w16.heap.size ≤ g53 → w17.heap[g53]? = some (.cells #[.slice A49 n50 n51] 25 (0, 0)) → 
     ∃ w18 : World, ∃ A55 : Option Addr, ∃ n56 : Nat, ∃ n57 : Nat, (Builtin.append_ #[22, 22] 22 #[(.slice (some ⟨g54, 0, none⟩) 0 0), (.slice A21 n22 n23)]).run Tryd.prog w17 = .ok (.slice A55 n56 n57) w18 ∧ (Go.Sx.Fr S w0 w18 ∧ Go.Sx.Mild [g54, g53, g43, g29, g10, g9] w17 w18) ∧ 
     ∀ g58 : Nat, w0.heap.size ≤ g58 → (∀ w19 : World, Go.Sx.Fr S w0 w19 → Below w18.heap.size w18 w19 → w18.heap.size ≤ g58 → w19.heap[g58]? = some (.cells #[.int .u8 (0 : Int)] 5 (0, 0)) → 
     ∃ w20 : World, ∃ A59 : Option Addr, ∃ n60 : Nat, ∃ n61 : Nat, (Builtin.append_ #[22, 22] 22 #[(.slice A55 n56 n57), (.slice (some ⟨g58, 0, none⟩) 1 1)]).run Tryd.prog w19 = .ok (.slice A59 n60 n61) w20 ∧ (Go.Sx.Fr S w0 w20 ∧ Go.Sx.Mild [g58, g54, g53, g43, g29, g10, g9] w19 w20) ∧ 
     (
     Calls Tryd.prog 21 #[(.slice A59 n60 n61)] w20 fun r w21 => ∃ A62 : Option Addr, ∃ n63 : Nat, ∃ n64 : Nat, ∃ i65 : Int, r = .returned (.tuple #[.agg #[.slice A62 n63 n64], .int .i64 i65]) ∧ (Go.Sx.Fr S w0 w21 ∧ Go.Sx.Mild [g58, g54, g53, g43, g29, g10, g9] w20 w21) ∧ 
     ∀ g66 : Nat, w0.heap.size ≤ g66 → ((b11 = true →
     ((i42 = (0 : Int) →
      ((b44 = true →
       (∀ w22 : World, Go.Sx.Fr S w0 w22 → Below w21.heap.size w21 w22 → w21.heap.size ≤ g66 → w22.heap[g66]? = some (.cells #[.slice A62 n63 n64] 25 (0, 0)) → ∃ s67 : ByteArray, (convert 22 9 (.slice A39 n40 n41)).run Tryd.prog w22 = .ok (.string s67) w22 ∧
        (∃ s68 : ByteArray, (convert 22 9 (.slice A18 n19 n20)).run Tryd.prog w22 = .ok (.string s68) w22 ∧
        (((s67).toList = (s68).toList →
        (∃ s69 : ByteArray, (convert 22 9 (.slice A21 n22 n23)).run Tryd.prog w22 = .ok (.string s69) w22 ∧
         (∃ s70 : ByteArray, (convert 22 9 (.slice A25 n26 n27)).run Tryd.prog w22 = .ok (.string s70) w22 ∧
         (∃ b71 : Bool, (binOp .eql 4 (.bool ((s69).toList == (s70).toList)) (.bool b45)).run Tryd.prog w22 = .ok (.bool b71) w22 ∧
         ((b71 = true →
         ((i52 = (2 : Int) →
          (R (.returned (.bool (i65 == (2 : Int)))) w22)) ∧
          (¬ i52 = (2 : Int) →
          (R (.returned (.bool false)) w22)))) ∧
         (b71 = false →
         (R (.returned (.bool false)) w22))))))) ∧
        (¬ (s67).toList = (s68).toList →
        (R (.returned (.bool false)) w22)))))) ∧
       (b44 = false →
       (∀ w22 : World, Go.Sx.Fr S w0 w22 → Below w21.heap.size w21 w22 → w21.heap.size ≤ g66 → w22.heap[g66]? = some (.cells #[.slice A62 n63 n64] 25 (0, 0)) → R (.returned (.bool false)) w22)))) ∧
      (¬ i42 = (0 : Int) →
      (∀ w22 : World, Go.Sx.Fr S w0 w22 → Below w21.heap.size w21 w22 → w21.heap.size ≤ g66 → w22.heap[g66]? = some (.cells #[.slice A62 n63 n64] 25 (0, 0)) → R (.returned (.bool false)) w22)))) ∧
     (b11 = false →
     (∀ w22 : World, Go.Sx.Fr S w0 w22 → Below w21.heap.size w21 w22 → w21.heap.size ≤ g66 → w22.heap[g66]? = some (.cells #[.slice A62 n63 n64] 25 (0, 0)) → R (.returned (.bool false)) w22))))))))))))))))))))))) ∧
 ((n7 : Int) ≤ (50 : Int) →
 (∀ w6 : World, Go.Sx.Fr S w0 w6 → Go.Sx.Fr (fun b => b ∈ [g10]) w5 w6 → 
  Calls Tryd.prog 15 #[(.slice none 0 0), (.agg #[.slice A12 n13 n14])] w6 fun r w7 => ∃ A18 : Option Addr, ∃ n19 : Nat, ∃ n20 : Nat, ∃ i21 : Int, r = .returned (.tuple #[.slice A18 n19 n20, .int .i64 i21]) ∧ (Go.Sx.Fr S w0 w7 ∧ Go.Sx.Mild [g10, g9] w6 w7) ∧ 
  (
  Calls Tryd.prog 15 #[(.slice none 0 0), (.agg #[.slice A15 n16 n17])] w7 fun r w8 => ∃ A22 : Option Addr, ∃ n23 : Nat, ∃ n24 : Nat, ∃ i25 : Int, r = .returned (.tuple #[.slice A22 n23 n24, .int .i64 i25]) ∧ (Go.Sx.Fr S w0 w8 ∧ Go.Sx.Mild [g10, g9] w7 w8) ∧ 
  ((¬ i21 = (0 : Int) →
  ((b11 = true →
   (R (.returned (.bool ((n19 : Int) == (0 : Int)))) w8)) ∧
   (b11 = false →
   (R (.returned (.bool false)) w8)))) ∧
  (i21 = (0 : Int) →
  ((¬ i25 = (0 : Int) →
   ((b11 = true →
    (R (.returned (.bool true)) w8)) ∧
    (b11 = false →
    (R (.returned (.bool false)) w8)))) ∧
   (i25 = (0 : Int) →
   ∀ g26 : Nat, w0.heap.size ≤ g26 → (∀ w9 : World, Go.Sx.Fr S w0 w9 → Below w8.heap.size w8 w9 → w8.heap.size ≤ g26 → w9.heap[g26]? = some (.cells #[] 5 (0, 0)) → 
    ∃ w10 : World, ∃ A27 : Option Addr, ∃ n28 : Nat, ∃ n29 : Nat, (Builtin.append_ #[22, 22] 22 #[(.slice (some ⟨g26, 0, none⟩) 0 0), (.slice A18 n19 n20)]).run Tryd.prog w9 = .ok (.slice A27 n28 n29) w10 ∧ (Go.Sx.Fr S w0 w10 ∧ Go.Sx.Mild [g26, g10, g9] w9 w10) ∧ 
    (
    ∃ w11 : World, ∃ A30 : Option Addr, ∃ n31 : Nat, ∃ n32 : Nat, (Builtin.append_ #[22, 22] 22 #[(.slice A27 n28 n29), (.slice A6 n7 n8)]).run Tryd.prog w10 = .ok (.slice A30 n31 n32) w11 ∧ (Go.Sx.Fr S w0 w11 ∧ Go.Sx.Mild [g26, g10, g9] w10 w11) ∧ 
    (
    Calls Tryd.prog 19 #[(.slice A30 n31 n32)] w11 fun r w12 => ∃ A33 : Option Addr, ∃ n34 : Nat, ∃ n35 : Nat, ∃ A36 : Option Addr, ∃ n37 : Nat, ∃ n38 : Nat, ∃ i39 : Int, r = .returned (.tuple #[.agg #[.slice A33 n34 n35], .slice A36 n37 n38, .int .i64 i39]) ∧ (Go.Sx.Fr S w0 w12 ∧ Go.Sx.Mild [g26, g10, g9] w11 w12) ∧ 
    ∀ g40 : Nat, w0.heap.size ≤ g40 → (∀ w13 : World, Go.Sx.Fr S w0 w13 → Below w12.heap.size w12 w13 → w12.heap.size ≤ g40 → w13.heap[g40]? = some (.cells #[.slice A33 n34 n35] 25 (0, 0)) → 
    Calls Tryd.prog 18 #[(.agg #[.slice A33 n34 n35]), (.agg #[.slice A12 n13 n14])] w13 fun r w14 => ∃ b41 : Bool, r = .returned (.bool b41) ∧ (Go.Sx.Fr S w0 w14 ∧ Go.Sx.Mild [g40, g26, g10, g9] w13 w14) ∧ 
    (
    Calls Tryd.prog 18 #[(.agg #[.slice A12 n13 n14]), (.agg #[.slice A15 n16 n17])] w14 fun r w15 => ∃ b42 : Bool, r = .returned (.bool b42) ∧ (Go.Sx.Fr S w0 w15 ∧ Go.Sx.Mild [g40, g26, g10, g9] w14 w15) ∧ 
    (((n19 : Int) = (0 : Int) →
    (R (.returned (.bool false)) w15)) ∧
    (¬ (n19 : Int) = (0 : Int) →
    (∃ A43 : Option Addr, ∃ n44 : Nat, ∃ n45 : Nat, (Instr.sliceAt 22 (.slice A18 n19 n20) none (some (.int .i64 (IntKind.i64.wrap ((n19 : Int) - (1 : Int))))) none).run Tryd.prog w15 = .ok (.slice A43 n44 n45) w15 ∧
     (
     Calls Tryd.prog 21 #[(.slice A43 n44 n45)] w15 fun r w16 => ∃ A46 : Option Addr, ∃ n47 : Nat, ∃ n48 : Nat, ∃ i49 : Int, r = .returned (.tuple #[.agg #[.slice A46 n47 n48], .int .i64 i49]) ∧ (Go.Sx.Fr S w0 w16 ∧ Go.Sx.Mild [g40, g26, g10, g9] w15 w16) ∧ 
     ∀ g50 : Nat, w0.heap.size ≤ g50 → ∀ g51 : Nat, w0.heap.size ≤ g51 → (∀ w17 : World, Go.Sx.Fr S w0 w17 → Below w16.heap.size w16 w17 → w16.heap.size ≤ g51 → w17.heap[g51]? = some (.cells #[] 5 (0, 0)) → w16.heap.size ≤ g50 → w17.heap[g50]? = some (.cells #[.slice A46 n47 n48] 25 (0, 0)) → 
     ∃ w18 : World, ∃ A52 : Option Addr, ∃ n53 : Nat, ∃ n54 : Nat, (Builtin.append_ #[22, 22] 22 #[(.slice (some ⟨g51, 0, none⟩) 0 0), (.slice A18 n19 n20)]).run Tryd.prog w17 = .ok (.slice A52 n53 n54) w18 ∧ (Go.Sx.Fr S w0 w18 ∧ Go.Sx.Mild [g51, g50, g40, g26, g10, g9] w17 w18) ∧ 
     ∀ g55 : Nat, w0.heap.size ≤ g55 → (∀ w19 : World, Go.Sx.Fr S w0 w19 → Below w18.heap.size w18 w19 → w18.heap.size ≤ g55 → w19.heap[g55]? = some (.cells #[.int .u8 (0 : Int)] 5 (0, 0)) → 
     ∃ w20 : World, ∃ A56 : Option Addr, ∃ n57 : Nat, ∃ n58 : Nat, (Builtin.append_ #[22, 22] 22 #[(.slice A52 n53 n54), (.slice (some ⟨g55, 0, none⟩) 1 1)]).run Tryd.prog w19 = .ok (.slice A56 n57 n58) w20 ∧ (Go.Sx.Fr S w0 w20 ∧ Go.Sx.Mild [g55, g51, g50, g40, g26, g10, g9] w19 w20) ∧ 
     (
     Calls Tryd.prog 21 #[(.slice A56 n57 n58)] w20 fun r w21 => ∃ A59 : Option Addr, ∃ n60 : Nat, ∃ n61 : Nat, ∃ i62 : Int, r = .returned (.tuple #[.agg #[.slice A59 n60 n61], .int .i64 i62]) ∧ (Go.Sx.Fr S w0 w21 ∧ Go.Sx.Mild [g55, g51, g50, g40, g26, g10, g9] w20 w21) ∧ 
     ∀ g63 : Nat, w0.heap.size ≤ g63 → ((b11 = true →
     ((i39 = (0 : Int) →
      ((b41 = true →
       (∀ w22 : World, Go.Sx.Fr S w0 w22 → Below w21.heap.size w21 w22 → w21.heap.size ≤ g63 → w22.heap[g63]? = some (.cells #[.slice A59 n60 n61] 25 (0, 0)) → ∃ s64 : ByteArray, (convert 22 9 (.slice A36 n37 n38)).run Tryd.prog w22 = .ok (.string s64) w22 ∧
        (∃ s65 : ByteArray, (convert 22 9 (.slice A6 n7 n8)).run Tryd.prog w22 = .ok (.string s65) w22 ∧
        (((s64).toList = (s65).toList →
        (∃ s66 : ByteArray, (convert 22 9 (.slice A18 n19 n20)).run Tryd.prog w22 = .ok (.string s66) w22 ∧
         (∃ s67 : ByteArray, (convert 22 9 (.slice A22 n23 n24)).run Tryd.prog w22 = .ok (.string s67) w22 ∧
         (∃ b68 : Bool, (binOp .eql 4 (.bool ((s66).toList == (s67).toList)) (.bool b42)).run Tryd.prog w22 = .ok (.bool b68) w22 ∧
         ((b68 = true →
         ((i49 = (2 : Int) →
          (R (.returned (.bool (i62 == (2 : Int)))) w22)) ∧
          (¬ i49 = (2 : Int) →
          (R (.returned (.bool false)) w22)))) ∧
         (b68 = false →
         (R (.returned (.bool false)) w22))))))) ∧
        (¬ (s64).toList = (s65).toList →
        (R (.returned (.bool false)) w22)))))) ∧
       (b41 = false →
       (∀ w22 : World, Go.Sx.Fr S w0 w22 → Below w21.heap.size w21 w22 → w21.heap.size ≤ g63 → w22.heap[g63]? = some (.cells #[.slice A59 n60 n61] 25 (0, 0)) → R (.returned (.bool false)) w22)))) ∧
      (¬ i39 = (0 : Int) →
      (∀ w22 : World, Go.Sx.Fr S w0 w22 → Below w21.heap.size w21 w22 → w21.heap.size ≤ g63 → w22.heap[g63]? = some (.cells #[.slice A59 n60 n61] 25 (0, 0)) → R (.returned (.bool false)) w22)))) ∧
     (b11 = false →
     (∀ w22 : World, Go.Sx.Fr S w0 w22 → Below w21.heap.size w21 w22 → w21.heap.size ≤ g63 → w22.heap[g63]? = some (.cells #[.slice A59 n60 n61] 25 (0, 0)) → R (.returned (.bool false)) w22))))))))))))))))))))))))))) :
    Calls Tryd.prog 7 #[(.agg #[.slice A0 n1 n2]), (.agg #[.slice A3 n4 n5]), (.slice A6 n7 n8)] w0 R :=
  Go.Sx.fn_sound0 (P := Tryd.prog) (S := S) (w0 := w0) (R := R) (ws := []) (an := [⟨999998, [], [], 0⟩, ⟨999999, [], [], 0⟩]) (f := 7) (n := 9) (xs := [.agg [.slice (.var 0) (.var 1) (.var 2)], .agg [.slice (.var 3) (.var 4) (.var 5)], .one (.slice (.var 6) (.var 7) (.var 8))]) (e := [.a A0, .n n1, .n n2, .a A3, .n n4, .n n5, .a A6, .n n7, .n n8]) rfl (by kernel_rfl) (Eq.mp (by kernel_rfl) h)


/-- tracery/tracerylaw10.OpcodeTurned: what is left of it. -/
theorem opcodeTurned_sx (R : Ending → World → Prop) (S : Nat → Prop) (w0 : World) (A0 : Option Addr) (n1 : Nat) (n2 : Nat) (i3 : Int) (i4 : Int) (h :
 ∀ g5 : Nat, w0.heap.size ≤ g5 → (∀ w1 : World, Go.Sx.Fr S w0 w1 → Below w0.heap.size w0 w1 → w0.heap.size ≤ g5 → w1.heap[g5]? = some (.cells #[.slice A0 n1 n2] 25 (0, 0)) → 
 Calls Tryd.prog 14 #[] w1 fun r w2 => ∃ b6 : Bool, r = .returned (.bool b6) ∧ (Go.Sx.Fr S w0 w2 ∧ Go.Sx.Mild [g5] w1 w2) ∧ 
 (
 Calls Tryd.prog 16 #[(.agg #[.slice A0 n1 n2])] w2 fun r w3 => ∃ A7 : Option Addr, ∃ n8 : Nat, ∃ n9 : Nat, r = .returned (.agg #[.slice A7 n8 n9]) ∧ (Go.Sx.Fr S w0 w3 ∧ Go.Sx.Mild [g5] w2 w3) ∧ 
 (∀ w4 : World, Go.Sx.Fr S w0 w4 → Go.Sx.Fr (fun b => b ∈ [g5]) w3 w4 → 
 Calls Tryd.prog 15 #[(.slice none 0 0), (.agg #[.slice A7 n8 n9])] w4 fun r w5 => ∃ A10 : Option Addr, ∃ n11 : Nat, ∃ n12 : Nat, ∃ i13 : Int, r = .returned (.tuple #[.slice A10 n11 n12, .int .i64 i13]) ∧ (Go.Sx.Fr S w0 w5 ∧ Go.Sx.Mild [g5] w4 w5) ∧ 
 ((¬ i13 = (0 : Int) →
 (R (.returned (.bool b6)) w5)) ∧
 (i13 = (0 : Int) →
 ((i3 < (0 : Int) →
  (R (.returned (.bool b6)) w5)) ∧
  ((0 : Int) ≤ i3 →
  (((n11 : Int) ≤ i3 →
   (R (.returned (.bool b6)) w5)) ∧
   (i3 < (n11 : Int) →
   ((0 : Int) ≤ i3 ∧ i3 < (n11 : Int) ∧ ∃ p14 : Nat, ∃ o15 : Nat, A10 = some ⟨p14, o15, none⟩ ∧
    (∃ i16 : Int, Go.Sx.CellsAt w5 p14 (o15 + (i3).toNat * 1 + 0) [.int .u8 i16] ∧ 
    ((0 : Int) ≤ i3 ∧ i3 < (n11 : Int) ∧ ∃ p17 : Nat, ∃ o18 : Nat, A10 = some ⟨p17, o18, none⟩ ∧
    (
    ∃ w6 : World, (Instr.storeAt 5 (.pointer (some ⟨p17, o18 + (i3).toNat * 1 + 0, none⟩)) (.int .u8 (bits .xor .u8 i16 i4))).run Tryd.prog w5 = .ok () w6 ∧ (Go.Sx.Fr S w0 w6 ∧ Go.Sx.Mild [g5] w5 w6) ∧ 
    (
    Calls Tryd.prog 21 #[(.slice A10 n11 n12)] w6 fun r w7 => ∃ A19 : Option Addr, ∃ n20 : Nat, ∃ n21 : Nat, ∃ i22 : Int, r = .returned (.tuple #[.agg #[.slice A19 n20 n21], .int .i64 i22]) ∧ (Go.Sx.Fr S w0 w7 ∧ Go.Sx.Mild [g5] w6 w7) ∧ 
    ∀ g23 : Nat, w0.heap.size ≤ g23 → ((¬ i22 = (0 : Int) →
    ((b6 = true →
     ((i22 = (2 : Int) →
      (((n20 : Int) = (0 : Int) →
       (∀ w8 : World, Go.Sx.Fr S w0 w8 → Below w7.heap.size w7 w8 → w7.heap.size ≤ g23 → w8.heap[g23]? = some (.cells #[.slice A19 n20 n21] 25 (0, 0)) → R (.returned (.bool (i4 != (0 : Int)))) w8)) ∧
       (¬ (n20 : Int) = (0 : Int) →
       (∀ w8 : World, Go.Sx.Fr S w0 w8 → Below w7.heap.size w7 w8 → w7.heap.size ≤ g23 → w8.heap[g23]? = some (.cells #[.slice A19 n20 n21] 25 (0, 0)) → R (.returned (.bool false)) w8)))) ∧
      (¬ i22 = (2 : Int) →
      (∀ w8 : World, Go.Sx.Fr S w0 w8 → Below w7.heap.size w7 w8 → w7.heap.size ≤ g23 → w8.heap[g23]? = some (.cells #[.slice A19 n20 n21] 25 (0, 0)) → R (.returned (.bool false)) w8)))) ∧
     (b6 = false →
     (∀ w8 : World, Go.Sx.Fr S w0 w8 → Below w7.heap.size w7 w8 → w7.heap.size ≤ g23 → w8.heap[g23]? = some (.cells #[.slice A19 n20 n21] 25 (0, 0)) → R (.returned (.bool false)) w8)))) ∧
    (i22 = (0 : Int) →
    (∀ w8 : World, Go.Sx.Fr S w0 w8 → Below w7.heap.size w7 w8 → w7.heap.size ≤ g23 → w8.heap[g23]? = some (.cells #[.slice A19 n20 n21] 25 (0, 0)) → 
     Calls Tryd.prog 15 #[(.slice none 0 0), (.agg #[.slice A19 n20 n21])] w8 fun r w9 => ∃ A24 : Option Addr, ∃ n25 : Nat, ∃ n26 : Nat, ∃ i27 : Int, r = .returned (.tuple #[.slice A24 n25 n26, .int .i64 i27]) ∧ (Go.Sx.Fr S w0 w9 ∧ Go.Sx.Mild [g23, g5] w8 w9) ∧ 
     (
     Calls Tryd.prog 18 #[(.agg #[.slice A19 n20 n21]), (.agg #[.slice A7 n8 n9])] w9 fun r w10 => ∃ b28 : Bool, r = .returned (.bool b28) ∧ (Go.Sx.Fr S w0 w10 ∧ Go.Sx.Mild [g23, g5] w9 w10) ∧ 
     ((b6 = true →
     ((i27 = (0 : Int) →
      (∃ s29 : ByteArray, (convert 22 9 (.slice A24 n25 n26)).run Tryd.prog w10 = .ok (.string s29) w10 ∧
       (∃ s30 : ByteArray, (convert 22 9 (.slice A10 n11 n12)).run Tryd.prog w10 = .ok (.string s30) w10 ∧
       (((s29).toList = (s30).toList →
       (∃ b31 : Bool, (binOp .eql 4 (.bool b28) (.bool (i4 == (0 : Int)))).run Tryd.prog w10 = .ok (.bool b31) w10 ∧
        (R (.returned (.bool b31)) w10))) ∧
       (¬ (s29).toList = (s30).toList →
       (R (.returned (.bool false)) w10)))))) ∧
      (¬ i27 = (0 : Int) →
      (R (.returned (.bool false)) w10)))) ∧
     (b6 = false →
     (R (.returned (.bool false)) w10)))))))))))))))))))))) :
    Calls Tryd.prog 8 #[(.agg #[.slice A0 n1 n2]), (.int .i64 i3), (.int .u8 i4)] w0 R :=
  Go.Sx.fn_sound0 (P := Tryd.prog) (S := S) (w0 := w0) (R := R) (ws := []) (an := [⟨999998, [], [], 0⟩, ⟨999999, [], [], 0⟩]) (f := 8) (n := 5) (xs := [.agg [.slice (.var 0) (.var 1) (.var 2)], .one (.int .i64 (.var 3)), .one (.int .u8 (.var 4))]) (e := [.a A0, .n n1, .n n2, .i i3, .i i4]) rfl (by kernel_rfl) (Eq.mp (by kernel_rfl) h)


/-- tracery/tracerylaw10.OpcodeRows: what is left of it. -/
theorem opcodeRows_sx (R : Ending → World → Prop) (S : Nat → Prop) (w0 : World) (A0 : Option Addr) (n1 : Nat) (n2 : Nat) (h :
 (
 Calls Tryd.prog 14 #[] w0 fun r w1 => ∃ b3 : Bool, r = .returned (.bool b3) ∧ (Go.Sx.Fr S w0 w1 ∧ Go.Sx.Mild [] w0 w1) ∧ 
 ∀ g4 : Nat, w0.heap.size ≤ g4 → ∀ g5 : Nat, w0.heap.size ≤ g5 → (∃ (I0 : Option Addr → Nat → Nat → Option Addr → Nat → Nat → Int → World → Prop) (M0 : Option Addr → Nat → Nat → Option Addr → Nat → Nat → Int → World → Nat), (∀ w2 : World, Go.Sx.Fr S w0 w2 → Below w1.heap.size w1 w2 → w1.heap.size ≤ g5 → w2.heap[g5]? = some (.cells #[] 25 (0, 0)) → w1.heap.size ≤ g4 → w2.heap[g4]? = some (.cells #[] 5 (0, 0)) → I0 (some ⟨g4, 0, none⟩) 0 0 (some ⟨g5, 0, none⟩) 0 0 (0 : Int) w2) ∧
 ∀ A6 : Option Addr, ∀ n7 : Nat, ∀ n8 : Nat, ∀ A9 : Option Addr, ∀ n10 : Nat, ∀ n11 : Nat, ∀ i12 : Int, ∀ w3 : World, Go.Sx.Fr S w0 w3 → I0 A6 n7 n8 A9 n10 n11 i12 w3 → 
  ((i12 < (n1 : Int) →
  ((i12 < (8 : Int) →
   ((0 : Int) ≤ i12 ∧ i12 < (n1 : Int) ∧ ∃ p13 : Nat, ∃ o14 : Nat, A0 = some ⟨p13, o14, none⟩ ∧
    (∃ A15 : Option Addr, ∃ n16 : Nat, ∃ n17 : Nat, Go.Sx.CellsAt w3 p13 (o14 + (i12).toNat * 1 + 0) [.slice A15 n16 n17] ∧ 
    (
    Calls Tryd.prog 16 #[(.agg #[.slice A15 n16 n17])] w3 fun r w4 => ∃ A18 : Option Addr, ∃ n19 : Nat, ∃ n20 : Nat, r = .returned (.agg #[.slice A18 n19 n20]) ∧ (Go.Sx.Fr S w0 w4 ∧ Go.Sx.Mild [g5, g4] w3 w4) ∧ 
    (
    Calls Tryd.prog 15 #[(.slice A6 n7 n8), (.agg #[.slice A18 n19 n20])] w4 fun r w5 => ∃ A21 : Option Addr, ∃ n22 : Nat, ∃ n23 : Nat, ∃ i24 : Int, r = .returned (.tuple #[.slice A21 n22 n23, .int .i64 i24]) ∧ (Go.Sx.Fr S w0 w5 ∧ Go.Sx.Mild [g5, g4] w4 w5) ∧ 
    ((i24 = (0 : Int) →
    ((0 : Int) ≤ i12 ∧ i12 < (n1 : Int) ∧ ∃ p25 : Nat, ∃ o26 : Nat, A0 = some ⟨p25, o26, none⟩ ∧
     (∃ A27 : Option Addr, ∃ n28 : Nat, ∃ n29 : Nat, Go.Sx.CellsAt w5 p25 (o26 + (i12).toNat * 1 + 0) [.slice A27 n28 n29] ∧ 
     (
     Calls Tryd.prog 16 #[(.agg #[.slice A27 n28 n29])] w5 fun r w6 => ∃ A30 : Option Addr, ∃ n31 : Nat, ∃ n32 : Nat, r = .returned (.agg #[.slice A30 n31 n32]) ∧ (Go.Sx.Fr S w0 w6 ∧ Go.Sx.Mild [g5, g4] w5 w6) ∧ 
     ∀ g33 : Nat, w0.heap.size ≤ g33 → (∀ w7 : World, Go.Sx.Fr S w0 w7 → Below w6.heap.size w6 w7 → w6.heap.size ≤ g33 → w7.heap[g33]? = some (.cells #[.slice A30 n31 n32] 25 (0, 0)) → 
     ∃ w8 : World, ∃ A34 : Option Addr, ∃ n35 : Nat, ∃ n36 : Nat, (Builtin.append_ #[41, 41] 41 #[(.slice A9 n10 n11), (.slice (some ⟨g33, 0, none⟩) 1 1)]).run Tryd.prog w7 = .ok (.slice A34 n35 n36) w8 ∧ (Go.Sx.Fr S w0 w8 ∧ Go.Sx.Mild [g33, g5, g4] w7 w8) ∧ 
     (I0 A21 n22 n23 A34 n35 n36 (IntKind.i64.wrap (i12 + (1 : Int))) w8 ∧ M0 A21 n22 n23 A34 n35 n36 (IntKind.i64.wrap (i12 + (1 : Int))) w8 < M0 A6 n7 n8 A9 n10 n11 i12 w3)))))) ∧
    (¬ i24 = (0 : Int) →
    (I0 A6 n7 n8 A9 n10 n11 (IntKind.i64.wrap (i12 + (1 : Int))) w5 ∧ M0 A6 n7 n8 A9 n10 n11 (IntKind.i64.wrap (i12 + (1 : Int))) w5 < M0 A6 n7 n8 A9 n10 n11 i12 w3)))))))) ∧
   ((8 : Int) ≤ i12 →
   (∃ (I1 : Bool → Int → World → Prop) (M1 : Bool → Int → World → Nat), (I1 false (0 : Int) w3) ∧
    ∀ b13 : Bool, ∀ i14 : Int, ∀ w4 : World, Go.Sx.Fr S w0 w4 → I1 b13 i14 w4 → 
     ((i14 < (n10 : Int) →
     (∃ (I2 : Bool → Int → World → Prop) (M2 : Bool → Int → World → Nat), (I2 b13 (0 : Int) w4) ∧
      ∀ b15 : Bool, ∀ i16 : Int, ∀ w5 : World, Go.Sx.Fr S w0 w5 → I2 b15 i16 w5 → 
       ((i16 < i14 →
       ((0 : Int) ≤ i14 ∧ i14 < (n10 : Int) ∧ ∃ p17 : Nat, ∃ o18 : Nat, A9 = some ⟨p17, o18, none⟩ ∧
        (∃ A19 : Option Addr, ∃ n20 : Nat, ∃ n21 : Nat, Go.Sx.CellsAt w5 p17 (o18 + (i14).toNat * 1 + 0) [.slice A19 n20 n21] ∧ 
        (
        Calls Tryd.prog 15 #[(.slice none 0 0), (.agg #[.slice A19 n20 n21])] w5 fun r w6 => ∃ A22 : Option Addr, ∃ n23 : Nat, ∃ n24 : Nat, ∃ i25 : Int, r = .returned (.tuple #[.slice A22 n23 n24, .int .i64 i25]) ∧ (Go.Sx.Fr S w0 w6 ∧ Go.Sx.Mild [g5, g4] w5 w6) ∧ 
        ((0 : Int) ≤ i16 ∧ i16 < (n10 : Int) ∧ ∃ p26 : Nat, ∃ o27 : Nat, A9 = some ⟨p26, o27, none⟩ ∧
        (∃ A28 : Option Addr, ∃ n29 : Nat, ∃ n30 : Nat, Go.Sx.CellsAt w6 p26 (o27 + (i16).toNat * 1 + 0) [.slice A28 n29 n30] ∧ 
        (
        Calls Tryd.prog 15 #[(.slice none 0 0), (.agg #[.slice A28 n29 n30])] w6 fun r w7 => ∃ A31 : Option Addr, ∃ n32 : Nat, ∃ n33 : Nat, ∃ i34 : Int, r = .returned (.tuple #[.slice A31 n32 n33, .int .i64 i34]) ∧ (Go.Sx.Fr S w0 w7 ∧ Go.Sx.Mild [g5, g4] w6 w7) ∧ 
        (∃ T35 : List Nat, (∀ b ∈ T35, b < w7.heap.size ∧ b ∉ [g5, g4]) ∧
        (((n23 : Int) ≤ (n32 : Int) →
        (∀ w8 : World, Go.Sx.Fr S w0 w8 → Below w7.heap.size w7 w8 → ∃ A36 : Option Addr, ∃ n37 : Nat, ∃ n38 : Nat, (∀ w', Go.Sx.Keep w7.heap.size (T35 ++ []) w8 w' → (Instr.sliceAt 22 (.slice A31 n32 n33) none (some (.int .i64 (n23 : Int))) none).run Tryd.prog w' = .ok (.slice A36 n37 n38) w') ∧
         (∃ s39 : ByteArray, (∀ w', Go.Sx.Keep w7.heap.size (T35 ++ []) w8 w' → (convert 22 9 (.slice A36 n37 n38)).run Tryd.prog w' = .ok (.string s39) w') ∧
         (∃ s40 : ByteArray, (∀ w', Go.Sx.Keep w7.heap.size (T35 ++ []) w8 w' → (convert 22 9 (.slice A22 n23 n24)).run Tryd.prog w' = .ok (.string s40) w') ∧
         (∃ T41 : List Nat, (∀ b ∈ T41, b < w8.heap.size ∧ b ∉ [g5, g4]) ∧
         ((0 : Int) ≤ i14 ∧ i14 < (n10 : Int) ∧ ∃ p42 : Nat, ∃ o43 : Nat, A9 = some ⟨p42, o43, none⟩ ∧
         (∀ w9 : World, Go.Sx.Fr S w0 w9 → Below w8.heap.size w8 w9 → ∃ A44 : Option Addr, ∃ n45 : Nat, ∃ n46 : Nat, Go.Sx.CellsAt w9 p42 (o43 + (i14).toNat * 1 + 0) [.slice A44 n45 n46] ∧ (p42 < w8.heap.size ∧ p42 ∉ (T41 ++ [])) ∧ 
         ((0 : Int) ≤ i16 ∧ i16 < (n10 : Int) ∧ ∃ p47 : Nat, ∃ o48 : Nat, A9 = some ⟨p47, o48, none⟩ ∧
         (∃ A49 : Option Addr, ∃ n50 : Nat, ∃ n51 : Nat, Go.Sx.CellsAt w9 p47 (o48 + (i16).toNat * 1 + 0) [.slice A49 n50 n51] ∧ (p47 < w8.heap.size ∧ p47 ∉ (T41 ++ [])) ∧ 
         (
         Calls Tryd.prog 18 #[(.agg #[.slice A44 n45 n46]), (.agg #[.slice A49 n50 n51])] w9 fun r w10 => ∃ b52 : Bool, r = .returned (.bool b52) ∧ (Go.Sx.Fr S w0 w10 ∧ Go.Sx.Mild [g5, g4] w9 w10) ∧ 
         (∃ b53 : Bool, (binOp .neq 4 (.bool ((s39).toList == (s40).toList)) (.bool b52)).run Tryd.prog w10 = .ok (.bool b53) w10 ∧
         ((b53 = true →
         (R (.returned (.bool false)) w10)) ∧
         (b53 = false →
         (I2 b15 (IntKind.i64.wrap (i16 + (1 : Int))) w10 ∧ M2 b15 (IntKind.i64.wrap (i16 + (1 : Int))) w10 < M2 b15 i16 w5)))))))))))))) ∧
        ((n32 : Int) < (n23 : Int) →
        (∀ w8 : World, Go.Sx.Fr S w0 w8 → Below w7.heap.size w7 w8 → ∃ T36 : List Nat, (∀ b ∈ T36, b < w8.heap.size ∧ b ∉ [g5, g4]) ∧
         ((0 : Int) ≤ i14 ∧ i14 < (n10 : Int) ∧ ∃ p37 : Nat, ∃ o38 : Nat, A9 = some ⟨p37, o38, none⟩ ∧
         (∀ w9 : World, Go.Sx.Fr S w0 w9 → Below w8.heap.size w8 w9 → ∃ A39 : Option Addr, ∃ n40 : Nat, ∃ n41 : Nat, Go.Sx.CellsAt w9 p37 (o38 + (i14).toNat * 1 + 0) [.slice A39 n40 n41] ∧ (p37 < w8.heap.size ∧ p37 ∉ (T36 ++ [])) ∧ 
         ((0 : Int) ≤ i16 ∧ i16 < (n10 : Int) ∧ ∃ p42 : Nat, ∃ o43 : Nat, A9 = some ⟨p42, o43, none⟩ ∧
         (∃ A44 : Option Addr, ∃ n45 : Nat, ∃ n46 : Nat, Go.Sx.CellsAt w9 p42 (o43 + (i16).toNat * 1 + 0) [.slice A44 n45 n46] ∧ (p42 < w8.heap.size ∧ p42 ∉ (T36 ++ [])) ∧ 
         (
         Calls Tryd.prog 18 #[(.agg #[.slice A39 n40 n41]), (.agg #[.slice A44 n45 n46])] w9 fun r w10 => ∃ b47 : Bool, r = .returned (.bool b47) ∧ (Go.Sx.Fr S w0 w10 ∧ Go.Sx.Mild [g5, g4] w9 w10) ∧ 
         (∃ b48 : Bool, (binOp .neq 4 (.bool false) (.bool b47)).run Tryd.prog w10 = .ok (.bool b48) w10 ∧
         ((b48 = true →
         (R (.returned (.bool false)) w10)) ∧
         (b48 = false →
         (I2 b15 (IntKind.i64.wrap (i16 + (1 : Int))) w10 ∧ M2 b15 (IntKind.i64.wrap (i16 + (1 : Int))) w10 < M2 b15 i16 w5)))))))))))))))))))) ∧
       (i14 ≤ i16 →
       (I1 b15 (IntKind.i64.wrap (i14 + (1 : Int))) w5 ∧ M1 b15 (IntKind.i64.wrap (i14 + (1 : Int))) w5 < M1 b13 i14 w4))))) ∧
     ((n10 : Int) ≤ i14 →
     (∃ (I2 : Bool → Option Addr → Nat → Nat → Int → World → Prop) (M2 : Bool → Option Addr → Nat → Nat → Int → World → Nat), (I2 b13 A6 n7 n8 (0 : Int) w4) ∧
      ∀ b15 : Bool, ∀ A16 : Option Addr, ∀ n17 : Nat, ∀ n18 : Nat, ∀ i19 : Int, ∀ w5 : World, Go.Sx.Fr S w0 w5 → I2 b15 A16 n17 n18 i19 w5 → 
       ((i19 < (n10 : Int) →
       (
        Calls Tryd.prog 19 #[(.slice A16 n17 n18)] w5 fun r w6 => ∃ A20 : Option Addr, ∃ n21 : Nat, ∃ n22 : Nat, ∃ A23 : Option Addr, ∃ n24 : Nat, ∃ n25 : Nat, ∃ i26 : Int, r = .returned (.tuple #[.agg #[.slice A20 n21 n22], .slice A23 n24 n25, .int .i64 i26]) ∧ (Go.Sx.Fr S w0 w6 ∧ Go.Sx.Mild [g5, g4] w5 w6) ∧ 
        ∀ g27 : Nat, w0.heap.size ≤ g27 → (∀ w7 : World, Go.Sx.Fr S w0 w7 → Below w6.heap.size w6 w7 → w6.heap.size ≤ g27 → w7.heap[g27]? = some (.cells #[.slice A20 n21 n22] 25 (0, 0)) → ∃ T28 : List Nat, (∀ b ∈ T28, b < w7.heap.size ∧ b ∉ [g27, g5, g4]) ∧
        ((0 : Int) ≤ i19 ∧ i19 < (n10 : Int) ∧ ∃ p29 : Nat, ∃ o30 : Nat, A9 = some ⟨p29, o30, none⟩ ∧
        (∀ w8 : World, Go.Sx.Fr S w0 w8 → Below w7.heap.size w7 w8 → ∃ A31 : Option Addr, ∃ n32 : Nat, ∃ n33 : Nat, Go.Sx.CellsAt w8 p29 (o30 + (i19).toNat * 1 + 0) [.slice A31 n32 n33] ∧ (p29 < w7.heap.size ∧ p29 ∉ (T28 ++ [])) ∧ 
        (
        Calls Tryd.prog 18 #[(.agg #[.slice A20 n21 n22]), (.agg #[.slice A31 n32 n33])] w8 fun r w9 => ∃ b34 : Bool, r = .returned (.bool b34) ∧ (Go.Sx.Fr S w0 w9 ∧ Go.Sx.Mild [g27, g5, g4] w8 w9) ∧ 
        ((¬ i26 = (0 : Int) →
        (R (.returned (.bool false)) w9)) ∧
        (i26 = (0 : Int) →
        ((b34 = false →
         (R (.returned (.bool false)) w9)) ∧
         (b34 = true →
         (((n17 : Int) ≤ (n24 : Int) →
          (R (.returned (.bool false)) w9)) ∧
          ((n24 : Int) < (n17 : Int) →
          (I2 b15 A23 n24 n25 (IntKind.i64.wrap (i19 + (1 : Int))) w9 ∧ M2 b15 A23 n24 n25 (IntKind.i64.wrap (i19 + (1 : Int))) w9 < M2 b15 A16 n17 n18 i19 w5))))))))))))) ∧
       ((n10 : Int) ≤ i19 →
       ((b3 = true →
        (R (.returned (.bool ((n17 : Int) == (0 : Int)))) w5)) ∧
        (b3 = false →
        (R (.returned (.bool false)) w5)))))))))))) ∧
  ((n1 : Int) ≤ i12 →
  (∃ (I1 : Bool → Int → World → Prop) (M1 : Bool → Int → World → Nat), (I1 false (0 : Int) w3) ∧
   ∀ b13 : Bool, ∀ i14 : Int, ∀ w4 : World, Go.Sx.Fr S w0 w4 → I1 b13 i14 w4 → 
    ((i14 < (n10 : Int) →
    (∃ (I2 : Bool → Int → World → Prop) (M2 : Bool → Int → World → Nat), (I2 b13 (0 : Int) w4) ∧
     ∀ b15 : Bool, ∀ i16 : Int, ∀ w5 : World, Go.Sx.Fr S w0 w5 → I2 b15 i16 w5 → 
      ((i16 < i14 →
      ((0 : Int) ≤ i14 ∧ i14 < (n10 : Int) ∧ ∃ p17 : Nat, ∃ o18 : Nat, A9 = some ⟨p17, o18, none⟩ ∧
       (∃ A19 : Option Addr, ∃ n20 : Nat, ∃ n21 : Nat, Go.Sx.CellsAt w5 p17 (o18 + (i14).toNat * 1 + 0) [.slice A19 n20 n21] ∧ 
       (
       Calls Tryd.prog 15 #[(.slice none 0 0), (.agg #[.slice A19 n20 n21])] w5 fun r w6 => ∃ A22 : Option Addr, ∃ n23 : Nat, ∃ n24 : Nat, ∃ i25 : Int, r = .returned (.tuple #[.slice A22 n23 n24, .int .i64 i25]) ∧ (Go.Sx.Fr S w0 w6 ∧ Go.Sx.Mild [g5, g4] w5 w6) ∧ 
       ((0 : Int) ≤ i16 ∧ i16 < (n10 : Int) ∧ ∃ p26 : Nat, ∃ o27 : Nat, A9 = some ⟨p26, o27, none⟩ ∧
       (∃ A28 : Option Addr, ∃ n29 : Nat, ∃ n30 : Nat, Go.Sx.CellsAt w6 p26 (o27 + (i16).toNat * 1 + 0) [.slice A28 n29 n30] ∧ 
       (
       Calls Tryd.prog 15 #[(.slice none 0 0), (.agg #[.slice A28 n29 n30])] w6 fun r w7 => ∃ A31 : Option Addr, ∃ n32 : Nat, ∃ n33 : Nat, ∃ i34 : Int, r = .returned (.tuple #[.slice A31 n32 n33, .int .i64 i34]) ∧ (Go.Sx.Fr S w0 w7 ∧ Go.Sx.Mild [g5, g4] w6 w7) ∧ 
       (∃ T35 : List Nat, (∀ b ∈ T35, b < w7.heap.size ∧ b ∉ [g5, g4]) ∧
       (((n23 : Int) ≤ (n32 : Int) →
       (∀ w8 : World, Go.Sx.Fr S w0 w8 → Below w7.heap.size w7 w8 → ∃ A36 : Option Addr, ∃ n37 : Nat, ∃ n38 : Nat, (∀ w', Go.Sx.Keep w7.heap.size (T35 ++ []) w8 w' → (Instr.sliceAt 22 (.slice A31 n32 n33) none (some (.int .i64 (n23 : Int))) none).run Tryd.prog w' = .ok (.slice A36 n37 n38) w') ∧
        (∃ s39 : ByteArray, (∀ w', Go.Sx.Keep w7.heap.size (T35 ++ []) w8 w' → (convert 22 9 (.slice A36 n37 n38)).run Tryd.prog w' = .ok (.string s39) w') ∧
        (∃ s40 : ByteArray, (∀ w', Go.Sx.Keep w7.heap.size (T35 ++ []) w8 w' → (convert 22 9 (.slice A22 n23 n24)).run Tryd.prog w' = .ok (.string s40) w') ∧
        (∃ T41 : List Nat, (∀ b ∈ T41, b < w8.heap.size ∧ b ∉ [g5, g4]) ∧
        ((0 : Int) ≤ i14 ∧ i14 < (n10 : Int) ∧ ∃ p42 : Nat, ∃ o43 : Nat, A9 = some ⟨p42, o43, none⟩ ∧
        (∀ w9 : World, Go.Sx.Fr S w0 w9 → Below w8.heap.size w8 w9 → ∃ A44 : Option Addr, ∃ n45 : Nat, ∃ n46 : Nat, Go.Sx.CellsAt w9 p42 (o43 + (i14).toNat * 1 + 0) [.slice A44 n45 n46] ∧ (p42 < w8.heap.size ∧ p42 ∉ (T41 ++ [])) ∧ 
        ((0 : Int) ≤ i16 ∧ i16 < (n10 : Int) ∧ ∃ p47 : Nat, ∃ o48 : Nat, A9 = some ⟨p47, o48, none⟩ ∧
        (∃ A49 : Option Addr, ∃ n50 : Nat, ∃ n51 : Nat, Go.Sx.CellsAt w9 p47 (o48 + (i16).toNat * 1 + 0) [.slice A49 n50 n51] ∧ (p47 < w8.heap.size ∧ p47 ∉ (T41 ++ [])) ∧ 
        (
        Calls Tryd.prog 18 #[(.agg #[.slice A44 n45 n46]), (.agg #[.slice A49 n50 n51])] w9 fun r w10 => ∃ b52 : Bool, r = .returned (.bool b52) ∧ (Go.Sx.Fr S w0 w10 ∧ Go.Sx.Mild [g5, g4] w9 w10) ∧ 
        (∃ b53 : Bool, (binOp .neq 4 (.bool ((s39).toList == (s40).toList)) (.bool b52)).run Tryd.prog w10 = .ok (.bool b53) w10 ∧
        ((b53 = true →
        (R (.returned (.bool false)) w10)) ∧
        (b53 = false →
        (I2 b15 (IntKind.i64.wrap (i16 + (1 : Int))) w10 ∧ M2 b15 (IntKind.i64.wrap (i16 + (1 : Int))) w10 < M2 b15 i16 w5)))))))))))))) ∧
       ((n32 : Int) < (n23 : Int) →
       (∀ w8 : World, Go.Sx.Fr S w0 w8 → Below w7.heap.size w7 w8 → ∃ T36 : List Nat, (∀ b ∈ T36, b < w8.heap.size ∧ b ∉ [g5, g4]) ∧
        ((0 : Int) ≤ i14 ∧ i14 < (n10 : Int) ∧ ∃ p37 : Nat, ∃ o38 : Nat, A9 = some ⟨p37, o38, none⟩ ∧
        (∀ w9 : World, Go.Sx.Fr S w0 w9 → Below w8.heap.size w8 w9 → ∃ A39 : Option Addr, ∃ n40 : Nat, ∃ n41 : Nat, Go.Sx.CellsAt w9 p37 (o38 + (i14).toNat * 1 + 0) [.slice A39 n40 n41] ∧ (p37 < w8.heap.size ∧ p37 ∉ (T36 ++ [])) ∧ 
        ((0 : Int) ≤ i16 ∧ i16 < (n10 : Int) ∧ ∃ p42 : Nat, ∃ o43 : Nat, A9 = some ⟨p42, o43, none⟩ ∧
        (∃ A44 : Option Addr, ∃ n45 : Nat, ∃ n46 : Nat, Go.Sx.CellsAt w9 p42 (o43 + (i16).toNat * 1 + 0) [.slice A44 n45 n46] ∧ (p42 < w8.heap.size ∧ p42 ∉ (T36 ++ [])) ∧ 
        (
        Calls Tryd.prog 18 #[(.agg #[.slice A39 n40 n41]), (.agg #[.slice A44 n45 n46])] w9 fun r w10 => ∃ b47 : Bool, r = .returned (.bool b47) ∧ (Go.Sx.Fr S w0 w10 ∧ Go.Sx.Mild [g5, g4] w9 w10) ∧ 
        (∃ b48 : Bool, (binOp .neq 4 (.bool false) (.bool b47)).run Tryd.prog w10 = .ok (.bool b48) w10 ∧
        ((b48 = true →
        (R (.returned (.bool false)) w10)) ∧
        (b48 = false →
        (I2 b15 (IntKind.i64.wrap (i16 + (1 : Int))) w10 ∧ M2 b15 (IntKind.i64.wrap (i16 + (1 : Int))) w10 < M2 b15 i16 w5)))))))))))))))))))) ∧
      (i14 ≤ i16 →
      (I1 b15 (IntKind.i64.wrap (i14 + (1 : Int))) w5 ∧ M1 b15 (IntKind.i64.wrap (i14 + (1 : Int))) w5 < M1 b13 i14 w4))))) ∧
    ((n10 : Int) ≤ i14 →
    (∃ (I2 : Bool → Option Addr → Nat → Nat → Int → World → Prop) (M2 : Bool → Option Addr → Nat → Nat → Int → World → Nat), (I2 b13 A6 n7 n8 (0 : Int) w4) ∧
     ∀ b15 : Bool, ∀ A16 : Option Addr, ∀ n17 : Nat, ∀ n18 : Nat, ∀ i19 : Int, ∀ w5 : World, Go.Sx.Fr S w0 w5 → I2 b15 A16 n17 n18 i19 w5 → 
      ((i19 < (n10 : Int) →
      (
       Calls Tryd.prog 19 #[(.slice A16 n17 n18)] w5 fun r w6 => ∃ A20 : Option Addr, ∃ n21 : Nat, ∃ n22 : Nat, ∃ A23 : Option Addr, ∃ n24 : Nat, ∃ n25 : Nat, ∃ i26 : Int, r = .returned (.tuple #[.agg #[.slice A20 n21 n22], .slice A23 n24 n25, .int .i64 i26]) ∧ (Go.Sx.Fr S w0 w6 ∧ Go.Sx.Mild [g5, g4] w5 w6) ∧ 
       ∀ g27 : Nat, w0.heap.size ≤ g27 → (∀ w7 : World, Go.Sx.Fr S w0 w7 → Below w6.heap.size w6 w7 → w6.heap.size ≤ g27 → w7.heap[g27]? = some (.cells #[.slice A20 n21 n22] 25 (0, 0)) → ∃ T28 : List Nat, (∀ b ∈ T28, b < w7.heap.size ∧ b ∉ [g27, g5, g4]) ∧
       ((0 : Int) ≤ i19 ∧ i19 < (n10 : Int) ∧ ∃ p29 : Nat, ∃ o30 : Nat, A9 = some ⟨p29, o30, none⟩ ∧
       (∀ w8 : World, Go.Sx.Fr S w0 w8 → Below w7.heap.size w7 w8 → ∃ A31 : Option Addr, ∃ n32 : Nat, ∃ n33 : Nat, Go.Sx.CellsAt w8 p29 (o30 + (i19).toNat * 1 + 0) [.slice A31 n32 n33] ∧ (p29 < w7.heap.size ∧ p29 ∉ (T28 ++ [])) ∧ 
       (
       Calls Tryd.prog 18 #[(.agg #[.slice A20 n21 n22]), (.agg #[.slice A31 n32 n33])] w8 fun r w9 => ∃ b34 : Bool, r = .returned (.bool b34) ∧ (Go.Sx.Fr S w0 w9 ∧ Go.Sx.Mild [g27, g5, g4] w8 w9) ∧ 
       ((¬ i26 = (0 : Int) →
       (R (.returned (.bool false)) w9)) ∧
       (i26 = (0 : Int) →
       ((b34 = false →
        (R (.returned (.bool false)) w9)) ∧
        (b34 = true →
        (((n17 : Int) ≤ (n24 : Int) →
         (R (.returned (.bool false)) w9)) ∧
         ((n24 : Int) < (n17 : Int) →
         (I2 b15 A23 n24 n25 (IntKind.i64.wrap (i19 + (1 : Int))) w9 ∧ M2 b15 A23 n24 n25 (IntKind.i64.wrap (i19 + (1 : Int))) w9 < M2 b15 A16 n17 n18 i19 w5))))))))))))) ∧
      ((n10 : Int) ≤ i19 →
      ((b3 = true →
       (R (.returned (.bool ((n17 : Int) == (0 : Int)))) w5)) ∧
       (b3 = false →
       (R (.returned (.bool false)) w5)))))))))))))) :
    Calls Tryd.prog 5 #[(.slice A0 n1 n2)] w0 R :=
  Go.Sx.fn_sound0 (P := Tryd.prog) (S := S) (w0 := w0) (R := R) (ws := []) (an := [⟨999998, [], [], 0⟩, ⟨999999, [], [], 0⟩]) (f := 5) (n := 3) (xs := [.one (.slice (.var 0) (.var 1) (.var 2))]) (e := [.a A0, .n n1, .n n2]) rfl (by kernel_rfl) (Eq.mp (by kernel_rfl) h)


end Go.Proofs.YtfjenamomipmdaaDoor
