/- Net: what is left of the law NetOrder. -/
import Derived.Test.YtdjjfpcfclheiaaProg
import Derived.Test.YtdjjfpcfclheiaaSs
import Derived.KernelRfl
set_option linter.unusedVariables false
namespace Go.Proofs.Ytdjjfpcfclheiaa
open Go Go.RowKit Go.Proofs Go.Trc
set_option maxRecDepth 100000
/-- tracery/tracerylaw21.NetOrder: what is left of it. -/
theorem netOrder_sx (R : Ending → World → Prop) (S : Nat → Prop) (w0 : World) (A0 : Option Addr) (n1 : Nat) (n2 : Nat) (i3 : Int) (h :
 (
 Calls Try.prog 24 #[] w0 fun r w1 => ∃ b4 : Bool, r = .returned (.bool b4) ∧ (Go.Sx.Fr S w0 w1 ∧ Go.Sx.Mild [] w0 w1) ∧ 
 (
 Calls Try.prog 25 #[] w1 fun r w2 => ∃ v5 : Value, r = .returned (v5) ∧ (Go.Sx.Fr S w0 w2 ∧ Go.Sx.Mild [] w1 w2) ∧ 
 ((b4 = false →
 (R (.returned (.bool false)) w2)) ∧
 (b4 = true →
 (∃ b6 : Bool, (binOp .eql 43 (v5) (.pointer none)).run Try.prog w2 = .ok (.bool b6) w2 ∧
  ((b6 = true →
  (R (.returned (.bool false)) w2)) ∧
  (b6 = false →
  ∀ g7 : Nat, w0.heap.size ≤ g7 → (∃ (I0 : Option Addr → Nat → Nat → Bool → World → Prop) (M0 : Option Addr → Nat → Nat → Bool → World → Nat),
   (∃ (I1 : Option Addr → Nat → Nat → Bool → Int → World → Prop) (M1 : Option Addr → Nat → Nat → Bool → Int → World → Nat), (∀ w3 : World, Go.Sx.Fr S w0 w3 → Below w2.heap.size w2 w3 → w2.heap.size ≤ g7 → w3.heap[g7]? = some (.cells #[] 47 (0, 0)) → I1 (some ⟨g7, 0, none⟩) 0 0 false (0 : Int) w3) ∧
   ∀ A8 : Option Addr, ∀ n9 : Nat, ∀ n10 : Nat, ∀ b11 : Bool, ∀ i12 : Int, ∀ w4 : World, Go.Sx.Fr S w0 w4 → I1 A8 n9 n10 b11 i12 w4 → 
    ((i12 < (n1 : Int) →
    ((i12 < (30 : Int) →
     (∃ A13 : Option Addr, ∃ n14 : Nat, ∃ n15 : Nat, (Instr.sliceAt 42 (.slice A0 n1 n2) (some (.int .i64 i12)) (some (.int .i64 (IntKind.i64.wrap (i12 + (1 : Int))))) none).run Try.prog w4 = .ok (.slice A13 n14 n15) w4 ∧
      (
      Calls Try.prog 26 #[(.slice A13 n14 n15)] w4 fun r w5 => ∃ A16 : Option Addr, ∃ n17 : Nat, ∃ n18 : Nat, r = .returned (.slice A16 n17 n18) ∧ (Go.Sx.Fr S w0 w5 ∧ Go.Sx.Mild [g7] w4 w5) ∧ 
      ((0 : Int) ≤ (0 : Int) ∧ (0 : Int) < (n17 : Int) ∧ ∃ p19 : Nat, ∃ o20 : Nat, A16 = some ⟨p19, o20, none⟩ ∧
      (∃ i21 : Int, ∃ i22 : Int, ∃ i23 : Int, ∃ i24 : Int, ∃ i25 : Int, ∃ i26 : Int, ∃ A27 : Option Addr, ∃ n28 : Nat, ∃ n29 : Nat, Go.Sx.CellsAt w5 p19 (o20 + ((0 : Int)).toNat * 7 + 0) [.int .i64 i21, .int .i64 i22, .int .i64 i23, .int .i64 i24, .int .i64 i25, .int .i64 i26, .slice A27 n28 n29] ∧ 
      ∀ g30 : Nat, w0.heap.size ≤ g30 → ∀ g31 : Nat, w0.heap.size ≤ g31 → (∀ w6 : World, Go.Sx.Fr S w0 w6 → Below w5.heap.size w5 w6 → w5.heap.size ≤ g31 → w6.heap[g31]? = some (.cells #[.int .i64 i21, .int .i64 i22, .int .i64 i23, .int .i64 i24, .int .i64 i25, .int .i64 i26, .slice A27 n28 n29] 47 (0, 0)) → w5.heap.size ≤ g30 → w6.heap[g30]? = some (.cells #[.int .i64 i21, .int .i64 i22, .int .i64 i23, .int .i64 i24, .int .i64 i25, .int .i64 i26, .slice A27 n28 n29] 47 (0, 0)) → 
      Calls Try.prog 27 #[(v5), (.slice (some ⟨g31, 0, none⟩) 1 1)] w6 fun r w7 => ∃ i32 : Int, r = .returned (.int .i64 i32) ∧ (Go.Sx.Fr S w0 w7 ∧ Go.Sx.Mild [g31, g30, g7] w6 w7) ∧ 
      (∃ (I2 : Option Addr → Nat → Nat → World → Prop) (M2 : Option Addr → Nat → Nat → World → Nat),
      (
      Calls Try.prog 28 #[(.agg #[.int .i64 i21, .int .i64 i22, .int .i64 i23, .int .i64 i24, .int .i64 i25, .int .i64 i26, .slice A27 n28 n29])] w7 fun r w8 => ∃ i33 : Int, r = .returned (.int .i64 i33) ∧ (Go.Sx.Fr S w0 w8 ∧ Go.Sx.Mild [g31, g30, g7] w7 w8) ∧ 
      ((i33 = (0 : Int) →
      ∀ g34 : Nat, w0.heap.size ≤ g34 → (∀ w9 : World, Go.Sx.Fr S w0 w9 → Below w8.heap.size w8 w9 → w8.heap.size ≤ g34 → w9.heap[g34]? = some (.cells #[.int .i64 i21, .int .i64 i22, .int .i64 i23, .int .i64 i24, .int .i64 i25, .int .i64 i26, .slice A27 n28 n29] 47 (0, 0)) → 
       ∃ w10 : World, ∃ A35 : Option Addr, ∃ n36 : Nat, ∃ n37 : Nat, (Builtin.append_ #[42, 42] 42 #[(.slice A8 n9 n10), (.slice (some ⟨g34, 0, none⟩) 1 1)]).run Try.prog w9 = .ok (.slice A35 n36 n37) w10 ∧ (Go.Sx.Fr S w0 w10 ∧ Go.Sx.Mild [g34, g31, g30, g7] w9 w10) ∧ 
       (I2 A35 n36 n37 w10 ∧ M2 A35 n36 n37 w10 < 1))) ∧
      (¬ i33 = (0 : Int) →
      (I2 A8 n9 n10 w8 ∧ M2 A8 n9 n10 w8 < 1)))) ∧
      ∀ A33 : Option Addr, ∀ n34 : Nat, ∀ n35 : Nat, ∀ w8 : World, Go.Sx.Fr S w0 w8 → I2 A33 n34 n35 w8 → 
       (
       Calls Try.prog 28 #[(.agg #[.int .i64 i21, .int .i64 i22, .int .i64 i23, .int .i64 i24, .int .i64 i25, .int .i64 i26, .slice A27 n28 n29])] w8 fun r w9 => ∃ i36 : Int, r = .returned (.int .i64 i36) ∧ (Go.Sx.Fr S w0 w9 ∧ Go.Sx.Mild [g31, g30, g7] w8 w9) ∧ 
       (∃ b37 : Bool, (binOp .neq 4 (.bool (i32 == (1 : Int))) (.bool (i36 == (0 : Int)))).run Try.prog w9 = .ok (.bool b37) w9 ∧
       ((b37 = true →
       (R (.returned (.bool false)) w9)) ∧
       (b37 = false →
       (
        Calls Try.prog 29 #[(v5)] w9 fun r w10 => ∃ i38 : Int, r = .returned (.int .i64 i38) ∧ (Go.Sx.Fr S w0 w10 ∧ Go.Sx.Mild [g31, g30, g7] w9 w10) ∧ 
        ((¬ i38 = (n34 : Int) →
        (R (.returned (.bool false)) w10)) ∧
        (i38 = (n34 : Int) →
        (I1 A33 n34 n35 b11 (IntKind.i64.wrap (i12 + (1 : Int))) w10 ∧ M1 A33 n34 n35 b11 (IntKind.i64.wrap (i12 + (1 : Int))) w10 < M1 A8 n9 n10 b11 i12 w4))))))))))))))) ∧
     ((30 : Int) ≤ i12 →
     (I0 A8 n9 n10 b11 w4 ∧ M0 A8 n9 n10 b11 w4 < 1)))) ∧
    ((n1 : Int) ≤ i12 →
    (I0 A8 n9 n10 b11 w4 ∧ M0 A8 n9 n10 b11 w4 < 1)))) ∧
   ∀ A8 : Option Addr, ∀ n9 : Nat, ∀ n10 : Nat, ∀ b11 : Bool, ∀ w3 : World, Go.Sx.Fr S w0 w3 → I0 A8 n9 n10 b11 w3 → 
    (∃ (I1 : Option Addr → Nat → Nat → Bool → World → Prop) (M1 : Option Addr → Nat → Nat → Bool → World → Nat),
    (((0 : Int) ≤ i3 →
    ((i3 < (n9 : Int) →
     (
      Calls Try.prog 30 #[(v5), (.int .i64 i3)] w3 fun r w4 => ∃ i12 : Int, r = .returned (.int .i64 i12) ∧ (Go.Sx.Fr S w0 w4 ∧ Go.Sx.Mild [g7] w3 w4) ∧ 
      ((¬ i12 = (0 : Int) →
      (R (.returned (.bool false)) w4)) ∧
      (i12 = (0 : Int) →
      (∃ T13 : List Nat, (∀ b ∈ T13, b < w4.heap.size ∧ b ∉ [g7]) ∧
       (∀ w5 : World, Go.Sx.Fr S w0 w5 → Below w4.heap.size w4 w5 → ∃ A14 : Option Addr, ∃ n15 : Nat, ∃ n16 : Nat, (∀ w', Go.Sx.Keep w4.heap.size (T13 ++ []) w5 w' → (Instr.sliceAt 42 (.slice A8 n9 n10) none (some (.int .i64 i3)) none).run Try.prog w' = .ok (.slice A14 n15 n16) w') ∧
       ((∀ g17 : Nat, w0.heap.size ≤ g17 → (((∀ w6 : World, Go.Sx.Fr S w0 w6 → Below w5.heap.size w5 w6 → w5.heap.size ≤ g17 → w6.heap[g17]? = some (.cells #[] 47 (0, 0)) → 
       ∃ w7 : World, ∃ A18 : Option Addr, ∃ n19 : Nat, ∃ n20 : Nat, (Builtin.append_ #[42, 42] 42 #[(.slice (some ⟨g17, 0, none⟩) 0 0), (.slice A14 n15 n16)]).run Try.prog w6 = .ok (.slice A18 n19 n20) w7 ∧ (Go.Sx.Fr S w0 w7 ∧ Go.Sx.Mild [g17, g7] w6 w7) ∧ 
       (∃ A21 : Option Addr, ∃ n22 : Nat, ∃ n23 : Nat, (Instr.sliceAt 42 (.slice A8 n9 n10) (some (.int .i64 (IntKind.i64.wrap (i3 + (1 : Int))))) none none).run Try.prog w7 = .ok (.slice A21 n22 n23) w7 ∧
       (
       ∃ w8 : World, ∃ A24 : Option Addr, ∃ n25 : Nat, ∃ n26 : Nat, (Builtin.append_ #[42, 42] 42 #[(.slice A18 n19 n20), (.slice A21 n22 n23)]).run Try.prog w7 = .ok (.slice A24 n25 n26) w8 ∧ (Go.Sx.Fr S w0 w8 ∧ Go.Sx.Mild [g17, g7] w7 w8) ∧ 
       (I1 A24 n25 n26 b11 w8 ∧ M1 A24 n25 n26 b11 w8 < 1))))) ∧
       ((∀ w6 : World, Go.Sx.Fr S w0 w6 → Below w5.heap.size w5 w6 → w5.heap.size ≤ g17 → w6.heap[g17]? = some (.cells #[] 47 (0, 0)) → ∃ A18 : Option Addr, ∃ n19 : Nat, ∃ n20 : Nat, (∀ w', Go.Sx.Keep w4.heap.size (T13 ++ []) w6 w' → (Instr.sliceAt 42 (.slice A8 n9 n10) (some (.int .i64 (IntKind.i64.wrap (i3 + (1 : Int))))) none none).run Try.prog w' = .ok (.slice A18 n19 n20) w') ∧
       (w6.heap[g17]? = some (.cells #[] 47 (0, 0)) → 
       ∃ w7 : World, ∃ A21 : Option Addr, ∃ n22 : Nat, ∃ n23 : Nat, (Builtin.append_ #[42, 42] 42 #[(.slice (some ⟨g17, 0, none⟩) 0 0), (.slice A14 n15 n16)]).run Try.prog w6 = .ok (.slice A21 n22 n23) w7 ∧ (Go.Sx.Fr S w0 w7 ∧ Go.Sx.Mild [g17, g7] w6 w7) ∧ 
       (
       ∃ w8 : World, ∃ A24 : Option Addr, ∃ n25 : Nat, ∃ n26 : Nat, (Builtin.append_ #[42, 42] 42 #[(.slice A21 n22 n23), (.slice A18 n19 n20)]).run Try.prog w7 = .ok (.slice A24 n25 n26) w8 ∧ (Go.Sx.Fr S w0 w8 ∧ Go.Sx.Mild [g17, g7] w7 w8) ∧ 
       (I1 A24 n25 n26 b11 w8 ∧ M1 A24 n25 n26 b11 w8 < 1))))))) ∧
       ((∃ A17 : Option Addr, ∃ n18 : Nat, ∃ n19 : Nat, (∀ w', Go.Sx.Keep w4.heap.size (T13 ++ []) w5 w' → (Instr.sliceAt 42 (.slice A8 n9 n10) (some (.int .i64 (IntKind.i64.wrap (i3 + (1 : Int))))) none none).run Try.prog w' = .ok (.slice A17 n18 n19) w') ∧
       ∀ g20 : Nat, w0.heap.size ≤ g20 → (∀ w6 : World, Go.Sx.Fr S w0 w6 → Below w5.heap.size w5 w6 → w5.heap.size ≤ g20 → w6.heap[g20]? = some (.cells #[] 47 (0, 0)) → 
       ∃ w7 : World, ∃ A21 : Option Addr, ∃ n22 : Nat, ∃ n23 : Nat, (Builtin.append_ #[42, 42] 42 #[(.slice (some ⟨g20, 0, none⟩) 0 0), (.slice A14 n15 n16)]).run Try.prog w6 = .ok (.slice A21 n22 n23) w7 ∧ (Go.Sx.Fr S w0 w7 ∧ Go.Sx.Mild [g20, g7] w6 w7) ∧ 
       (
       ∃ w8 : World, ∃ A24 : Option Addr, ∃ n25 : Nat, ∃ n26 : Nat, (Builtin.append_ #[42, 42] 42 #[(.slice A21 n22 n23), (.slice A17 n18 n19)]).run Try.prog w7 = .ok (.slice A24 n25 n26) w8 ∧ (Go.Sx.Fr S w0 w8 ∧ Go.Sx.Mild [g20, g7] w7 w8) ∧ 
       (I1 A24 n25 n26 b11 w8 ∧ M1 A24 n25 n26 b11 w8 < 1)))))))))))) ∧
     ((n9 : Int) ≤ i3 →
     (
      Calls Try.prog 30 #[(v5), (.int .i64 i3)] w3 fun r w4 => ∃ i12 : Int, r = .returned (.int .i64 i12) ∧ (Go.Sx.Fr S w0 w4 ∧ Go.Sx.Mild [g7] w3 w4) ∧ 
      ((¬ i12 = (1 : Int) →
      (R (.returned (.bool false)) w4)) ∧
      (i12 = (1 : Int) →
      (I1 A8 n9 n10 b11 w4 ∧ M1 A8 n9 n10 b11 w4 < 1))))))) ∧
    (i3 < (0 : Int) →
    (
     Calls Try.prog 30 #[(v5), (.int .i64 i3)] w3 fun r w4 => ∃ i12 : Int, r = .returned (.int .i64 i12) ∧ (Go.Sx.Fr S w0 w4 ∧ Go.Sx.Mild [g7] w3 w4) ∧ 
     ((¬ i12 = (1 : Int) →
     (R (.returned (.bool false)) w4)) ∧
     (i12 = (1 : Int) →
     (I1 A8 n9 n10 b11 w4 ∧ M1 A8 n9 n10 b11 w4 < 1)))))) ∧
    ∀ A12 : Option Addr, ∀ n13 : Nat, ∀ n14 : Nat, ∀ b15 : Bool, ∀ w4 : World, Go.Sx.Fr S w0 w4 → I1 A12 n13 n14 b15 w4 → 
     (∃ (I2 : Bool → Int → World → Prop) (M2 : Bool → Int → World → Nat), (I2 b15 (0 : Int) w4) ∧
     ∀ b16 : Bool, ∀ i17 : Int, ∀ w5 : World, Go.Sx.Fr S w0 w5 → I2 b16 i17 w5 → 
      ((i17 < (n13 : Int) →
      (
       Calls Try.prog 31 #[(v5), (.int .i64 (IntKind.i64.wrap ((IntKind.i64.wrap ((n13 : Int) - (1 : Int))) - i17)))] w5 fun r w6 => ∃ i18 : Int, ∃ i19 : Int, ∃ i20 : Int, ∃ i21 : Int, ∃ i22 : Int, ∃ i23 : Int, ∃ A24 : Option Addr, ∃ n25 : Nat, ∃ n26 : Nat, ∃ i27 : Int, r = .returned (.tuple #[.agg #[.int .i64 i18, .int .i64 i19, .int .i64 i20, .int .i64 i21, .int .i64 i22, .int .i64 i23, .slice A24 n25 n26], .int .i64 i27]) ∧ (Go.Sx.Fr S w0 w6 ∧ Go.Sx.Mild [g7] w5 w6) ∧ 
       ∀ g28 : Nat, w0.heap.size ≤ g28 → (∀ w7 : World, Go.Sx.Fr S w0 w7 → Below w6.heap.size w6 w7 → w6.heap.size ≤ g28 → w7.heap[g28]? = some (.cells #[.int .i64 i18, .int .i64 i19, .int .i64 i20, .int .i64 i21, .int .i64 i22, .int .i64 i23, .slice A24 n25 n26] 47 (0, 0)) → ∃ T29 : List Nat, (∀ b ∈ T29, b < w7.heap.size ∧ b ∉ [g28, g7]) ∧
       ((0 : Int) ≤ (IntKind.i64.wrap ((n13 : Int) - (1 : Int))) ∧ (IntKind.i64.wrap ((n13 : Int) - (1 : Int))) < (n13 : Int) ∧ ∃ p30 : Nat, ∃ o31 : Nat, A12 = some ⟨p30, o31, none⟩ ∧
       (∀ w8 : World, Go.Sx.Fr S w0 w8 → Below w7.heap.size w7 w8 → ∃ i32 : Int, ∃ i33 : Int, ∃ i34 : Int, ∃ i35 : Int, ∃ i36 : Int, ∃ i37 : Int, ∃ A38 : Option Addr, ∃ n39 : Nat, ∃ n40 : Nat, Go.Sx.CellsAt w8 p30 (o31 + ((IntKind.i64.wrap ((n13 : Int) - (1 : Int)))).toNat * 7 + 0) [.int .i64 i32, .int .i64 i33, .int .i64 i34, .int .i64 i35, .int .i64 i36, .int .i64 i37, .slice A38 n39 n40] ∧ (p30 < w7.heap.size ∧ p30 ∉ (T29 ++ [])) ∧ 
       (
       Calls Try.prog 32 #[(.agg #[.int .i64 i18, .int .i64 i19, .int .i64 i20, .int .i64 i21, .int .i64 i22, .int .i64 i23, .slice A24 n25 n26]), (.agg #[.int .i64 i32, .int .i64 i33, .int .i64 i34, .int .i64 i35, .int .i64 i36, .int .i64 i37, .slice A38 n39 n40])] w8 fun r w9 => ∃ b41 : Bool, r = .returned (.bool b41) ∧ (Go.Sx.Fr S w0 w9 ∧ Go.Sx.Mild [g28, g7] w8 w9) ∧ 
       (∃ (I3 : Bool → World → Prop) (M3 : Bool → World → Nat),
       ((i17 = (0 : Int) →
       ((¬ i27 = (0 : Int) →
        (R (.returned (.bool false)) w9)) ∧
        (i27 = (0 : Int) →
        ((b41 = false →
         (R (.returned (.bool false)) w9)) ∧
         (b41 = true →
         (I3 b16 w9 ∧ M3 b16 w9 < 1)))))) ∧
       (¬ i17 = (0 : Int) →
       (I3 b16 w9 ∧ M3 b16 w9 < 1))) ∧
       ∀ b42 : Bool, ∀ w10 : World, Go.Sx.Fr S w0 w10 → I3 b42 w10 → 
        (
        Calls Try.prog 33 #[(v5), (.int .i64 (0 : Int))] w10 fun r w11 => ∃ i43 : Int, ∃ i44 : Int, ∃ i45 : Int, ∃ i46 : Int, ∃ i47 : Int, ∃ i48 : Int, ∃ A49 : Option Addr, ∃ n50 : Nat, ∃ n51 : Nat, ∃ i52 : Int, r = .returned (.tuple #[.agg #[.int .i64 i43, .int .i64 i44, .int .i64 i45, .int .i64 i46, .int .i64 i47, .int .i64 i48, .slice A49 n50 n51], .int .i64 i52]) ∧ (Go.Sx.Fr S w0 w11 ∧ Go.Sx.Mild [g28, g7] w10 w11) ∧ 
        ∀ g53 : Nat, w0.heap.size ≤ g53 → (∀ w12 : World, Go.Sx.Fr S w0 w12 → Below w11.heap.size w11 w12 → w11.heap.size ≤ g53 → w12.heap[g53]? = some (.cells #[.int .i64 i43, .int .i64 i44, .int .i64 i45, .int .i64 i46, .int .i64 i47, .int .i64 i48, .slice A49 n50 n51] 47 (0, 0)) → ∃ T54 : List Nat, (∀ b ∈ T54, b < w12.heap.size ∧ b ∉ [g53, g28, g7]) ∧
        ((0 : Int) ≤ i17 ∧ i17 < (n13 : Int) ∧ ∃ p55 : Nat, ∃ o56 : Nat, A12 = some ⟨p55, o56, none⟩ ∧
        (∀ w13 : World, Go.Sx.Fr S w0 w13 → Below w12.heap.size w12 w13 → ∃ i57 : Int, ∃ i58 : Int, ∃ i59 : Int, ∃ i60 : Int, ∃ i61 : Int, ∃ i62 : Int, ∃ A63 : Option Addr, ∃ n64 : Nat, ∃ n65 : Nat, Go.Sx.CellsAt w13 p55 (o56 + (i17).toNat * 7 + 0) [.int .i64 i57, .int .i64 i58, .int .i64 i59, .int .i64 i60, .int .i64 i61, .int .i64 i62, .slice A63 n64 n65] ∧ (p55 < w12.heap.size ∧ p55 ∉ (T54 ++ [])) ∧ 
        (
        Calls Try.prog 32 #[(.agg #[.int .i64 i43, .int .i64 i44, .int .i64 i45, .int .i64 i46, .int .i64 i47, .int .i64 i48, .slice A49 n50 n51]), (.agg #[.int .i64 i57, .int .i64 i58, .int .i64 i59, .int .i64 i60, .int .i64 i61, .int .i64 i62, .slice A63 n64 n65])] w13 fun r w14 => ∃ b66 : Bool, r = .returned (.bool b66) ∧ (Go.Sx.Fr S w0 w14 ∧ Go.Sx.Mild [g53, g28, g7] w13 w14) ∧ 
        ((¬ i52 = (0 : Int) →
        (R (.returned (.bool false)) w14)) ∧
        (i52 = (0 : Int) →
        ((b66 = false →
         (R (.returned (.bool false)) w14)) ∧
         (b66 = true →
         (
          Calls Try.prog 29 #[(v5)] w14 fun r w15 => ∃ i67 : Int, r = .returned (.int .i64 i67) ∧ (Go.Sx.Fr S w0 w15 ∧ Go.Sx.Mild [g53, g28, g7] w14 w15) ∧ 
          ((¬ i67 = (IntKind.i64.wrap ((IntKind.i64.wrap ((n13 : Int) - (1 : Int))) - i17)) →
          (R (.returned (.bool false)) w15)) ∧
          (i67 = (IntKind.i64.wrap ((IntKind.i64.wrap ((n13 : Int) - (1 : Int))) - i17)) →
          (I2 b42 (IntKind.i64.wrap (i17 + (1 : Int))) w15 ∧ M2 b42 (IntKind.i64.wrap (i17 + (1 : Int))) w15 < M2 b16 i17 w5)))))))))))))))))))) ∧
      ((n13 : Int) ≤ i17 →
      (
       Calls Try.prog 33 #[(v5), (.int .i64 (0 : Int))] w5 fun r w6 => ∃ i18 : Int, ∃ i19 : Int, ∃ i20 : Int, ∃ i21 : Int, ∃ i22 : Int, ∃ i23 : Int, ∃ A24 : Option Addr, ∃ n25 : Nat, ∃ n26 : Nat, ∃ i27 : Int, r = .returned (.tuple #[.agg #[.int .i64 i18, .int .i64 i19, .int .i64 i20, .int .i64 i21, .int .i64 i22, .int .i64 i23, .slice A24 n25 n26], .int .i64 i27]) ∧ (Go.Sx.Fr S w0 w6 ∧ Go.Sx.Mild [g7] w5 w6) ∧ 
       ∀ g28 : Nat, w0.heap.size ≤ g28 → ((i27 = (1 : Int) →
       (∀ w7 : World, Go.Sx.Fr S w0 w7 → Below w6.heap.size w6 w7 → w6.heap.size ≤ g28 → w7.heap[g28]? = some (.cells #[.int .i64 i18, .int .i64 i19, .int .i64 i20, .int .i64 i21, .int .i64 i22, .int .i64 i23, .slice A24 n25 n26] 47 (0, 0)) → 
        Calls Try.prog 29 #[(v5)] w7 fun r w8 => ∃ i29 : Int, r = .returned (.int .i64 i29) ∧ (Go.Sx.Fr S w0 w8 ∧ Go.Sx.Mild [g28, g7] w7 w8) ∧ 
        (R (.returned (.bool (i29 == (0 : Int)))) w8))) ∧
       (¬ i27 = (1 : Int) →
       (∀ w7 : World, Go.Sx.Fr S w0 w7 → Below w6.heap.size w6 w7 → w6.heap.size ≤ g28 → w7.heap[g28]? = some (.cells #[.int .i64 i18, .int .i64 i19, .int .i64 i20, .int .i64 i21, .int .i64 i22, .int .i64 i23, .slice A24 n25 n26] 47 (0, 0)) → R (.returned (.bool false)) w7))))))))))))))))) :
    Calls Try.prog 7 #[(.slice A0 n1 n2), (.int .i64 i3)] w0 R :=
  Go.Sx.fn_sound0 (P := Try.prog) (S := S) (w0 := w0) (R := R) (ws := []) (an := [⟨999998, [], [], 0⟩, ⟨999999, [], [], 0⟩, ⟨1000015, [], [], 0⟩, ⟨1000021, [], [], 0⟩, ⟨1000028, [], [], 0⟩, ⟨1000013, [], [], 0⟩]) (f := 7) (n := 4) (xs := [.one (.slice (.var 0) (.var 1) (.var 2)), .one (.int .i64 (.var 3))]) (e := [.a A0, .n n1, .n n2, .i i3]) rfl (by kernel_rfl) (Eq.mp (by kernel_rfl) h)


end Go.Proofs.Ytdjjfpcfclheiaa
