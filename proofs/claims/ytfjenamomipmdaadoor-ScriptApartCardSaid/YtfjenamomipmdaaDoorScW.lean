/- Script: what is left of ScriptApart. -/
import Derived.Test.YtfjenamomipmdaaDoorProg
import Derived.Test.YtfjenamomipmdaaDoorSs
import Derived.KernelRfl
set_option linter.unusedVariables false
namespace Go.Proofs.YtfjenamomipmdaaDoor
open Go Go.RowKit Go.Proofs Go.Trc
set_option maxRecDepth 100000
/-- tracery/tracerylaw23.ScriptApart: what is left of it. -/
theorem scApart_sx (R : Ending → World → Prop) (S : Nat → Prop) (w0 : World) (i0 : Int) (i1 : Int) (i2 : Int) (i3 : Int) (A4 : Option Addr) (n5 : Nat) (n6 : Nat) (i7 : Int) (i8 : Int) (i9 : Int) (i10 : Int) (A11 : Option Addr) (n12 : Nat) (n13 : Nat) (h :
 ∀ g14 : Nat, w0.heap.size ≤ g14 → ∀ g15 : Nat, w0.heap.size ≤ g15 → (∀ w1 : World, Go.Sx.Fr S w0 w1 → Below w0.heap.size w0 w1 → w0.heap.size ≤ g15 → w1.heap[g15]? = some (.cells #[.int .i64 i7, .int .i64 i8, .int .i64 i9, .int .i64 i10, .slice A11 n12 n13] 54 (0, 0)) → w0.heap.size ≤ g14 → w1.heap[g14]? = some (.cells #[.int .i64 i0, .int .i64 i1, .int .i64 i2, .int .i64 i3, .slice A4 n5 n6] 54 (0, 0)) → 
 Calls Tryd.prog 23 #[] w1 fun r w2 => ∃ b16 : Bool, r = .returned (.bool b16) ∧ (Go.Sx.Fr S w0 w2 ∧ Go.Sx.Mild [g15, g14] w1 w2) ∧ 
 ∀ g17 : Nat, w0.heap.size ≤ g17 → (∀ w3 : World, Go.Sx.Fr S w0 w3 → Below w2.heap.size w2 w3 → w2.heap.size ≤ g17 → w3.heap[g17]? = some (.cells #[.int .i64 i0, .int .i64 i1, .int .i64 i2, .int .i64 i3, .slice A4 n5 n6, .int .i64 i7, .int .i64 i8, .int .i64 i9, .int .i64 i10, .slice A11 n12 n13] 54 (0, 0)) → 
 Calls Tryd.prog 24 #[(.slice (some ⟨g17, 0, none⟩) 2 2)] w3 fun r w4 => ∃ A18 : Option Addr, ∃ n19 : Nat, ∃ n20 : Nat, r = .returned (.slice A18 n19 n20) ∧ (Go.Sx.Fr S w0 w4 ∧ Go.Sx.Mild [g17, g15, g14] w3 w4) ∧ 
 ((0 : Int) ≤ (0 : Int) ∧ (0 : Int) < (n19 : Int) ∧ ∃ p21 : Nat, ∃ o22 : Nat, A18 = some ⟨p21, o22, none⟩ ∧
 (∃ i23 : Int, ∃ i24 : Int, ∃ i25 : Int, ∃ i26 : Int, ∃ A27 : Option Addr, ∃ n28 : Nat, ∃ n29 : Nat, Go.Sx.CellsAt w4 p21 (o22 + ((0 : Int)).toNat * 5 + 0) [.int .i64 i23, .int .i64 i24, .int .i64 i25, .int .i64 i26, .slice A27 n28 n29] ∧ 
 (
 Calls Tryd.prog 28 #[(.agg #[.int .i64 i23, .int .i64 i24, .int .i64 i25, .int .i64 i26, .slice A27 n28 n29])] w4 fun r w5 => ∃ A30 : Option Addr, ∃ n31 : Nat, ∃ n32 : Nat, ∃ i33 : Int, r = .returned (.tuple #[.slice A30 n31 n32, .int .i64 i33]) ∧ (Go.Sx.Fr S w0 w5 ∧ Go.Sx.Mild [g17, g15, g14] w4 w5) ∧ 
 ((0 : Int) ≤ (1 : Int) ∧ (1 : Int) < (n19 : Int) ∧ ∃ p34 : Nat, ∃ o35 : Nat, A18 = some ⟨p34, o35, none⟩ ∧
 (∃ i36 : Int, ∃ i37 : Int, ∃ i38 : Int, ∃ i39 : Int, ∃ A40 : Option Addr, ∃ n41 : Nat, ∃ n42 : Nat, Go.Sx.CellsAt w5 p34 (o35 + ((1 : Int)).toNat * 5 + 0) [.int .i64 i36, .int .i64 i37, .int .i64 i38, .int .i64 i39, .slice A40 n41 n42] ∧ 
 (
 Calls Tryd.prog 28 #[(.agg #[.int .i64 i36, .int .i64 i37, .int .i64 i38, .int .i64 i39, .slice A40 n41 n42])] w5 fun r w6 => ∃ A43 : Option Addr, ∃ n44 : Nat, ∃ n45 : Nat, ∃ i46 : Int, r = .returned (.tuple #[.slice A43 n44 n45, .int .i64 i46]) ∧ (Go.Sx.Fr S w0 w6 ∧ Go.Sx.Mild [g17, g15, g14] w5 w6) ∧ 
 ((¬ i33 = (0 : Int) →
 ((b16 = true →
  (R (.returned (.bool true)) w6)) ∧
  (b16 = false →
  (R (.returned (.bool false)) w6)))) ∧
 (i33 = (0 : Int) →
 ((¬ i46 = (0 : Int) →
  ((b16 = true →
   (R (.returned (.bool (i46 != (0 : Int)))) w6)) ∧
   (b16 = false →
   (R (.returned (.bool false)) w6)))) ∧
  (i46 = (0 : Int) →
  (((n31 : Int) = (0 : Int) →
   ((b16 = true →
    (R (.returned (.bool (i46 != (0 : Int)))) w6)) ∧
    (b16 = false →
    (R (.returned (.bool false)) w6)))) ∧
   (¬ (n31 : Int) = (0 : Int) →
   (∃ T47 : List Nat, (∀ b ∈ T47, b < w6.heap.size ∧ b ∉ [g17, g15, g14]) ∧
    (∀ w7 : World, Go.Sx.Fr S w0 w7 → Below w6.heap.size w6 w7 → ∃ A48 : Option Addr, ∃ n49 : Nat, ∃ n50 : Nat, (∀ w', Go.Sx.Keep w6.heap.size (T47 ++ []) w7 w' → (Instr.sliceAt 51 (.slice A18 n19 n20) none (some (.int .i64 (1 : Int))) none).run Tryd.prog w' = .ok (.slice A48 n49 n50) w') ∧
    (∃ A51 : Option Addr, ∃ n52 : Nat, ∃ n53 : Nat, (∀ w', Go.Sx.Keep w6.heap.size (T47 ++ []) w7 w' → (Instr.sliceAt 51 (.slice A18 n19 n20) (some (.int .i64 (1 : Int))) none none).run Tryd.prog w' = .ok (.slice A51 n52 n53) w') ∧
    (
    Calls Tryd.prog 27 #[(.slice A48 n49 n50), (.slice A51 n52 n53)] w7 fun r w8 => ∃ b54 : Bool, r = .returned (.bool b54) ∧ (Go.Sx.Fr S w0 w8 ∧ Go.Sx.Mild [g17, g15, g14] w7 w8) ∧ 
    ∀ g55 : Nat, w0.heap.size ≤ g55 → (∀ w9 : World, Go.Sx.Fr S w0 w9 → Below w8.heap.size w8 w9 → w8.heap.size ≤ g55 → w9.heap[g55]? = some (.cells #[] 5 (0, 0)) → 
    ∃ w10 : World, ∃ A56 : Option Addr, ∃ n57 : Nat, ∃ n58 : Nat, (Builtin.append_ #[22, 22] 22 #[(.slice (some ⟨g55, 0, none⟩) 0 0), (.slice A30 n31 n32)]).run Tryd.prog w9 = .ok (.slice A56 n57 n58) w10 ∧ (Go.Sx.Fr S w0 w10 ∧ Go.Sx.Mild [g55, g17, g15, g14] w9 w10) ∧ 
    ∀ g59 : Nat, w0.heap.size ≤ g59 → (∀ w11 : World, Go.Sx.Fr S w0 w11 → Below w10.heap.size w10 w11 → w10.heap.size ≤ g59 → w11.heap[g59]? = some (.cells #[.int .u8 (0 : Int)] 5 (0, 0)) → 
    ∃ w12 : World, ∃ A60 : Option Addr, ∃ n61 : Nat, ∃ n62 : Nat, (Builtin.append_ #[22, 22] 22 #[(.slice A56 n57 n58), (.slice (some ⟨g59, 0, none⟩) 1 1)]).run Tryd.prog w11 = .ok (.slice A60 n61 n62) w12 ∧ (Go.Sx.Fr S w0 w12 ∧ Go.Sx.Mild [g59, g55, g17, g15, g14] w11 w12) ∧ 
    (
    Calls Tryd.prog 25 #[(.slice A60 n61 n62)] w12 fun r w13 => ∃ i63 : Int, ∃ i64 : Int, ∃ i65 : Int, ∃ i66 : Int, ∃ A67 : Option Addr, ∃ n68 : Nat, ∃ n69 : Nat, ∃ i70 : Int, r = .returned (.tuple #[.agg #[.int .i64 i63, .int .i64 i64, .int .i64 i65, .int .i64 i66, .slice A67 n68 n69], .int .i64 i70]) ∧ (Go.Sx.Fr S w0 w13 ∧ Go.Sx.Mild [g59, g55, g17, g15, g14] w12 w13) ∧ 
    ∀ g71 : Nat, w0.heap.size ≤ g71 → (∀ w14 : World, Go.Sx.Fr S w0 w14 → Below w13.heap.size w13 w14 → w13.heap.size ≤ g71 → w14.heap[g71]? = some (.cells #[.int .i64 i63, .int .i64 i64, .int .i64 i65, .int .i64 i66, .slice A67 n68 n69] 54 (0, 0)) → ∃ A72 : Option Addr, ∃ n73 : Nat, ∃ n74 : Nat, (Instr.sliceAt 22 (.slice A30 n31 n32) none (some (.int .i64 (IntKind.i64.wrap ((n31 : Int) - (1 : Int))))) none).run Tryd.prog w14 = .ok (.slice A72 n73 n74) w14 ∧
    (
    Calls Tryd.prog 25 #[(.slice A72 n73 n74)] w14 fun r w15 => ∃ i75 : Int, ∃ i76 : Int, ∃ i77 : Int, ∃ i78 : Int, ∃ A79 : Option Addr, ∃ n80 : Nat, ∃ n81 : Nat, ∃ i82 : Int, r = .returned (.tuple #[.agg #[.int .i64 i75, .int .i64 i76, .int .i64 i77, .int .i64 i78, .slice A79 n80 n81], .int .i64 i82]) ∧ (Go.Sx.Fr S w0 w15 ∧ Go.Sx.Mild [g71, g59, g55, g17, g15, g14] w14 w15) ∧ 
    ∀ g83 : Nat, w0.heap.size ≤ g83 → ((b16 = true →
    (∀ w16 : World, Go.Sx.Fr S w0 w16 → Below w15.heap.size w15 w16 → w15.heap.size ≤ g83 → w16.heap[g83]? = some (.cells #[.int .i64 i75, .int .i64 i76, .int .i64 i77, .int .i64 i78, .slice A79 n80 n81] 54 (0, 0)) → ∃ s84 : ByteArray, (convert 22 9 (.slice A30 n31 n32)).run Tryd.prog w16 = .ok (.string s84) w16 ∧
     (∃ s85 : ByteArray, (convert 22 9 (.slice A43 n44 n45)).run Tryd.prog w16 = .ok (.string s85) w16 ∧
     (∃ b86 : Bool, (binOp .eql 4 (.bool ((s84).toList == (s85).toList)) (.bool b54)).run Tryd.prog w16 = .ok (.bool b86) w16 ∧
     ((b86 = true →
     ((i70 = (240 : Int) →
      ((i82 = (240 : Int) →
       (R (.returned (.bool (decide ((32 : Int) ≤ (n31 : Int))))) w16)) ∧
       (¬ i82 = (240 : Int) →
       (R (.returned (.bool false)) w16)))) ∧
      (¬ i70 = (240 : Int) →
      (R (.returned (.bool false)) w16)))) ∧
     (b86 = false →
     (R (.returned (.bool false)) w16))))))) ∧
    (b16 = false →
    (∀ w16 : World, Go.Sx.Fr S w0 w16 → Below w15.heap.size w15 w16 → w15.heap.size ≤ g83 → w16.heap[g83]? = some (.cells #[.int .i64 i75, .int .i64 i76, .int .i64 i77, .int .i64 i78, .slice A79 n80 n81] 54 (0, 0)) → R (.returned (.bool false)) w16))))))))))))))))))))))))))) :
    Calls Tryd.prog 10 #[(.agg #[.int .i64 i0, .int .i64 i1, .int .i64 i2, .int .i64 i3, .slice A4 n5 n6]), (.agg #[.int .i64 i7, .int .i64 i8, .int .i64 i9, .int .i64 i10, .slice A11 n12 n13])] w0 R :=
  Go.Sx.fn_sound0 (P := Tryd.prog) (S := S) (w0 := w0) (R := R) (ws := []) (an := [⟨999999, [], [], 0⟩, ⟨999998, [], [], 0⟩]) (f := 10) (n := 14) (xs := [.agg [.int .i64 (.var 0), .int .i64 (.var 1), .int .i64 (.var 2), .int .i64 (.var 3), .slice (.var 4) (.var 5) (.var 6)], .agg [.int .i64 (.var 7), .int .i64 (.var 8), .int .i64 (.var 9), .int .i64 (.var 10), .slice (.var 11) (.var 12) (.var 13)]]) (e := [.i i0, .i i1, .i i2, .i i3, .a A4, .n n5, .n n6, .i i7, .i i8, .i i9, .i i10, .a A11, .n n12, .n n13]) rfl (by kernel_rfl) (Eq.mp (by kernel_rfl) h)


end Go.Proofs.YtfjenamomipmdaaDoor
