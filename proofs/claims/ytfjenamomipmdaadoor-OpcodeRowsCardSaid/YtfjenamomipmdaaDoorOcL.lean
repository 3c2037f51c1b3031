/- Opcode: what is left of the first statements. -/
import Derived.Test.YtfjenamomipmdaaDoorProg
import Derived.Test.YtfjenamomipmdaaDoorSs
import Derived.KernelRfl
set_option linter.unusedVariables false
namespace Go.Proofs.YtfjenamomipmdaaDoor
open Go Go.RowKit Go.Proofs Go.Trc
set_option maxRecDepth 100000
/-- tracery/tracerylaw10.few: what is left of it. -/
theorem few10_sx (R : Ending → World → Prop) (S : Nat → Prop) (w0 : World) (A0 : Option Addr) (n1 : Nat) (n2 : Nat) (h :
 ∀ g3 : Nat, w0.heap.size ≤ g3 → ∀ g4 : Nat, w0.heap.size ≤ g4 → ∀ g5 : Nat, w0.heap.size ≤ g5 → (∃ (I0 : Int → Option Addr → Nat → Nat → World → Prop) (M0 : Int → Option Addr → Nat → Nat → World → Nat), (∀ w1 : World, Go.Sx.Fr S w0 w1 → Below w0.heap.size w0 w1 → w0.heap.size ≤ g5 → w1.heap[g5]? = some (.cells #[.slice none 0 0] 25 (0, 0)) → w0.heap.size ≤ g4 → w1.heap[g4]? = some (.cells #[.slice none 0 0] 25 (0, 0)) → w0.heap.size ≤ g3 → w1.heap[g3]? = some (.cells #[.slice A0 n1 n2] 25 (0, 0)) → I0 (0 : Int) none 0 0 w1) ∧
 ∀ i6 : Int, ∀ A7 : Option Addr, ∀ n8 : Nat, ∀ n9 : Nat, ∀ w2 : World, Go.Sx.Fr S w0 w2 → I0 i6 A7 n8 n9 w2 → w2.heap[g5]? = some (.cells #[.slice A7 n8 n9] 25 (0, 0)) → 
  ((i6 < (n1 : Int) →
  ((i6 < (10 : Int) →
   ((0 : Int) ≤ i6 ∧ i6 < (n1 : Int) ∧ ∃ p10 : Nat, ∃ o11 : Nat, A0 = some ⟨p10, o11, none⟩ ∧
    (∃ i12 : Int, ∃ i13 : Int, ∃ i14 : Int, ∃ i15 : Int, ∃ i16 : Int, ∃ i17 : Int, ∃ i18 : Int, ∃ i19 : Int, ∃ i20 : Int, ∃ i21 : Int, ∃ i22 : Int, ∃ i23 : Int, ∃ i24 : Int, ∃ i25 : Int, ∃ i26 : Int, ∃ i27 : Int, ∃ i28 : Int, ∃ b29 : Bool, ∃ s30 : ByteArray, ∃ i31 : Int, Go.Sx.CellsAt w2 p10 (o11 + (i6).toNat * 20 + 0) [.int .i64 i12, .int .i64 i13, .int .i64 i14, .int .i64 i15, .int .i64 i16, .int .i64 i17, .int .i64 i18, .int .i64 i19, .int .i64 i20, .int .i64 i21, .int .i64 i22, .int .i64 i23, .int .i64 i24, .int .i64 i25, .int .i64 i26, .int .i64 i27, .int .i64 i28, .bool b29, .string s30, .int .i64 i31] ∧ 
    ∀ g32 : Nat, w0.heap.size ≤ g32 → (((100 : Int) < ((s30).size : Int) →
    (∀ w3 : World, Go.Sx.Fr S w0 w3 → Below w2.heap.size w2 w3 → w2.heap.size ≤ g32 → w3.heap[g32]? = some (.cells #[.int .i64 i12, .int .i64 i13, .int .i64 i14, .int .i64 i15, .int .i64 i16, .int .i64 i17, .int .i64 i18, .int .i64 i19, .int .i64 i20, .int .i64 i21, .int .i64 i22, .int .i64 i23, .int .i64 i24, .int .i64 i25, .int .i64 i26, .int .i64 i27, .int .i64 i28, .bool b29, .string s30, .int .i64 i31] 39 (0, 0)) → ∃ s33 : ByteArray, (Instr.sliceAt 9 (.string s30) none (some (.int .i64 (100 : Int))) none).run Tryd.prog w3 = .ok (.string s33) w3 ∧
     ∀ g34 : Nat, w0.heap.size ≤ g34 → (∀ w4 : World, Go.Sx.Fr S w0 w4 → Go.Sx.Fr (fun b => b ∈ [g32]) w3 w4 → w3.heap.size ≤ g34 → w4.heap[g34]? = some (.cells #[.int .i64 i12, .int .i64 i13, .int .i64 i14, .int .i64 i15, .int .i64 i16, .int .i64 i17, .int .i64 i18, .int .i64 i19, .int .i64 i20, .int .i64 i21, .int .i64 i22, .int .i64 i23, .int .i64 i24, .int .i64 i25, .int .i64 i26, .int .i64 i27, .int .i64 i28, .bool b29, .string s33, .int .i64 i31] 39 (0, 0)) → 
     ∃ w5 : World, ∃ A35 : Option Addr, ∃ n36 : Nat, ∃ n37 : Nat, (Builtin.append_ #[23, 23] 23 #[(.slice A7 n8 n9), (.slice (some ⟨g34, 0, none⟩) 1 1)]).run Tryd.prog w4 = .ok (.slice A35 n36 n37) w5 ∧ (Go.Sx.Fr S w0 w5 ∧ Go.Sx.Mild [g34, g32, g5, g4, g3] w4 w5) ∧ 
     (∀ w6 : World, Go.Sx.Fr S w0 w6 → Go.Sx.Fr (fun b => b ∈ [g5]) w5 w6 → I0 (IntKind.i64.wrap (i6 + (1 : Int))) A35 n36 n37 w6 ∧ M0 (IntKind.i64.wrap (i6 + (1 : Int))) A35 n36 n37 w6 < M0 i6 A7 n8 n9 w2)))) ∧
    (((s30).size : Int) ≤ (100 : Int) →
    ∀ g33 : Nat, w0.heap.size ≤ g33 → (∀ w3 : World, Go.Sx.Fr S w0 w3 → Below w2.heap.size w2 w3 → w2.heap.size ≤ g33 → w3.heap[g33]? = some (.cells #[.int .i64 i12, .int .i64 i13, .int .i64 i14, .int .i64 i15, .int .i64 i16, .int .i64 i17, .int .i64 i18, .int .i64 i19, .int .i64 i20, .int .i64 i21, .int .i64 i22, .int .i64 i23, .int .i64 i24, .int .i64 i25, .int .i64 i26, .int .i64 i27, .int .i64 i28, .bool b29, .string s30, .int .i64 i31] 39 (0, 0)) → w2.heap.size ≤ g32 → w3.heap[g32]? = some (.cells #[.int .i64 i12, .int .i64 i13, .int .i64 i14, .int .i64 i15, .int .i64 i16, .int .i64 i17, .int .i64 i18, .int .i64 i19, .int .i64 i20, .int .i64 i21, .int .i64 i22, .int .i64 i23, .int .i64 i24, .int .i64 i25, .int .i64 i26, .int .i64 i27, .int .i64 i28, .bool b29, .string s30, .int .i64 i31] 39 (0, 0)) → 
     ∃ w4 : World, ∃ A34 : Option Addr, ∃ n35 : Nat, ∃ n36 : Nat, (Builtin.append_ #[23, 23] 23 #[(.slice A7 n8 n9), (.slice (some ⟨g33, 0, none⟩) 1 1)]).run Tryd.prog w3 = .ok (.slice A34 n35 n36) w4 ∧ (Go.Sx.Fr S w0 w4 ∧ Go.Sx.Mild [g33, g32, g5, g4, g3] w3 w4) ∧ 
     (∀ w5 : World, Go.Sx.Fr S w0 w5 → Go.Sx.Fr (fun b => b ∈ [g5]) w4 w5 → I0 (IntKind.i64.wrap (i6 + (1 : Int))) A34 n35 n36 w5 ∧ M0 (IntKind.i64.wrap (i6 + (1 : Int))) A34 n35 n36 w5 < M0 i6 A7 n8 n9 w2))))))) ∧
   ((10 : Int) ≤ i6 →
   (∀ w3 : World, Go.Sx.Fr S w0 w3 → Go.Sx.Fr (fun b => b ∈ [g4]) w2 w3 → R (.returned (.agg #[.slice A7 n8 n9])) w3)))) ∧
  ((n1 : Int) ≤ i6 →
  (∀ w3 : World, Go.Sx.Fr S w0 w3 → Go.Sx.Fr (fun b => b ∈ [g4]) w2 w3 → R (.returned (.agg #[.slice A7 n8 n9])) w3))))) :
    Calls Tryd.prog 16 #[(.agg #[.slice A0 n1 n2])] w0 R :=
  Go.Sx.fn_sound0 (P := Tryd.prog) (S := S) (w0 := w0) (R := R) (ws := []) (an := [⟨999999, [], [], 0⟩, ⟨3, [], [(3, 0)], 0⟩]) (f := 16) (n := 3) (xs := [.agg [.slice (.var 0) (.var 1) (.var 2)]]) (e := [.a A0, .n n1, .n n2]) rfl (by kernel_rfl) (Eq.mp (by kernel_rfl) h)


/-- tracery/tracerylaw10.shown: what is left of it. -/
theorem shown10_sx (R : Ending → World → Prop) (S : Nat → Prop) (w0 : World) (h :
 ∀ g0 : Nat, w0.heap.size ≤ g0 → (∀ w1 : World, Go.Sx.Fr S w0 w1 → Below w0.heap.size w0 w1 → w0.heap.size ≤ g0 → w1.heap[g0]? = some (.cells #[.int .i64 (1 : Int), .int .i64 (2 : Int), .int .i64 (258 : Int), .int .i64 (0 : Int), .int .i64 (0 : Int), .int .i64 (0 : Int), .int .i64 (0 : Int), .int .i64 (0 : Int), .int .i64 (0 : Int), .int .i64 (0 : Int), .int .i64 (0 : Int), .int .i64 (0 : Int), .int .i64 (0 : Int), .int .i64 (0 : Int), .int .i64 (0 : Int), .int .i64 (0 : Int), .int .i64 (0 : Int), .bool false, .string (⟨#[]⟩ : ByteArray), .int .i64 (0 : Int)] 39 (0, 0)) → 
 Calls Tryd.prog 15 #[(.slice none 0 0), (.agg #[.slice (some ⟨g0, 0, none⟩) 1 1])] w1 fun r w2 => ∃ A1 : Option Addr, ∃ n2 : Nat, ∃ n3 : Nat, ∃ i4 : Int, r = .returned (.tuple #[.slice A1 n2 n3, .int .i64 i4]) ∧ (Go.Sx.Fr S w0 w2 ∧ Go.Sx.Mild [g0] w1 w2) ∧ 
 (∃ s5 : ByteArray, (convert 22 9 (.slice A1 n2 n3)).run Tryd.prog w2 = .ok (.string s5) w2 ∧
 (((s5).toList = ((⟨#[1, 1, 2, 0, 1, 2]⟩ : ByteArray)).toList →
 (R (.returned (.bool (i4 == (0 : Int)))) w2)) ∧
 (¬ (s5).toList = ((⟨#[1, 1, 2, 0, 1, 2]⟩ : ByteArray)).toList →
 (R (.returned (.bool false)) w2)))))) :
    Calls Tryd.prog 14 #[] w0 R :=
  Go.Sx.fn_sound0 (P := Tryd.prog) (S := S) (w0 := w0) (R := R) (ws := []) (an := [⟨999999, [], [], 0⟩]) (f := 14) (n := 0) (xs := []) (e := []) rfl (by kernel_rfl) (Eq.mp (by kernel_rfl) h)


/-- tracery/tracerylaw10.OpcodePuts: what is left of it. -/
theorem opcodePuts_sx (R : Ending → World → Prop) (S : Nat → Prop) (w0 : World) (A0 : Option Addr) (n1 : Nat) (n2 : Nat) (A3 : Option Addr) (n4 : Nat) (n5 : Nat) (h :
 ∀ g6 : Nat, w0.heap.size ≤ g6 → (∀ w1 : World, Go.Sx.Fr S w0 w1 → Below w0.heap.size w0 w1 → w0.heap.size ≤ g6 → w1.heap[g6]? = some (.cells #[.slice A3 n4 n5] 25 (0, 0)) → 
 Calls Tryd.prog 14 #[] w1 fun r w2 => ∃ b7 : Bool, r = .returned (.bool b7) ∧ (Go.Sx.Fr S w0 w2 ∧ Go.Sx.Mild [g6] w1 w2) ∧ 
 (((50 : Int) < (n1 : Int) →
 (∃ A8 : Option Addr, ∃ n9 : Nat, ∃ n10 : Nat, (Instr.sliceAt 22 (.slice A0 n1 n2) none (some (.int .i64 (50 : Int))) none).run Tryd.prog w2 = .ok (.slice A8 n9 n10) w2 ∧
  (∃ T11 : List Nat, (∀ b ∈ T11, b < w2.heap.size ∧ b ∉ [g6]) ∧
  ∀ g12 : Nat, w0.heap.size ≤ g12 → (∀ w3 : World, Go.Sx.Fr S w0 w3 → Below w2.heap.size w2 w3 → w2.heap.size ≤ g12 → w3.heap[g12]? = some (.cells #[] 5 (0, 0)) → 
  ∃ w4 : World, ∃ A13 : Option Addr, ∃ n14 : Nat, ∃ n15 : Nat, (Builtin.append_ #[22, 22] 22 #[(.slice (some ⟨g12, 0, none⟩) 0 0), (.slice A8 n9 n10)]).run Tryd.prog w3 = .ok (.slice A13 n14 n15) w4 ∧ (Go.Sx.Fr S w0 w4 ∧ Go.Sx.Mild [g12, g6] w3 w4) ∧ Go.Sx.Keep w2.heap.size (T11 ++ []) w3 w4 ∧ 
  (
  Calls Tryd.prog 16 #[(.agg #[.slice A3 n4 n5])] w4 fun r w5 => ∃ A16 : Option Addr, ∃ n17 : Nat, ∃ n18 : Nat, r = .returned (.agg #[.slice A16 n17 n18]) ∧ (Go.Sx.Fr S w0 w5 ∧ Go.Sx.Mild [g12, g6] w4 w5) ∧ 
  (
  Calls Tryd.prog 15 #[(.slice A13 n14 n15), (.agg #[.slice A16 n17 n18])] w5 fun r w6 => ∃ A19 : Option Addr, ∃ n20 : Nat, ∃ n21 : Nat, ∃ i22 : Int, r = .returned (.tuple #[.slice A19 n20 n21, .int .i64 i22]) ∧ (Go.Sx.Fr S w0 w6 ∧ Go.Sx.Mild [g12, g6] w5 w6) ∧ 
  (
  Calls Tryd.prog 16 #[(.agg #[.slice A3 n4 n5])] w6 fun r w7 => ∃ A23 : Option Addr, ∃ n24 : Nat, ∃ n25 : Nat, r = .returned (.agg #[.slice A23 n24 n25]) ∧ (Go.Sx.Fr S w0 w7 ∧ Go.Sx.Mild [g12, g6] w6 w7) ∧ 
  (
  Calls Tryd.prog 17 #[(.slice A8 n9 n10), (.agg #[.slice A23 n24 n25])] w7 fun r w8 => ∃ A26 : Option Addr, ∃ n27 : Nat, ∃ n28 : Nat, ∃ i29 : Int, r = .returned (.tuple #[.slice A26 n27 n28, .int .i64 i29]) ∧ (Go.Sx.Fr S w0 w8 ∧ Go.Sx.Mild [g12, g6] w7 w8) ∧ 
  ((b7 = true →
  (∃ s30 : ByteArray, (convert 22 9 (.slice A19 n20 n21)).run Tryd.prog w8 = .ok (.string s30) w8 ∧
   (∃ s31 : ByteArray, (convert 22 9 (.slice A26 n27 n28)).run Tryd.prog w8 = .ok (.string s31) w8 ∧
   (((s30).toList = (s31).toList →
   (R (.returned (.bool (i22 == i29))) w8)) ∧
   (¬ (s30).toList = (s31).toList →
   (R (.returned (.bool false)) w8)))))) ∧
  (b7 = false →
  (R (.returned (.bool false)) w8))))))))))) ∧
 ((n1 : Int) ≤ (50 : Int) →
 (∃ T8 : List Nat, (∀ b ∈ T8, b < w2.heap.size ∧ b ∉ [g6]) ∧
  ∀ g9 : Nat, w0.heap.size ≤ g9 → (∀ w3 : World, Go.Sx.Fr S w0 w3 → Below w2.heap.size w2 w3 → w2.heap.size ≤ g9 → w3.heap[g9]? = some (.cells #[] 5 (0, 0)) → 
  ∃ w4 : World, ∃ A10 : Option Addr, ∃ n11 : Nat, ∃ n12 : Nat, (Builtin.append_ #[22, 22] 22 #[(.slice (some ⟨g9, 0, none⟩) 0 0), (.slice A0 n1 n2)]).run Tryd.prog w3 = .ok (.slice A10 n11 n12) w4 ∧ (Go.Sx.Fr S w0 w4 ∧ Go.Sx.Mild [g9, g6] w3 w4) ∧ Go.Sx.Keep w2.heap.size (T8 ++ []) w3 w4 ∧ 
  (
  Calls Tryd.prog 16 #[(.agg #[.slice A3 n4 n5])] w4 fun r w5 => ∃ A13 : Option Addr, ∃ n14 : Nat, ∃ n15 : Nat, r = .returned (.agg #[.slice A13 n14 n15]) ∧ (Go.Sx.Fr S w0 w5 ∧ Go.Sx.Mild [g9, g6] w4 w5) ∧ 
  (
  Calls Tryd.prog 15 #[(.slice A10 n11 n12), (.agg #[.slice A13 n14 n15])] w5 fun r w6 => ∃ A16 : Option Addr, ∃ n17 : Nat, ∃ n18 : Nat, ∃ i19 : Int, r = .returned (.tuple #[.slice A16 n17 n18, .int .i64 i19]) ∧ (Go.Sx.Fr S w0 w6 ∧ Go.Sx.Mild [g9, g6] w5 w6) ∧ 
  (
  Calls Tryd.prog 16 #[(.agg #[.slice A3 n4 n5])] w6 fun r w7 => ∃ A20 : Option Addr, ∃ n21 : Nat, ∃ n22 : Nat, r = .returned (.agg #[.slice A20 n21 n22]) ∧ (Go.Sx.Fr S w0 w7 ∧ Go.Sx.Mild [g9, g6] w6 w7) ∧ 
  (
  Calls Tryd.prog 17 #[(.slice A0 n1 n2), (.agg #[.slice A20 n21 n22])] w7 fun r w8 => ∃ A23 : Option Addr, ∃ n24 : Nat, ∃ n25 : Nat, ∃ i26 : Int, r = .returned (.tuple #[.slice A23 n24 n25, .int .i64 i26]) ∧ (Go.Sx.Fr S w0 w8 ∧ Go.Sx.Mild [g9, g6] w7 w8) ∧ 
  ((b7 = true →
  (∃ s27 : ByteArray, (convert 22 9 (.slice A16 n17 n18)).run Tryd.prog w8 = .ok (.string s27) w8 ∧
   (∃ s28 : ByteArray, (convert 22 9 (.slice A23 n24 n25)).run Tryd.prog w8 = .ok (.string s28) w8 ∧
   (((s27).toList = (s28).toList →
   (R (.returned (.bool (i19 == i26))) w8)) ∧
   (¬ (s27).toList = (s28).toList →
   (R (.returned (.bool false)) w8)))))) ∧
  (b7 = false →
  (R (.returned (.bool false)) w8))))))))))))) :
    Calls Tryd.prog 3 #[(.slice A0 n1 n2), (.agg #[.slice A3 n4 n5])] w0 R :=
  Go.Sx.fn_sound0 (P := Tryd.prog) (S := S) (w0 := w0) (R := R) (ws := []) (an := [⟨999998, [], [], 0⟩, ⟨999999, [], [], 0⟩]) (f := 3) (n := 6) (xs := [.one (.slice (.var 0) (.var 1) (.var 2)), .agg [.slice (.var 3) (.var 4) (.var 5)]]) (e := [.a A0, .n n1, .n n2, .a A3, .n n4, .n n5]) rfl (by kernel_rfl) (Eq.mp (by kernel_rfl) h)


/-- tracery/tracerylaw10.OpcodeSizes: what is left of it. -/
theorem opcodeSizes_sx (R : Ending → World → Prop) (S : Nat → Prop) (w0 : World) (A0 : Option Addr) (n1 : Nat) (n2 : Nat) (h :
 ∀ g3 : Nat, w0.heap.size ≤ g3 → (∀ w1 : World, Go.Sx.Fr S w0 w1 → Below w0.heap.size w0 w1 → w0.heap.size ≤ g3 → w1.heap[g3]? = some (.cells #[.slice A0 n1 n2] 25 (0, 0)) → 
 Calls Tryd.prog 14 #[] w1 fun r w2 => ∃ b4 : Bool, r = .returned (.bool b4) ∧ (Go.Sx.Fr S w0 w2 ∧ Go.Sx.Mild [g3] w1 w2) ∧ 
 (
 Calls Tryd.prog 16 #[(.agg #[.slice A0 n1 n2])] w2 fun r w3 => ∃ A5 : Option Addr, ∃ n6 : Nat, ∃ n7 : Nat, r = .returned (.agg #[.slice A5 n6 n7]) ∧ (Go.Sx.Fr S w0 w3 ∧ Go.Sx.Mild [g3] w2 w3) ∧ 
 (∀ w4 : World, Go.Sx.Fr S w0 w4 → Go.Sx.Fr (fun b => b ∈ [g3]) w3 w4 → 
 Calls Tryd.prog 15 #[(.slice none 0 0), (.agg #[.slice A5 n6 n7])] w4 fun r w5 => ∃ A8 : Option Addr, ∃ n9 : Nat, ∃ n10 : Nat, ∃ i11 : Int, r = .returned (.tuple #[.slice A8 n9 n10, .int .i64 i11]) ∧ (Go.Sx.Fr S w0 w5 ∧ Go.Sx.Mild [g3] w4 w5) ∧ 
 ((¬ i11 = (0 : Int) →
 ((b4 = true →
  (R (.returned (.bool ((n9 : Int) == (0 : Int)))) w5)) ∧
  (b4 = false →
  (R (.returned (.bool false)) w5)))) ∧
 (i11 = (0 : Int) →
 (∃ (I0 : Int → Int → World → Prop) (M0 : Int → Int → World → Nat), (I0 (1 : Int) (0 : Int) w5) ∧
  ∀ i12 : Int, ∀ i13 : Int, ∀ w6 : World, Go.Sx.Fr S w0 w6 → I0 i12 i13 w6 → 
   ((i13 < (n6 : Int) →
   ((0 : Int) ≤ i13 ∧ i13 < (n6 : Int) ∧ ∃ p14 : Nat, ∃ o15 : Nat, A5 = some ⟨p14, o15, none⟩ ∧
    (∃ i16 : Int, ∃ i17 : Int, ∃ i18 : Int, ∃ i19 : Int, ∃ i20 : Int, ∃ i21 : Int, ∃ i22 : Int, ∃ i23 : Int, ∃ i24 : Int, ∃ i25 : Int, ∃ i26 : Int, ∃ i27 : Int, ∃ i28 : Int, ∃ i29 : Int, ∃ i30 : Int, ∃ i31 : Int, ∃ i32 : Int, ∃ b33 : Bool, ∃ s34 : ByteArray, ∃ i35 : Int, Go.Sx.CellsAt w6 p14 (o15 + (i13).toNat * 20 + 0) [.int .i64 i16, .int .i64 i17, .int .i64 i18, .int .i64 i19, .int .i64 i20, .int .i64 i21, .int .i64 i22, .int .i64 i23, .int .i64 i24, .int .i64 i25, .int .i64 i26, .int .i64 i27, .int .i64 i28, .int .i64 i29, .int .i64 i30, .int .i64 i31, .int .i64 i32, .bool b33, .string s34, .int .i64 i35] ∧ 
    ∀ g36 : Nat, w0.heap.size ≤ g36 → ((i16 = (3 : Int) →
    (∀ w7 : World, Go.Sx.Fr S w0 w7 → Below w6.heap.size w6 w7 → w6.heap.size ≤ g36 → w7.heap[g36]? = some (.cells #[.int .i64 i16, .int .i64 i17, .int .i64 i18, .int .i64 i19, .int .i64 i20, .int .i64 i21, .int .i64 i22, .int .i64 i23, .int .i64 i24, .int .i64 i25, .int .i64 i26, .int .i64 i27, .int .i64 i28, .int .i64 i29, .int .i64 i30, .int .i64 i31, .int .i64 i32, .bool b33, .string s34, .int .i64 i35] 39 (0, 0)) → ∃ b37 : Bool, (binOp .neq 35 (.agg #[.int .i64 i25, .int .i64 i26, .int .i64 i27]) (.agg #[.int .i64 (0 : Int), .int .i64 (0 : Int), .int .i64 (0 : Int)])).run Tryd.prog w7 = .ok (.bool b37) w7 ∧
     ((b37 = true →
     (∃ b38 : Bool, (binOp .neq 35 (.agg #[.int .i64 i30, .int .i64 i31, .int .i64 i32]) (.agg #[.int .i64 (0 : Int), .int .i64 (0 : Int), .int .i64 (0 : Int)])).run Tryd.prog w7 = .ok (.bool b38) w7 ∧
      ((b38 = true →
      (I0 (IntKind.i64.wrap ((IntKind.i64.wrap ((IntKind.i64.wrap ((IntKind.i64.wrap (i12 + (5 : Int))) + (10 : Int))) + (4 : Int))) + (4 : Int))) (IntKind.i64.wrap (i13 + (1 : Int))) w7 ∧ M0 (IntKind.i64.wrap ((IntKind.i64.wrap ((IntKind.i64.wrap ((IntKind.i64.wrap (i12 + (5 : Int))) + (10 : Int))) + (4 : Int))) + (4 : Int))) (IntKind.i64.wrap (i13 + (1 : Int))) w7 < M0 i12 i13 w6)) ∧
      (b38 = false →
      (I0 (IntKind.i64.wrap ((IntKind.i64.wrap ((IntKind.i64.wrap (i12 + (5 : Int))) + (10 : Int))) + (4 : Int))) (IntKind.i64.wrap (i13 + (1 : Int))) w7 ∧ M0 (IntKind.i64.wrap ((IntKind.i64.wrap ((IntKind.i64.wrap (i12 + (5 : Int))) + (10 : Int))) + (4 : Int))) (IntKind.i64.wrap (i13 + (1 : Int))) w7 < M0 i12 i13 w6))))) ∧
     (b37 = false →
     (∃ b38 : Bool, (binOp .neq 35 (.agg #[.int .i64 i30, .int .i64 i31, .int .i64 i32]) (.agg #[.int .i64 (0 : Int), .int .i64 (0 : Int), .int .i64 (0 : Int)])).run Tryd.prog w7 = .ok (.bool b38) w7 ∧
      ((b38 = true →
      (I0 (IntKind.i64.wrap ((IntKind.i64.wrap ((IntKind.i64.wrap (i12 + (5 : Int))) + (10 : Int))) + (4 : Int))) (IntKind.i64.wrap (i13 + (1 : Int))) w7 ∧ M0 (IntKind.i64.wrap ((IntKind.i64.wrap ((IntKind.i64.wrap (i12 + (5 : Int))) + (10 : Int))) + (4 : Int))) (IntKind.i64.wrap (i13 + (1 : Int))) w7 < M0 i12 i13 w6)) ∧
      (b38 = false →
      (I0 (IntKind.i64.wrap ((IntKind.i64.wrap (i12 + (5 : Int))) + (10 : Int))) (IntKind.i64.wrap (i13 + (1 : Int))) w7 ∧ M0 (IntKind.i64.wrap ((IntKind.i64.wrap (i12 + (5 : Int))) + (10 : Int))) (IntKind.i64.wrap (i13 + (1 : Int))) w7 < M0 i12 i13 w6)))))))) ∧
    (¬ i16 = (3 : Int) →
    ((i16 = (5 : Int) →
     (∀ w7 : World, Go.Sx.Fr S w0 w7 → Below w6.heap.size w6 w7 → w6.heap.size ≤ g36 → w7.heap[g36]? = some (.cells #[.int .i64 i16, .int .i64 i17, .int .i64 i18, .int .i64 i19, .int .i64 i20, .int .i64 i21, .int .i64 i22, .int .i64 i23, .int .i64 i24, .int .i64 i25, .int .i64 i26, .int .i64 i27, .int .i64 i28, .int .i64 i29, .int .i64 i30, .int .i64 i31, .int .i64 i32, .bool b33, .string s34, .int .i64 i35] 39 (0, 0)) → I0 (IntKind.i64.wrap ((IntKind.i64.wrap (i12 + (5 : Int))) + (9 : Int))) (IntKind.i64.wrap (i13 + (1 : Int))) w7 ∧ M0 (IntKind.i64.wrap ((IntKind.i64.wrap (i12 + (5 : Int))) + (9 : Int))) (IntKind.i64.wrap (i13 + (1 : Int))) w7 < M0 i12 i13 w6)) ∧
     (¬ i16 = (5 : Int) →
     ((i16 = (6 : Int) →
      (∀ w7 : World, Go.Sx.Fr S w0 w7 → Below w6.heap.size w6 w7 → w6.heap.size ≤ g36 → w7.heap[g36]? = some (.cells #[.int .i64 i16, .int .i64 i17, .int .i64 i18, .int .i64 i19, .int .i64 i20, .int .i64 i21, .int .i64 i22, .int .i64 i23, .int .i64 i24, .int .i64 i25, .int .i64 i26, .int .i64 i27, .int .i64 i28, .int .i64 i29, .int .i64 i30, .int .i64 i31, .int .i64 i32, .bool b33, .string s34, .int .i64 i35] 39 (0, 0)) → I0 (IntKind.i64.wrap ((IntKind.i64.wrap (i12 + (5 : Int))) + (4 : Int))) (IntKind.i64.wrap (i13 + (1 : Int))) w7 ∧ M0 (IntKind.i64.wrap ((IntKind.i64.wrap (i12 + (5 : Int))) + (4 : Int))) (IntKind.i64.wrap (i13 + (1 : Int))) w7 < M0 i12 i13 w6)) ∧
      (¬ i16 = (6 : Int) →
      ((i16 = (7 : Int) →
       (∀ w7 : World, Go.Sx.Fr S w0 w7 → Below w6.heap.size w6 w7 → w6.heap.size ≤ g36 → w7.heap[g36]? = some (.cells #[.int .i64 i16, .int .i64 i17, .int .i64 i18, .int .i64 i19, .int .i64 i20, .int .i64 i21, .int .i64 i22, .int .i64 i23, .int .i64 i24, .int .i64 i25, .int .i64 i26, .int .i64 i27, .int .i64 i28, .int .i64 i29, .int .i64 i30, .int .i64 i31, .int .i64 i32, .bool b33, .string s34, .int .i64 i35] 39 (0, 0)) → I0 (IntKind.i64.wrap ((IntKind.i64.wrap ((IntKind.i64.wrap (i12 + (5 : Int))) + (2 : Int))) + ((s34).size : Int))) (IntKind.i64.wrap (i13 + (1 : Int))) w7 ∧ M0 (IntKind.i64.wrap ((IntKind.i64.wrap ((IntKind.i64.wrap (i12 + (5 : Int))) + (2 : Int))) + ((s34).size : Int))) (IntKind.i64.wrap (i13 + (1 : Int))) w7 < M0 i12 i13 w6)) ∧
       (¬ i16 = (7 : Int) →
       ((i16 = (8 : Int) →
        (∀ w7 : World, Go.Sx.Fr S w0 w7 → Below w6.heap.size w6 w7 → w6.heap.size ≤ g36 → w7.heap[g36]? = some (.cells #[.int .i64 i16, .int .i64 i17, .int .i64 i18, .int .i64 i19, .int .i64 i20, .int .i64 i21, .int .i64 i22, .int .i64 i23, .int .i64 i24, .int .i64 i25, .int .i64 i26, .int .i64 i27, .int .i64 i28, .int .i64 i29, .int .i64 i30, .int .i64 i31, .int .i64 i32, .bool b33, .string s34, .int .i64 i35] 39 (0, 0)) → I0 (IntKind.i64.wrap ((IntKind.i64.wrap (i12 + (5 : Int))) + (9 : Int))) (IntKind.i64.wrap (i13 + (1 : Int))) w7 ∧ M0 (IntKind.i64.wrap ((IntKind.i64.wrap (i12 + (5 : Int))) + (9 : Int))) (IntKind.i64.wrap (i13 + (1 : Int))) w7 < M0 i12 i13 w6)) ∧
        (¬ i16 = (8 : Int) →
        (∀ w7 : World, Go.Sx.Fr S w0 w7 → Below w6.heap.size w6 w7 → w6.heap.size ≤ g36 → w7.heap[g36]? = some (.cells #[.int .i64 i16, .int .i64 i17, .int .i64 i18, .int .i64 i19, .int .i64 i20, .int .i64 i21, .int .i64 i22, .int .i64 i23, .int .i64 i24, .int .i64 i25, .int .i64 i26, .int .i64 i27, .int .i64 i28, .int .i64 i29, .int .i64 i30, .int .i64 i31, .int .i64 i32, .bool b33, .string s34, .int .i64 i35] 39 (0, 0)) → I0 (IntKind.i64.wrap (i12 + (5 : Int))) (IntKind.i64.wrap (i13 + (1 : Int))) w7 ∧ M0 (IntKind.i64.wrap (i12 + (5 : Int))) (IntKind.i64.wrap (i13 + (1 : Int))) w7 < M0 i12 i13 w6)))))))))))))) ∧
   ((n6 : Int) ≤ i13 →
   ((b4 = true →
    (R (.returned (.bool ((n9 : Int) == i12))) w6)) ∧
    (b4 = false →
    (R (.returned (.bool false)) w6)))))))))))) :
    Calls Tryd.prog 4 #[(.agg #[.slice A0 n1 n2])] w0 R :=
  Go.Sx.fn_sound0 (P := Tryd.prog) (S := S) (w0 := w0) (R := R) (ws := []) (an := [⟨999998, [], [], 0⟩, ⟨999999, [], [], 0⟩]) (f := 4) (n := 3) (xs := [.agg [.slice (.var 0) (.var 1) (.var 2)]]) (e := [.a A0, .n n1, .n n2]) rfl (by kernel_rfl) (Eq.mp (by kernel_rfl) h)


end Go.Proofs.YtfjenamomipmdaaDoor
