/- Script: what is left of the functions that lay down and print. -/
import Derived.Test.YtfjenamomipmdaaDoorProg
import Derived.Test.YtfjenamomipmdaaDoorSs
import Derived.KernelRfl
set_option linter.unusedVariables false
namespace Go.Proofs.YtfjenamomipmdaaDoor
open Go Go.RowKit Go.Proofs Go.Trc
set_option maxRecDepth 100000
/-- tracery/script.Put: what is left of it. -/
theorem scPut_sx (R : Ending → World → Prop) (S : Nat → Prop) (w0 : World) (i0 : Int) (i1 : Int) (i2 : Int) (i3 : Int) (A4 : Option Addr) (n5 : Nat) (n6 : Nat) (h :
 ∀ g7 : Nat, w0.heap.size ≤ g7 → ∀ g8 : Nat, w0.heap.size ≤ g8 → (∀ w1 : World, Go.Sx.Fr S w0 w1 → Below w0.heap.size w0 w1 → w0.heap.size ≤ g8 → w1.heap[g8]? = some (.cells #[.int .i64 i0, .int .i64 i1, .int .i64 i2, .int .i64 i3] 3 (0, 0)) → w0.heap.size ≤ g7 → w1.heap[g7]? = some (.cells #[.int .i64 i0, .int .i64 i1, .int .i64 i2, .int .i64 i3, .slice A4 n5 n6] 54 (0, 0)) → 
 Calls Tryd.prog 53 #[(.slice none 0 0), (.int .i64 i0)] w1 fun r w2 => ∃ A9 : Option Addr, ∃ n10 : Nat, ∃ n11 : Nat, r = .returned (.slice A9 n10 n11) ∧ (Go.Sx.Fr S w0 w2 ∧ Go.Sx.Mild [g8, g7] w1 w2) ∧ 
 (
 Calls Tryd.prog 53 #[(.slice A9 n10 n11), (.int .i64 i1)] w2 fun r w3 => ∃ A12 : Option Addr, ∃ n13 : Nat, ∃ n14 : Nat, r = .returned (.slice A12 n13 n14) ∧ (Go.Sx.Fr S w0 w3 ∧ Go.Sx.Mild [g8, g7] w2 w3) ∧ 
 (
 Calls Tryd.prog 53 #[(.slice A12 n13 n14), (.int .i64 i2)] w3 fun r w4 => ∃ A15 : Option Addr, ∃ n16 : Nat, ∃ n17 : Nat, r = .returned (.slice A15 n16 n17) ∧ (Go.Sx.Fr S w0 w4 ∧ Go.Sx.Mild [g8, g7] w3 w4) ∧ 
 (
 Calls Tryd.prog 53 #[(.slice A15 n16 n17), (.int .i64 i3)] w4 fun r w5 => ∃ A18 : Option Addr, ∃ n19 : Nat, ∃ n20 : Nat, r = .returned (.slice A18 n19 n20) ∧ (Go.Sx.Fr S w0 w5 ∧ Go.Sx.Mild [g8, g7] w4 w5) ∧ 
 (((n5 : Int) = (0 : Int) →
 (R (.returned (.tuple #[.slice A18 n19 n20, .int .i64 (0 : Int)])) w5)) ∧
 (¬ (n5 : Int) = (0 : Int) →
 (
  Calls Tryd.prog 15 #[(.slice A18 n19 n20), (.agg #[.slice A4 n5 n6])] w5 fun r w6 => ∃ A21 : Option Addr, ∃ n22 : Nat, ∃ n23 : Nat, ∃ i24 : Int, r = .returned (.tuple #[.slice A21 n22 n23, .int .i64 i24]) ∧ (Go.Sx.Fr S w0 w6 ∧ Go.Sx.Mild [g8, g7] w5 w6) ∧ 
  (R (.returned (.tuple #[.slice A21 n22 n23, .int .i64 i24])) w6))))))))) :
    Calls Tryd.prog 28 #[(.agg #[.int .i64 i0, .int .i64 i1, .int .i64 i2, .int .i64 i3, .slice A4 n5 n6])] w0 R :=
  Go.Sx.fn_sound0 (P := Tryd.prog) (S := S) (w0 := w0) (R := R) (ws := []) (an := [⟨999999, [], [], 0⟩, ⟨3, [], [], 5⟩]) (f := 28) (n := 7) (xs := [.agg [.int .i64 (.var 0), .int .i64 (.var 1), .int .i64 (.var 2), .int .i64 (.var 3), .slice (.var 4) (.var 5) (.var 6)]]) (e := [.i i0, .i i1, .i i2, .i i3, .a A4, .n n5, .n n6]) rfl (by kernel_rfl) (Eq.mp (by kernel_rfl) h)


/-- tracery/traceryref23.Put: what is left of it. -/
theorem refScPut_sx (R : Ending → World → Prop) (S : Nat → Prop) (w0 : World) (i0 : Int) (i1 : Int) (i2 : Int) (i3 : Int) (A4 : Option Addr) (n5 : Nat) (n6 : Nat) (h :
 ∀ g7 : Nat, w0.heap.size ≤ g7 → (∀ w1 : World, Go.Sx.Fr S w0 w1 → Below w0.heap.size w0 w1 → w0.heap.size ≤ g7 → w1.heap[g7]? = some (.cells #[.int .i64 i0, .int .i64 i1, .int .i64 i2, .int .i64 i3, .slice A4 n5 n6] 54 (0, 0)) → 
 (∀ w2 : World, Go.Sx.Fr S w0 w2 → Below w1.heap.size w1 w2 → 
 Calls Tryd.prog 44 #[(.slice none 0 0), (.int .i64 i0)] w2 fun r w3 => ∃ A9 : Option Addr, ∃ n10 : Nat, ∃ n11 : Nat, r = .returned (.slice A9 n10 n11) ∧ (Go.Sx.Fr S w0 w3 ∧ Go.Sx.Mild [g7] w2 w3) ∧ Go.Sx.Keep w1.heap.size [] w2 w3 ∧ 
 (
 Calls Tryd.prog 44 #[(.slice A9 n10 n11), (.int .i64 i1)] w3 fun r w4 => ∃ A12 : Option Addr, ∃ n13 : Nat, ∃ n14 : Nat, r = .returned (.slice A12 n13 n14) ∧ (Go.Sx.Fr S w0 w4 ∧ Go.Sx.Mild [g7] w3 w4) ∧ Go.Sx.Keep w1.heap.size [] w3 w4 ∧ 
 (
 Calls Tryd.prog 44 #[(.slice A12 n13 n14), (.int .i64 i2)] w4 fun r w5 => ∃ A15 : Option Addr, ∃ n16 : Nat, ∃ n17 : Nat, r = .returned (.slice A15 n16 n17) ∧ (Go.Sx.Fr S w0 w5 ∧ Go.Sx.Mild [g7] w4 w5) ∧ Go.Sx.Keep w1.heap.size [] w4 w5 ∧ 
 (
 Calls Tryd.prog 44 #[(.slice A15 n16 n17), (.int .i64 i3)] w5 fun r w6 => ∃ A18 : Option Addr, ∃ n19 : Nat, ∃ n20 : Nat, r = .returned (.slice A18 n19 n20) ∧ (Go.Sx.Fr S w0 w6 ∧ Go.Sx.Mild [g7] w5 w6) ∧ 
 (((n5 : Int) = (0 : Int) →
 (R (.returned (.tuple #[.slice A18 n19 n20, .int .i64 (0 : Int)])) w6)) ∧
 (¬ (n5 : Int) = (0 : Int) →
 (
  Calls Tryd.prog 17 #[(.slice A18 n19 n20), (.agg #[.slice A4 n5 n6])] w6 fun r w7 => ∃ A21 : Option Addr, ∃ n22 : Nat, ∃ n23 : Nat, ∃ i24 : Int, r = .returned (.tuple #[.slice A21 n22 n23, .int .i64 i24]) ∧ (Go.Sx.Fr S w0 w7 ∧ Go.Sx.Mild [g7] w6 w7) ∧ 
  (R (.returned (.tuple #[.slice A21 n22 n23, .int .i64 i24])) w7)))))))))) :
    Calls Tryd.prog 29 #[(.agg #[.int .i64 i0, .int .i64 i1, .int .i64 i2, .int .i64 i3, .slice A4 n5 n6])] w0 R :=
  Go.Sx.fn_sound0 (P := Tryd.prog) (S := S) (w0 := w0) (R := R) (ws := []) (an := [⟨999999, [], [], 0⟩]) (f := 29) (n := 7) (xs := [.agg [.int .i64 (.var 0), .int .i64 (.var 1), .int .i64 (.var 2), .int .i64 (.var 3), .slice (.var 4) (.var 5) (.var 6)]]) (e := [.i i0, .i i1, .i i2, .i i3, .a A4, .n n5, .n n6]) rfl (by kernel_rfl) (Eq.mp (by kernel_rfl) h)


/-- tracery/traceryref23.digits: what is left of it. -/
theorem digits_sx (R : Ending → World → Prop) (S : Nat → Prop) (w0 : World) (A0 : Option Addr) (n1 : Nat) (n2 : Nat) (h :
 ∀ g3 : Nat, w0.heap.size ≤ g3 → (∃ (I0 : Option Addr → Nat → Nat → Int → World → Prop) (M0 : Option Addr → Nat → Nat → Int → World → Nat), (∀ w1 : World, Go.Sx.Fr S w0 w1 → Below w0.heap.size w0 w1 → w0.heap.size ≤ g3 → w1.heap[g3]? = some (.cells #[] 5 (0, 0)) → I0 (some ⟨g3, 0, none⟩) 0 0 (0 : Int) w1) ∧
 ∀ A4 : Option Addr, ∀ n5 : Nat, ∀ n6 : Nat, ∀ i7 : Int, ∀ w2 : World, Go.Sx.Fr S w0 w2 → I0 A4 n5 n6 i7 w2 → 
  ((i7 < (n1 : Int) →
  (∃ T8 : List Nat, (∀ b ∈ T8, b < w2.heap.size ∧ b ∉ [g3]) ∧
   ((0 : Int) ≤ i7 ∧ i7 < (n1 : Int) ∧ ∃ p9 : Nat, ∃ o10 : Nat, A0 = some ⟨p9, o10, none⟩ ∧
   (∀ w3 : World, Go.Sx.Fr S w0 w3 → Below w2.heap.size w2 w3 → ∃ i11 : Int, Go.Sx.CellsAt w3 p9 (o10 + (i7).toNat * 1 + 0) [.int .u8 i11] ∧ (p9 < w2.heap.size ∧ p9 ∉ (T8 ++ [])) ∧ 
   (¬ (16 : Int) = (0 : Int) ∧
   (∃ i12 : Int, (∀ w', Go.Sx.Keep w2.heap.size (T8 ++ []) w3 w' → (Instr.index 9 (.string (⟨#[48, 49, 50, 51, 52, 53, 54, 55, 56, 57, 97, 98, 99, 100, 101, 102]⟩ : ByteArray)) (.int .u8 (IntKind.u8.wrap (Int.tdiv i11 (16 : Int))))).run Tryd.prog w' = .ok (.int .u8 i12) w') ∧
   ((0 : Int) ≤ i7 ∧ i7 < (n1 : Int) ∧ ∃ p13 : Nat, ∃ o14 : Nat, A0 = some ⟨p13, o14, none⟩ ∧
   (∃ i15 : Int, Go.Sx.CellsAt w3 p13 (o14 + (i7).toNat * 1 + 0) [.int .u8 i15] ∧ (p13 < w2.heap.size ∧ p13 ∉ (T8 ++ [])) ∧ 
   (¬ (16 : Int) = (0 : Int) ∧
   (∃ i16 : Int, (∀ w', Go.Sx.Keep w2.heap.size (T8 ++ []) w3 w' → (Instr.index 9 (.string (⟨#[48, 49, 50, 51, 52, 53, 54, 55, 56, 57, 97, 98, 99, 100, 101, 102]⟩ : ByteArray)) (.int .u8 (Int.tmod i15 (16 : Int)))).run Tryd.prog w' = .ok (.int .u8 i16) w') ∧
   ∀ g17 : Nat, w0.heap.size ≤ g17 → (∀ w4 : World, Go.Sx.Fr S w0 w4 → Below w3.heap.size w3 w4 → w3.heap.size ≤ g17 → w4.heap[g17]? = some (.cells #[.int .u8 i12, .int .u8 i16] 5 (0, 0)) → 
   ∃ w5 : World, ∃ A18 : Option Addr, ∃ n19 : Nat, ∃ n20 : Nat, (Builtin.append_ #[22, 22] 22 #[(.slice A4 n5 n6), (.slice (some ⟨g17, 0, none⟩) 2 2)]).run Tryd.prog w4 = .ok (.slice A18 n19 n20) w5 ∧ (Go.Sx.Fr S w0 w5 ∧ Go.Sx.Mild [g17, g3] w4 w5) ∧ 
   (I0 A18 n19 n20 (IntKind.i64.wrap (i7 + (1 : Int))) w5 ∧ M0 A18 n19 n20 (IntKind.i64.wrap (i7 + (1 : Int))) w5 < M0 A4 n5 n6 i7 w2)))))))))))) ∧
  ((n1 : Int) ≤ i7 →
  (∃ s8 : ByteArray, (convert 22 9 (.slice A4 n5 n6)).run Tryd.prog w2 = .ok (.string s8) w2 ∧
   (R (.returned (.string s8)) w2)))))) :
    Calls Tryd.prog 57 #[(.slice A0 n1 n2)] w0 R :=
  Go.Sx.fn_sound0 (P := Tryd.prog) (S := S) (w0 := w0) (R := R) (ws := []) (an := [⟨999999, [], [], 0⟩, ⟨999998, [], [], 0⟩]) (f := 57) (n := 3) (xs := [.one (.slice (.var 0) (.var 1) (.var 2))]) (e := [.a A0, .n n1, .n n2]) rfl (by kernel_rfl) (Eq.mp (by kernel_rfl) h)


/-- tracery/script.written: what is left of it. -/
theorem written_sx (R : Ending → World → Prop) (S : Nat → Prop) (w0 : World) (A0 : Option Addr) (n1 : Nat) (n2 : Nat) (h :
 ∀ g3 : Nat, w0.heap.size ≤ g3 → (∃ (I0 : Int → Value → Option Addr → Nat → Nat → World → Prop) (M0 : Int → Value → Option Addr → Nat → Nat → World → Nat), (∀ w1 : World, Go.Sx.Fr S w0 w1 → Below w0.heap.size w0 w1 → w0.heap.size ≤ g3 → w1.heap[g3]? = some (.cells #[.pointer none, .slice none 0 0] 104 (0, 0)) → I0 (0 : Int) (.pointer none) none 0 0 w1) ∧
 ∀ i4 : Int, ∀ v5 : Value, ∀ A6 : Option Addr, ∀ n7 : Nat, ∀ n8 : Nat, ∀ w2 : World, Go.Sx.Fr S w0 w2 → I0 i4 v5 A6 n7 n8 w2 → w2.heap[g3]? = some (.cells #[v5, .slice A6 n7 n8] 104 (0, 0)) → 
  ((i4 < (n1 : Int) →
  ((0 : Int) ≤ i4 ∧ i4 < (n1 : Int) ∧ ∃ p9 : Nat, ∃ o10 : Nat, A0 = some ⟨p9, o10, none⟩ ∧
   (∃ i11 : Int, Go.Sx.CellsAt w2 p9 (o10 + (i4).toNat * 1 + 0) [.int .u8 i11] ∧ 
   (∃ i12 : Int, (Instr.index 9 (.string (⟨#[48, 49, 50, 51, 52, 53, 54, 55, 56, 57, 97, 98, 99, 100, 101, 102]⟩ : ByteArray)) (.int .u8 (Int.fdiv i11 (2 ^ 4)))).run Tryd.prog w2 = .ok (.int .u8 i12) w2 ∧
   (w2.heap[g3]? = some (.cells #[v5, .slice A6 n7 n8] 104 (0, 0)) → 
   Calls Tryd.prog 79 #[(.pointer (some ⟨g3, 0, none⟩)), (.int .u8 i12)] w2 fun r w3 => ∃ v13 : Value, ∃ v14 : Value, ∃ A15 : Option Addr, ∃ n16 : Nat, ∃ n17 : Nat, r = .returned (v13) ∧ (Go.Sx.Fr S w0 w3 ∧ Go.Sx.Mild [] w2 w3) ∧ w3.heap[g3]? = some (.cells #[v14, .slice A15 n16 n17] 104 (0, 0)) ∧ 
   ((v14).oneCell' = true ∧
   (∃ i18 : Int, (Instr.index 9 (.string (⟨#[48, 49, 50, 51, 52, 53, 54, 55, 56, 57, 97, 98, 99, 100, 101, 102]⟩ : ByteArray)) (.int .u8 (bits .and .u8 i11 (15 : Int)))).run Tryd.prog w3 = .ok (.int .u8 i18) w3 ∧
   (w3.heap[g3]? = some (.cells #[v14, .slice A15 n16 n17] 104 (0, 0)) → 
   Calls Tryd.prog 79 #[(.pointer (some ⟨g3, 0, none⟩)), (.int .u8 i18)] w3 fun r w4 => ∃ v19 : Value, ∃ v20 : Value, ∃ A21 : Option Addr, ∃ n22 : Nat, ∃ n23 : Nat, r = .returned (v19) ∧ (Go.Sx.Fr S w0 w4 ∧ Go.Sx.Mild [] w3 w4) ∧ w4.heap[g3]? = some (.cells #[v20, .slice A21 n22 n23] 104 (0, 0)) ∧ 
   ((v20).oneCell' = true ∧
   (I0 (IntKind.i64.wrap (i4 + (1 : Int))) (v20) A21 n22 n23 w4 ∧ M0 (IntKind.i64.wrap (i4 + (1 : Int))) (v20) A21 n22 n23 w4 < M0 i4 v5 A6 n7 n8 w2)))))))))) ∧
  ((n1 : Int) ≤ i4 →
  (w2.heap[g3]? = some (.cells #[v5, .slice A6 n7 n8] 104 (0, 0)) → 
   Calls Tryd.prog 56 #[(.pointer (some ⟨g3, 0, none⟩))] w2 fun r w3 => ∃ s9 : ByteArray, ∃ v10 : Value, ∃ A11 : Option Addr, ∃ n12 : Nat, ∃ n13 : Nat, r = .returned (.string s9) ∧ (Go.Sx.Fr S w0 w3 ∧ Go.Sx.Mild [] w2 w3) ∧ w3.heap[g3]? = some (.cells #[v10, .slice A11 n12 n13] 104 (0, 0)) ∧ 
   ((v10).oneCell' = true ∧
   (R (.returned (.string s9)) w3))))))) :
    Calls Tryd.prog 55 #[(.slice A0 n1 n2)] w0 R :=
  Go.Sx.fn_sound0 (P := Tryd.prog) (S := S) (w0 := w0) (R := R) (ws := [79, 56]) (an := [⟨999999, [], [], 0⟩, ⟨3, [], [(3, 0), (3, 1)], 0⟩]) (f := 55) (n := 3) (xs := [.one (.slice (.var 0) (.var 1) (.var 2))]) (e := [.a A0, .n n1, .n n2]) rfl (by kernel_rfl) (Eq.mp (by kernel_rfl) h)


/-- tracery/script.Print: what is left of it. -/
theorem scPrint_sx (R : Ending → World → Prop) (S : Nat → Prop) (w0 : World) (A0 : Option Addr) (n1 : Nat) (n2 : Nat) (h :
 (((2048 : Int) < (n1 : Int) →
 (R (.returned (.tuple #[.string (⟨#[]⟩ : ByteArray), .int .i64 (3 : Int)])) w0)) ∧
 ((n1 : Int) ≤ (2048 : Int) →
 ∀ g3 : Nat, w0.heap.size ≤ g3 → (∃ (I0 : ByteArray → Int → Int → Value → Option Addr → Nat → Nat → World → Prop) (M0 : ByteArray → Int → Int → Value → Option Addr → Nat → Nat → World → Nat), (∀ w1 : World, Go.Sx.Fr S w0 w1 → Below w0.heap.size w0 w1 → w0.heap.size ≤ g3 → w1.heap[g3]? = some (.cells #[.pointer none, .slice none 0 0] 104 (0, 0)) → I0 (⟨#[]⟩ : ByteArray) (0 : Int) (0 : Int) (.pointer none) none 0 0 w1) ∧
  ∀ s4 : ByteArray, ∀ i5 : Int, ∀ i6 : Int, ∀ v7 : Value, ∀ A8 : Option Addr, ∀ n9 : Nat, ∀ n10 : Nat, ∀ w2 : World, Go.Sx.Fr S w0 w2 → I0 s4 i5 i6 v7 A8 n9 n10 w2 → w2.heap[g3]? = some (.cells #[v7, .slice A8 n9 n10] 104 (0, 0)) → 
   ((i6 < (n1 : Int) →
   ((0 : Int) ≤ i6 ∧ i6 < (n1 : Int) ∧ ∃ p11 : Nat, ∃ o12 : Nat, A0 = some ⟨p11, o12, none⟩ ∧
    (∃ i13 : Int, ∃ i14 : Int, ∃ i15 : Int, ∃ i16 : Int, ∃ A17 : Option Addr, ∃ n18 : Nat, ∃ n19 : Nat, Go.Sx.CellsAt w2 p11 (o12 + (i6).toNat * 5 + 0) [.int .i64 i13, .int .i64 i14, .int .i64 i15, .int .i64 i16, .slice A17 n18 n19] ∧ 
    ∀ g20 : Nat, w0.heap.size ≤ g20 → (∀ w3 : World, Go.Sx.Fr S w0 w3 → Below w2.heap.size w2 w3 → w2.heap.size ≤ g20 → w3.heap[g20]? = some (.cells #[.int .i64 i13, .int .i64 i14, .int .i64 i15, .int .i64 i16, .slice A17 n18 n19] 54 (0, 0)) → 
    Calls Tryd.prog 28 #[(.agg #[.int .i64 i13, .int .i64 i14, .int .i64 i15, .int .i64 i16, .slice A17 n18 n19])] w3 fun r w4 => ∃ A21 : Option Addr, ∃ n22 : Nat, ∃ n23 : Nat, ∃ i24 : Int, r = .returned (.tuple #[.slice A21 n22 n23, .int .i64 i24]) ∧ (Go.Sx.Fr S w0 w4 ∧ Go.Sx.Mild [g20, g3] w3 w4) ∧ 
    ((¬ i24 = (0 : Int) →
    (R (.returned (.tuple #[.string (⟨#[]⟩ : ByteArray), .int .i64 i24])) w4)) ∧
    (i24 = (0 : Int) →
    (
     Calls Tryd.prog 55 #[(.slice A21 n22 n23)] w4 fun r w5 => ∃ s25 : ByteArray, r = .returned (.string s25) ∧ (Go.Sx.Fr S w0 w5 ∧ Go.Sx.Mild [g20, g3] w4 w5) ∧ 
     (∃ s26 : ByteArray, (binOp .add 9 (.string s25) (.string (⟨#[10]⟩ : ByteArray))).run Tryd.prog w5 = .ok (.string s26) w5 ∧
     (w5.heap[g3]? = some (.cells #[v7, .slice A8 n9 n10] 104 (0, 0)) → 
     Calls Tryd.prog 54 #[(.pointer (some ⟨g3, 0, none⟩)), (.string s26)] w5 fun r w6 => ∃ i27 : Int, ∃ v28 : Value, ∃ v29 : Value, ∃ A30 : Option Addr, ∃ n31 : Nat, ∃ n32 : Nat, r = .returned (.tuple #[.int .i64 i27, v28]) ∧ (Go.Sx.Fr S w0 w6 ∧ Go.Sx.Mild [g20] w5 w6) ∧ w6.heap[g3]? = some (.cells #[v29, .slice A30 n31 n32] 104 (0, 0)) ∧ 
     ((v29).oneCell' = true ∧
     (I0 s4 i5 (IntKind.i64.wrap (i6 + (1 : Int))) (v29) A30 n31 n32 w6 ∧ M0 s4 i5 (IntKind.i64.wrap (i6 + (1 : Int))) (v29) A30 n31 n32 w6 < M0 s4 i5 i6 v7 A8 n9 n10 w2))))))))))) ∧
   ((n1 : Int) ≤ i6 →
   (w2.heap[g3]? = some (.cells #[v7, .slice A8 n9 n10] 104 (0, 0)) → 
    Calls Tryd.prog 56 #[(.pointer (some ⟨g3, 0, none⟩))] w2 fun r w3 => ∃ s11 : ByteArray, ∃ v12 : Value, ∃ A13 : Option Addr, ∃ n14 : Nat, ∃ n15 : Nat, r = .returned (.string s11) ∧ (Go.Sx.Fr S w0 w3 ∧ Go.Sx.Mild [] w2 w3) ∧ w3.heap[g3]? = some (.cells #[v12, .slice A13 n14 n15] 104 (0, 0)) ∧ 
    ((v12).oneCell' = true ∧
    (R (.returned (.tuple #[.string s11, .int .i64 (0 : Int)])) w3))))))))) :
    Calls Tryd.prog 30 #[(.slice A0 n1 n2)] w0 R :=
  Go.Sx.fn_sound0 (P := Tryd.prog) (S := S) (w0 := w0) (R := R) (ws := [54, 56]) (an := [⟨999999, [], [], 0⟩, ⟨5, [], [(4, 0), (4, 1)], 0⟩]) (f := 30) (n := 3) (xs := [.one (.slice (.var 0) (.var 1) (.var 2))]) (e := [.a A0, .n n1, .n n2]) rfl (by kernel_rfl) (Eq.mp (by kernel_rfl) h)


/-- tracery/traceryref23.Print: what is left of it. -/
theorem refScPrint_sx (R : Ending → World → Prop) (S : Nat → Prop) (w0 : World) (A0 : Option Addr) (n1 : Nat) (n2 : Nat) (h :
 (((2048 : Int) < (n1 : Int) →
 (R (.returned (.tuple #[.string (⟨#[]⟩ : ByteArray), .int .i64 (3 : Int)])) w0)) ∧
 ((n1 : Int) ≤ (2048 : Int) →
 (∃ (I0 : ByteArray → Int → ByteArray → Int → World → Prop) (M0 : ByteArray → Int → ByteArray → Int → World → Nat), (I0 (⟨#[]⟩ : ByteArray) (0 : Int) (⟨#[]⟩ : ByteArray) (0 : Int) w0) ∧
  ∀ s3 : ByteArray, ∀ i4 : Int, ∀ s5 : ByteArray, ∀ i6 : Int, ∀ w1 : World, Go.Sx.Fr S w0 w1 → I0 s3 i4 s5 i6 w1 → 
   ((i6 < (n1 : Int) →
   ((0 : Int) ≤ i6 ∧ i6 < (n1 : Int) ∧ ∃ p7 : Nat, ∃ o8 : Nat, A0 = some ⟨p7, o8, none⟩ ∧
    (∃ i9 : Int, ∃ i10 : Int, ∃ i11 : Int, ∃ i12 : Int, ∃ A13 : Option Addr, ∃ n14 : Nat, ∃ n15 : Nat, Go.Sx.CellsAt w1 p7 (o8 + (i6).toNat * 5 + 0) [.int .i64 i9, .int .i64 i10, .int .i64 i11, .int .i64 i12, .slice A13 n14 n15] ∧ 
    (
    Calls Tryd.prog 29 #[(.agg #[.int .i64 i9, .int .i64 i10, .int .i64 i11, .int .i64 i12, .slice A13 n14 n15])] w1 fun r w2 => ∃ A16 : Option Addr, ∃ n17 : Nat, ∃ n18 : Nat, ∃ i19 : Int, r = .returned (.tuple #[.slice A16 n17 n18, .int .i64 i19]) ∧ (Go.Sx.Fr S w0 w2 ∧ Go.Sx.Mild [] w1 w2) ∧ 
    ((¬ i19 = (0 : Int) →
    (R (.returned (.tuple #[.string (⟨#[]⟩ : ByteArray), .int .i64 i19])) w2)) ∧
    (i19 = (0 : Int) →
    (
     Calls Tryd.prog 57 #[(.slice A16 n17 n18)] w2 fun r w3 => ∃ s20 : ByteArray, r = .returned (.string s20) ∧ (Go.Sx.Fr S w0 w3 ∧ Go.Sx.Mild [] w2 w3) ∧ 
     (∃ s21 : ByteArray, (binOp .add 9 (.string s5) (.string s20)).run Tryd.prog w3 = .ok (.string s21) w3 ∧
     (∃ s22 : ByteArray, (binOp .add 9 (.string s21) (.string (⟨#[10]⟩ : ByteArray))).run Tryd.prog w3 = .ok (.string s22) w3 ∧
     (I0 s3 i4 s22 (IntKind.i64.wrap (i6 + (1 : Int))) w3 ∧ M0 s3 i4 s22 (IntKind.i64.wrap (i6 + (1 : Int))) w3 < M0 s3 i4 s5 i6 w1)))))))))) ∧
   ((n1 : Int) ≤ i6 →
   (R (.returned (.tuple #[.string s5, .int .i64 (0 : Int)])) w1))))))) :
    Calls Tryd.prog 31 #[(.slice A0 n1 n2)] w0 R :=
  Go.Sx.fn_sound0 (P := Tryd.prog) (S := S) (w0 := w0) (R := R) (ws := []) (an := [⟨999999, [], [], 0⟩]) (f := 31) (n := 3) (xs := [.one (.slice (.var 0) (.var 1) (.var 2))]) (e := [.a A0, .n n1, .n n2]) rfl (by kernel_rfl) (Eq.mp (by kernel_rfl) h)


/-- tracery/tracerylaw23.round: what is left of it. -/
theorem round_sx (R : Ending → World → Prop) (S : Nat → Prop) (w0 : World) (h :
 (∃ (I0 : ByteArray → Int → World → Prop) (M0 : ByteArray → Int → World → Nat), (I0 (⟨#[48, 48, 48, 48, 48, 48, 48, 48, 48, 48, 48, 48, 48, 48, 48, 98]⟩ : ByteArray) (0 : Int) w0) ∧
 ∀ s0 : ByteArray, ∀ i1 : Int, ∀ w1 : World, Go.Sx.Fr S w0 w1 → I0 s0 i1 w1 → 
  ((i1 < (48 : Int) →
  (∃ s2 : ByteArray, (binOp .add 9 (.string s0) (.string (⟨#[48]⟩ : ByteArray))).run Tryd.prog w1 = .ok (.string s2) w1 ∧
   (I0 s2 (IntKind.i64.wrap (i1 + (1 : Int))) w1 ∧ M0 s2 (IntKind.i64.wrap (i1 + (1 : Int))) w1 < M0 s0 i1 w1))) ∧
  ((48 : Int) ≤ i1 →
  (R (.returned (.string s0)) w1))))) :
    Calls Tryd.prog 50 #[] w0 R :=
  Go.Sx.fn_sound0 (P := Tryd.prog) (S := S) (w0 := w0) (R := R) (ws := []) (an := []) (f := 50) (n := 0) (xs := []) (e := []) rfl (by kernel_rfl) (Eq.mp (by kernel_rfl) h)


/-- tracery/tracerylaw23.shown: what is left of it. -/
theorem shown23_sx (R : Ending → World → Prop) (S : Nat → Prop) (w0 : World) (h :
 ∀ g0 : Nat, w0.heap.size ≤ g0 → (∀ w1 : World, Go.Sx.Fr S w0 w1 → Below w0.heap.size w0 w1 → w0.heap.size ≤ g0 → w1.heap[g0]? = some (.cells #[.int .i64 (11 : Int), .int .i64 (0 : Int), .int .i64 (0 : Int), .int .i64 (0 : Int), .slice none 0 0] 54 (0, 0)) → 
 Calls Tryd.prog 30 #[(.slice (some ⟨g0, 0, none⟩) 1 1)] w1 fun r w2 => ∃ s1 : ByteArray, ∃ i2 : Int, r = .returned (.tuple #[.string s1, .int .i64 i2]) ∧ (Go.Sx.Fr S w0 w2 ∧ Go.Sx.Mild [g0] w1 w2) ∧ 
 (
 Calls Tryd.prog 50 #[] w2 fun r w3 => ∃ s3 : ByteArray, r = .returned (.string s3) ∧ (Go.Sx.Fr S w0 w3 ∧ Go.Sx.Mild [g0] w2 w3) ∧ 
 (∃ s4 : ByteArray, (binOp .add 9 (.string s3) (.string (⟨#[10]⟩ : ByteArray))).run Tryd.prog w3 = .ok (.string s4) w3 ∧
 (((s1).toList = (s4).toList →
 (R (.returned (.bool (i2 == (0 : Int)))) w3)) ∧
 (¬ (s1).toList = (s4).toList →
 (R (.returned (.bool false)) w3))))))) :
    Calls Tryd.prog 23 #[] w0 R :=
  Go.Sx.fn_sound0 (P := Tryd.prog) (S := S) (w0 := w0) (R := R) (ws := []) (an := [⟨999999, [], [], 0⟩]) (f := 23) (n := 0) (xs := []) (e := []) rfl (by kernel_rfl) (Eq.mp (by kernel_rfl) h)


end Go.Proofs.YtfjenamomipmdaaDoor


/- Script: what is left of Take, Same and few. -/
set_option linter.unusedVariables false
namespace Go.Proofs.YtfjenamomipmdaaDoor
open Go Go.RowKit Go.Proofs Go.Trc
set_option maxRecDepth 100000
/-- tracery/script.Take: what is left of it. -/
theorem scTake_sx (R : Ending → World → Prop) (S : Nat → Prop) (w0 : World) (A0 : Option Addr) (n1 : Nat) (n2 : Nat) (h :
 ∀ g3 : Nat, w0.heap.size ≤ g3 → (((n1 : Int) < (32 : Int) →
 (∀ w1 : World, Go.Sx.Fr S w0 w1 → Below w0.heap.size w0 w1 → w0.heap.size ≤ g3 → w1.heap[g3]? = some (.cells #[.int .i64 (0 : Int), .int .i64 (0 : Int), .int .i64 (0 : Int), .int .i64 (0 : Int), .slice none 0 0] 54 (0, 0)) → R (.returned (.tuple #[.agg #[.int .i64 (0 : Int), .int .i64 (0 : Int), .int .i64 (0 : Int), .int .i64 (0 : Int), .slice none 0 0], .int .i64 (240 : Int)])) w1)) ∧
 ((32 : Int) ≤ (n1 : Int) →
 ∀ g4 : Nat, w0.heap.size ≤ g4 → ∀ g5 : Nat, w0.heap.size ≤ g5 → (∀ w1 : World, Go.Sx.Fr S w0 w1 → Below w0.heap.size w0 w1 → w0.heap.size ≤ g5 → w1.heap[g5]? = some (.cells #[.pointer (some ⟨g4, 0, none⟩), .pointer (some ⟨g4, 1, none⟩), .pointer (some ⟨g4, 2, none⟩), .pointer (some ⟨g4, 3, none⟩)] 98 (0, 0)) → w0.heap.size ≤ g4 → w1.heap[g4]? = some (.cells #[.int .i64 (0 : Int), .int .i64 (0 : Int), .int .i64 (0 : Int), .int .i64 (0 : Int), .slice none 0 0] 54 (0, 0)) → w0.heap.size ≤ g3 → w1.heap[g3]? = some (.cells #[.int .i64 (0 : Int), .int .i64 (0 : Int), .int .i64 (0 : Int), .int .i64 (0 : Int), .slice none 0 0] 54 (0, 0)) → 
  Calls Tryd.prog 51 #[(.slice A0 n1 n2)] w1 fun r w2 => ∃ i6 : Int, ∃ A7 : Option Addr, ∃ n8 : Nat, ∃ n9 : Nat, ∃ b10 : Bool, r = .returned (.tuple #[.int .i64 i6, .slice A7 n8 n9, .bool b10]) ∧ (Go.Sx.Fr S w0 w2 ∧ Go.Sx.Mild [g5, g4, g3] w1 w2) ∧ 
  (∀ w3 : World, Go.Sx.Fr S w0 w3 → Go.Sx.Fr (fun b => b ∈ [g4]) w2 w3 → 
  Calls Tryd.prog 51 #[(.slice A7 n8 n9)] w3 fun r w4 => ∃ i11 : Int, ∃ A12 : Option Addr, ∃ n13 : Nat, ∃ n14 : Nat, ∃ b15 : Bool, r = .returned (.tuple #[.int .i64 i11, .slice A12 n13 n14, .bool b15]) ∧ (Go.Sx.Fr S w0 w4 ∧ Go.Sx.Mild [g5, g4, g3] w3 w4) ∧ 
  (∀ w5 : World, Go.Sx.Fr S w0 w5 → Go.Sx.Fr (fun b => b ∈ [g4]) w4 w5 → 
  Calls Tryd.prog 51 #[(.slice A12 n13 n14)] w5 fun r w6 => ∃ i16 : Int, ∃ A17 : Option Addr, ∃ n18 : Nat, ∃ n19 : Nat, ∃ b20 : Bool, r = .returned (.tuple #[.int .i64 i16, .slice A17 n18 n19, .bool b20]) ∧ (Go.Sx.Fr S w0 w6 ∧ Go.Sx.Mild [g5, g4, g3] w5 w6) ∧ 
  (∀ w7 : World, Go.Sx.Fr S w0 w7 → Go.Sx.Fr (fun b => b ∈ [g4]) w6 w7 → 
  Calls Tryd.prog 51 #[(.slice A17 n18 n19)] w7 fun r w8 => ∃ i21 : Int, ∃ A22 : Option Addr, ∃ n23 : Nat, ∃ n24 : Nat, ∃ b25 : Bool, r = .returned (.tuple #[.int .i64 i21, .slice A22 n23 n24, .bool b25]) ∧ (Go.Sx.Fr S w0 w8 ∧ Go.Sx.Mild [g5, g4, g3] w7 w8) ∧ 
  (((n23 : Int) = (0 : Int) →
  (∀ w9 : World, Go.Sx.Fr S w0 w9 → Go.Sx.Fr (fun b => b ∈ [g3, g4]) w8 w9 → R (.returned (.tuple #[.agg #[.int .i64 i6, .int .i64 i11, .int .i64 i16, .int .i64 i21, .slice none 0 0], .int .i64 (0 : Int)])) w9)) ∧
  (¬ (n23 : Int) = (0 : Int) →
  (∀ w9 : World, Go.Sx.Fr S w0 w9 → Go.Sx.Fr (fun b => b ∈ [g4]) w8 w9 → 
   Calls Tryd.prog 21 #[(.slice A22 n23 n24)] w9 fun r w10 => ∃ A26 : Option Addr, ∃ n27 : Nat, ∃ n28 : Nat, ∃ i29 : Int, r = .returned (.tuple #[.agg #[.slice A26 n27 n28], .int .i64 i29]) ∧ (Go.Sx.Fr S w0 w10 ∧ Go.Sx.Mild [g5, g4, g3] w9 w10) ∧ 
   ∀ g30 : Nat, w0.heap.size ≤ g30 → ((¬ i29 = (0 : Int) →
   (∀ w11 : World, Go.Sx.Fr S w0 w11 → Go.Sx.Fr (fun b => b ∈ [g3]) w10 w11 → w10.heap.size ≤ g30 → w11.heap[g30]? = some (.cells #[.slice A26 n27 n28] 25 (0, 0)) → R (.returned (.tuple #[.agg #[.int .i64 (0 : Int), .int .i64 (0 : Int), .int .i64 (0 : Int), .int .i64 (0 : Int), .slice none 0 0], .int .i64 (240 : Int)])) w11)) ∧
   (i29 = (0 : Int) →
   (∀ w11 : World, Go.Sx.Fr S w0 w11 → Go.Sx.Fr (fun b => b ∈ [g3, g4]) w10 w11 → w10.heap.size ≤ g30 → w11.heap[g30]? = some (.cells #[.slice A26 n27 n28] 25 (0, 0)) → R (.returned (.tuple #[.agg #[.int .i64 i6, .int .i64 i11, .int .i64 i16, .int .i64 i21, .slice A26 n27 n28], .int .i64 (0 : Int)])) w11))))))))))))) :
    Calls Tryd.prog 25 #[(.slice A0 n1 n2)] w0 R :=
  Go.Sx.fn_sound0 (P := Tryd.prog) (S := S) (w0 := w0) (R := R) (ws := []) (an := [⟨999999, [], [], 0⟩, ⟨5, [], [], 5⟩]) (f := 25) (n := 3) (xs := [.one (.slice (.var 0) (.var 1) (.var 2))]) (e := [.a A0, .n n1, .n n2]) rfl (by kernel_rfl) (Eq.mp (by kernel_rfl) h)


/-- tracery/traceryref23.Take: what is left of it. -/
theorem refScTake_sx (R : Ending → World → Prop) (S : Nat → Prop) (w0 : World) (A0 : Option Addr) (n1 : Nat) (n2 : Nat) (h :
 ∀ g3 : Nat, w0.heap.size ≤ g3 → (((n1 : Int) < (32 : Int) →
 (∀ w1 : World, Go.Sx.Fr S w0 w1 → Below w0.heap.size w0 w1 → w0.heap.size ≤ g3 → w1.heap[g3]? = some (.cells #[.int .i64 (0 : Int), .int .i64 (0 : Int), .int .i64 (0 : Int), .int .i64 (0 : Int), .slice none 0 0] 54 (0, 0)) → R (.returned (.tuple #[.agg #[.int .i64 (0 : Int), .int .i64 (0 : Int), .int .i64 (0 : Int), .int .i64 (0 : Int), .slice none 0 0], .int .i64 (240 : Int)])) w1)) ∧
 ((32 : Int) ≤ (n1 : Int) →
 ∀ g4 : Nat, w0.heap.size ≤ g4 → (∀ w1 : World, Go.Sx.Fr S w0 w1 → Below w0.heap.size w0 w1 → w0.heap.size ≤ g4 → w1.heap[g4]? = some (.cells #[.int .i64 (0 : Int), .int .i64 (0 : Int), .int .i64 (0 : Int), .int .i64 (0 : Int), .slice none 0 0] 54 (0, 0)) → w0.heap.size ≤ g3 → w1.heap[g3]? = some (.cells #[.int .i64 (0 : Int), .int .i64 (0 : Int), .int .i64 (0 : Int), .int .i64 (0 : Int), .slice none 0 0] 54 (0, 0)) → 
  Calls Tryd.prog 52 #[(.slice A0 n1 n2)] w1 fun r w2 => ∃ i5 : Int, ∃ A6 : Option Addr, ∃ n7 : Nat, ∃ n8 : Nat, ∃ b9 : Bool, r = .returned (.tuple #[.int .i64 i5, .slice A6 n7 n8, .bool b9]) ∧ (Go.Sx.Fr S w0 w2 ∧ Go.Sx.Mild [g4, g3] w1 w2) ∧ 
  (∀ w3 : World, Go.Sx.Fr S w0 w3 → Go.Sx.Fr (fun b => b ∈ [g4]) w2 w3 → ∃ A10 : Option Addr, ∃ n11 : Nat, ∃ n12 : Nat, (Instr.sliceAt 22 (.slice A0 n1 n2) (some (.int .i64 (8 : Int))) none none).run Tryd.prog w3 = .ok (.slice A10 n11 n12) w3 ∧
  (
  Calls Tryd.prog 52 #[(.slice A10 n11 n12)] w3 fun r w4 => ∃ i13 : Int, ∃ A14 : Option Addr, ∃ n15 : Nat, ∃ n16 : Nat, ∃ b17 : Bool, r = .returned (.tuple #[.int .i64 i13, .slice A14 n15 n16, .bool b17]) ∧ (Go.Sx.Fr S w0 w4 ∧ Go.Sx.Mild [g4, g3] w3 w4) ∧ 
  (∀ w5 : World, Go.Sx.Fr S w0 w5 → Go.Sx.Fr (fun b => b ∈ [g4]) w4 w5 → ∃ A18 : Option Addr, ∃ n19 : Nat, ∃ n20 : Nat, (Instr.sliceAt 22 (.slice A0 n1 n2) (some (.int .i64 (16 : Int))) none none).run Tryd.prog w5 = .ok (.slice A18 n19 n20) w5 ∧
  (
  Calls Tryd.prog 52 #[(.slice A18 n19 n20)] w5 fun r w6 => ∃ i21 : Int, ∃ A22 : Option Addr, ∃ n23 : Nat, ∃ n24 : Nat, ∃ b25 : Bool, r = .returned (.tuple #[.int .i64 i21, .slice A22 n23 n24, .bool b25]) ∧ (Go.Sx.Fr S w0 w6 ∧ Go.Sx.Mild [g4, g3] w5 w6) ∧ 
  (∀ w7 : World, Go.Sx.Fr S w0 w7 → Go.Sx.Fr (fun b => b ∈ [g4]) w6 w7 → ∃ A26 : Option Addr, ∃ n27 : Nat, ∃ n28 : Nat, (Instr.sliceAt 22 (.slice A0 n1 n2) (some (.int .i64 (24 : Int))) none none).run Tryd.prog w7 = .ok (.slice A26 n27 n28) w7 ∧
  (
  Calls Tryd.prog 52 #[(.slice A26 n27 n28)] w7 fun r w8 => ∃ i29 : Int, ∃ A30 : Option Addr, ∃ n31 : Nat, ∃ n32 : Nat, ∃ b33 : Bool, r = .returned (.tuple #[.int .i64 i29, .slice A30 n31 n32, .bool b33]) ∧ (Go.Sx.Fr S w0 w8 ∧ Go.Sx.Mild [g4, g3] w7 w8) ∧ 
  (((n1 : Int) = (32 : Int) →
  (∀ w9 : World, Go.Sx.Fr S w0 w9 → Go.Sx.Fr (fun b => b ∈ [g3, g4]) w8 w9 → R (.returned (.tuple #[.agg #[.int .i64 i5, .int .i64 i13, .int .i64 i21, .int .i64 i29, .slice none 0 0], .int .i64 (0 : Int)])) w9)) ∧
  (¬ (n1 : Int) = (32 : Int) →
  (∀ w9 : World, Go.Sx.Fr S w0 w9 → Go.Sx.Fr (fun b => b ∈ [g4]) w8 w9 → ∃ A34 : Option Addr, ∃ n35 : Nat, ∃ n36 : Nat, (Instr.sliceAt 22 (.slice A0 n1 n2) (some (.int .i64 (32 : Int))) none none).run Tryd.prog w9 = .ok (.slice A34 n35 n36) w9 ∧
   (
   Calls Tryd.prog 22 #[(.slice A34 n35 n36)] w9 fun r w10 => ∃ A37 : Option Addr, ∃ n38 : Nat, ∃ n39 : Nat, ∃ i40 : Int, r = .returned (.tuple #[.agg #[.slice A37 n38 n39], .int .i64 i40]) ∧ (Go.Sx.Fr S w0 w10 ∧ Go.Sx.Mild [g4, g3] w9 w10) ∧ 
   ∀ g41 : Nat, w0.heap.size ≤ g41 → ((¬ i40 = (0 : Int) →
   (∀ w11 : World, Go.Sx.Fr S w0 w11 → Go.Sx.Fr (fun b => b ∈ [g3]) w10 w11 → w10.heap.size ≤ g41 → w11.heap[g41]? = some (.cells #[.slice A37 n38 n39] 25 (0, 0)) → R (.returned (.tuple #[.agg #[.int .i64 (0 : Int), .int .i64 (0 : Int), .int .i64 (0 : Int), .int .i64 (0 : Int), .slice none 0 0], .int .i64 (240 : Int)])) w11)) ∧
   (i40 = (0 : Int) →
   (∀ w11 : World, Go.Sx.Fr S w0 w11 → Go.Sx.Fr (fun b => b ∈ [g3, g4]) w10 w11 → w10.heap.size ≤ g41 → w11.heap[g41]? = some (.cells #[.slice A37 n38 n39] 25 (0, 0)) → R (.returned (.tuple #[.agg #[.int .i64 i5, .int .i64 i13, .int .i64 i21, .int .i64 i29, .slice A37 n38 n39], .int .i64 (0 : Int)])) w11))))))))))))))))) :
    Calls Tryd.prog 26 #[(.slice A0 n1 n2)] w0 R :=
  Go.Sx.fn_sound0 (P := Tryd.prog) (S := S) (w0 := w0) (R := R) (ws := []) (an := [⟨999999, [], [], 0⟩]) (f := 26) (n := 3) (xs := [.one (.slice (.var 0) (.var 1) (.var 2))]) (e := [.a A0, .n n1, .n n2]) rfl (by kernel_rfl) (Eq.mp (by kernel_rfl) h)


/-- tracery/traceryref23.Same: what is left of it. -/
theorem same23_sx (R : Ending → World → Prop) (S : Nat → Prop) (w0 : World) (A0 : Option Addr) (n1 : Nat) (n2 : Nat) (A3 : Option Addr) (n4 : Nat) (n5 : Nat) (h :
 ((¬ (n1 : Int) = (n4 : Int) →
 (R (.returned (.bool false)) w0)) ∧
 ((n1 : Int) = (n4 : Int) →
 (∃ (I0 : Bool → Int → World → Prop) (M0 : Bool → Int → World → Nat), (I0 false (0 : Int) w0) ∧
  ∀ b6 : Bool, ∀ i7 : Int, ∀ w1 : World, Go.Sx.Fr S w0 w1 → I0 b6 i7 w1 → 
   ((i7 < (n1 : Int) →
   (
    ((0 : Int) ≤ i7 ∧ i7 < (n1 : Int) ∧ ∃ p9 : Nat, ∃ o10 : Nat, A0 = some ⟨p9, o10, none⟩ ∧
    (∀ w2 : World, Go.Sx.Fr S w0 w2 → Below w1.heap.size w1 w2 → ∃ A11 : Option Addr, ∃ n12 : Nat, ∃ n13 : Nat, Go.Sx.CellsAt w2 p9 (o10 + (i7).toNat * 5 + 4) [.slice A11 n12 n13] ∧ (p9 < w1.heap.size ∧ p9 ∉ []) ∧ 
    ((0 : Int) ≤ i7 ∧ i7 < (n4 : Int) ∧ ∃ p14 : Nat, ∃ o15 : Nat, A3 = some ⟨p14, o15, none⟩ ∧
    (∃ A16 : Option Addr, ∃ n17 : Nat, ∃ n18 : Nat, Go.Sx.CellsAt w2 p14 (o15 + (i7).toNat * 5 + 4) [.slice A16 n17 n18] ∧ (p14 < w1.heap.size ∧ p14 ∉ []) ∧ 
    (
    Calls Tryd.prog 18 #[(.agg #[.slice A11 n12 n13]), (.agg #[.slice A16 n17 n18])] w2 fun r w3 => ∃ b19 : Bool, r = .returned (.bool b19) ∧ (Go.Sx.Fr S w0 w3 ∧ Go.Sx.Mild [] w2 w3) ∧ 
    (
    ((0 : Int) ≤ i7 ∧ i7 < (n1 : Int) ∧ ∃ p21 : Nat, ∃ o22 : Nat, A0 = some ⟨p21, o22, none⟩ ∧
    (∀ w4 : World, Go.Sx.Fr S w0 w4 → Below w3.heap.size w3 w4 → ∃ i23 : Int, Go.Sx.CellsAt w4 p21 (o22 + (i7).toNat * 5 + 0) [.int .i64 i23] ∧ (p21 < w3.heap.size ∧ p21 ∉ []) ∧ 
    ((0 : Int) ≤ i7 ∧ i7 < (n4 : Int) ∧ ∃ p24 : Nat, ∃ o25 : Nat, A3 = some ⟨p24, o25, none⟩ ∧
    (∃ i26 : Int, Go.Sx.CellsAt w4 p24 (o25 + (i7).toNat * 5 + 0) [.int .i64 i26] ∧ (p24 < w3.heap.size ∧ p24 ∉ []) ∧ 
    ((¬ i23 = i26 →
    (R (.returned (.bool false)) w4)) ∧
    (i23 = i26 →
    ((0 : Int) ≤ i7 ∧ i7 < (n1 : Int) ∧ ∃ p27 : Nat, ∃ o28 : Nat, A0 = some ⟨p27, o28, none⟩ ∧
     (∃ i29 : Int, Go.Sx.CellsAt w4 p27 (o28 + (i7).toNat * 5 + 1) [.int .i64 i29] ∧ (p27 < w3.heap.size ∧ p27 ∉ []) ∧ 
     ((0 : Int) ≤ i7 ∧ i7 < (n4 : Int) ∧ ∃ p30 : Nat, ∃ o31 : Nat, A3 = some ⟨p30, o31, none⟩ ∧
     (∃ i32 : Int, Go.Sx.CellsAt w4 p30 (o31 + (i7).toNat * 5 + 1) [.int .i64 i32] ∧ (p30 < w3.heap.size ∧ p30 ∉ []) ∧ 
     ((¬ i29 = i32 →
     (R (.returned (.bool false)) w4)) ∧
     (i29 = i32 →
     ((0 : Int) ≤ i7 ∧ i7 < (n1 : Int) ∧ ∃ p33 : Nat, ∃ o34 : Nat, A0 = some ⟨p33, o34, none⟩ ∧
      (∃ i35 : Int, Go.Sx.CellsAt w4 p33 (o34 + (i7).toNat * 5 + 2) [.int .i64 i35] ∧ (p33 < w3.heap.size ∧ p33 ∉ []) ∧ 
      ((0 : Int) ≤ i7 ∧ i7 < (n4 : Int) ∧ ∃ p36 : Nat, ∃ o37 : Nat, A3 = some ⟨p36, o37, none⟩ ∧
      (∃ i38 : Int, Go.Sx.CellsAt w4 p36 (o37 + (i7).toNat * 5 + 2) [.int .i64 i38] ∧ (p36 < w3.heap.size ∧ p36 ∉ []) ∧ 
      ((¬ i35 = i38 →
      (R (.returned (.bool false)) w4)) ∧
      (i35 = i38 →
      ((0 : Int) ≤ i7 ∧ i7 < (n1 : Int) ∧ ∃ p39 : Nat, ∃ o40 : Nat, A0 = some ⟨p39, o40, none⟩ ∧
       (∃ i41 : Int, Go.Sx.CellsAt w4 p39 (o40 + (i7).toNat * 5 + 3) [.int .i64 i41] ∧ (p39 < w3.heap.size ∧ p39 ∉ []) ∧ 
       ((0 : Int) ≤ i7 ∧ i7 < (n4 : Int) ∧ ∃ p42 : Nat, ∃ o43 : Nat, A3 = some ⟨p42, o43, none⟩ ∧
       (∃ i44 : Int, Go.Sx.CellsAt w4 p42 (o43 + (i7).toNat * 5 + 3) [.int .i64 i44] ∧ (p42 < w3.heap.size ∧ p42 ∉ []) ∧ 
       ((¬ i41 = i44 →
       (R (.returned (.bool false)) w4)) ∧
       (i41 = i44 →
       ((b19 = false →
        (R (.returned (.bool false)) w4)) ∧
        (b19 = true →
        (I0 b6 (IntKind.i64.wrap (i7 + (1 : Int))) w4 ∧ M0 b6 (IntKind.i64.wrap (i7 + (1 : Int))) w4 < M0 b6 i7 w1))))))))))))))))))))))))))))))))))) ∧
   ((n1 : Int) ≤ i7 →
   (R (.returned (.bool true)) w1))))))) :
    Calls Tryd.prog 27 #[(.slice A0 n1 n2), (.slice A3 n4 n5)] w0 R :=
  Go.Sx.fn_sound0 (P := Tryd.prog) (S := S) (w0 := w0) (R := R) (ws := []) (an := [⟨999999, [], [], 0⟩]) (f := 27) (n := 6) (xs := [.one (.slice (.var 0) (.var 1) (.var 2)), .one (.slice (.var 3) (.var 4) (.var 5))]) (e := [.a A0, .n n1, .n n2, .a A3, .n n4, .n n5]) rfl (by kernel_rfl) (Eq.mp (by kernel_rfl) h)


/-- tracery/tracerylaw23.few: what is left of it. -/
theorem few23_sx (R : Ending → World → Prop) (S : Nat → Prop) (w0 : World) (A0 : Option Addr) (n1 : Nat) (n2 : Nat) (h :
 ∀ g3 : Nat, w0.heap.size ≤ g3 → (∃ (I0 : Option Addr → Nat → Nat → Int → World → Prop) (M0 : Option Addr → Nat → Nat → Int → World → Nat), (∀ w1 : World, Go.Sx.Fr S w0 w1 → Below w0.heap.size w0 w1 → w0.heap.size ≤ g3 → w1.heap[g3]? = some (.cells #[] 54 (0, 0)) → I0 (some ⟨g3, 0, none⟩) 0 0 (0 : Int) w1) ∧
 ∀ A4 : Option Addr, ∀ n5 : Nat, ∀ n6 : Nat, ∀ i7 : Int, ∀ w2 : World, Go.Sx.Fr S w0 w2 → I0 A4 n5 n6 i7 w2 → 
  ((i7 < (n1 : Int) →
  ((i7 < (30 : Int) →
   ((0 : Int) ≤ i7 ∧ i7 < (n1 : Int) ∧ ∃ p8 : Nat, ∃ o9 : Nat, A0 = some ⟨p8, o9, none⟩ ∧
    (∃ i10 : Int, ∃ i11 : Int, ∃ i12 : Int, ∃ i13 : Int, ∃ A14 : Option Addr, ∃ n15 : Nat, ∃ n16 : Nat, Go.Sx.CellsAt w2 p8 (o9 + (i7).toNat * 5 + 0) [.int .i64 i10, .int .i64 i11, .int .i64 i12, .int .i64 i13, .slice A14 n15 n16] ∧ 
    ∀ g17 : Nat, w0.heap.size ≤ g17 → ∀ g18 : Nat, w0.heap.size ≤ g18 → (∃ (I1 : Int → Option Addr → Nat → Nat → World → Prop) (M1 : Int → Option Addr → Nat → Nat → World → Nat), (∀ w3 : World, Go.Sx.Fr S w0 w3 → Below w2.heap.size w2 w3 → w2.heap.size ≤ g18 → w3.heap[g18]? = some (.cells #[.slice none 0 0] 25 (0, 0)) → w2.heap.size ≤ g17 → w3.heap[g17]? = some (.cells #[.int .i64 i10, .int .i64 i11, .int .i64 i12, .int .i64 i13, .slice A14 n15 n16] 54 (0, 0)) → I1 (0 : Int) none 0 0 w3) ∧
    ∀ i19 : Int, ∀ A20 : Option Addr, ∀ n21 : Nat, ∀ n22 : Nat, ∀ w4 : World, Go.Sx.Fr S w0 w4 → I1 i19 A20 n21 n22 w4 → w4.heap[g18]? = some (.cells #[.slice A20 n21 n22] 25 (0, 0)) → 
     ((i19 < (n15 : Int) →
     ((i19 < (8 : Int) →
      ((0 : Int) ≤ i19 ∧ i19 < (n15 : Int) ∧ ∃ p23 : Nat, ∃ o24 : Nat, A14 = some ⟨p23, o24, none⟩ ∧
       (∃ i25 : Int, ∃ i26 : Int, ∃ i27 : Int, ∃ i28 : Int, ∃ i29 : Int, ∃ i30 : Int, ∃ i31 : Int, ∃ i32 : Int, ∃ i33 : Int, ∃ i34 : Int, ∃ i35 : Int, ∃ i36 : Int, ∃ i37 : Int, ∃ i38 : Int, ∃ i39 : Int, ∃ i40 : Int, ∃ i41 : Int, ∃ b42 : Bool, ∃ s43 : ByteArray, ∃ i44 : Int, Go.Sx.CellsAt w4 p23 (o24 + (i19).toNat * 20 + 0) [.int .i64 i25, .int .i64 i26, .int .i64 i27, .int .i64 i28, .int .i64 i29, .int .i64 i30, .int .i64 i31, .int .i64 i32, .int .i64 i33, .int .i64 i34, .int .i64 i35, .int .i64 i36, .int .i64 i37, .int .i64 i38, .int .i64 i39, .int .i64 i40, .int .i64 i41, .bool b42, .string s43, .int .i64 i44] ∧ 
       ∀ g45 : Nat, w0.heap.size ≤ g45 → (((100 : Int) < ((s43).size : Int) →
       (∀ w5 : World, Go.Sx.Fr S w0 w5 → Below w4.heap.size w4 w5 → w4.heap.size ≤ g45 → w5.heap[g45]? = some (.cells #[.int .i64 i25, .int .i64 i26, .int .i64 i27, .int .i64 i28, .int .i64 i29, .int .i64 i30, .int .i64 i31, .int .i64 i32, .int .i64 i33, .int .i64 i34, .int .i64 i35, .int .i64 i36, .int .i64 i37, .int .i64 i38, .int .i64 i39, .int .i64 i40, .int .i64 i41, .bool b42, .string s43, .int .i64 i44] 39 (0, 0)) → ∃ s46 : ByteArray, (Instr.sliceAt 9 (.string s43) none (some (.int .i64 (100 : Int))) none).run Tryd.prog w5 = .ok (.string s46) w5 ∧
        ∀ g47 : Nat, w0.heap.size ≤ g47 → (∀ w6 : World, Go.Sx.Fr S w0 w6 → Go.Sx.Fr (fun b => b ∈ [g45]) w5 w6 → w5.heap.size ≤ g47 → w6.heap[g47]? = some (.cells #[.int .i64 i25, .int .i64 i26, .int .i64 i27, .int .i64 i28, .int .i64 i29, .int .i64 i30, .int .i64 i31, .int .i64 i32, .int .i64 i33, .int .i64 i34, .int .i64 i35, .int .i64 i36, .int .i64 i37, .int .i64 i38, .int .i64 i39, .int .i64 i40, .int .i64 i41, .bool b42, .string s46, .int .i64 i44] 39 (0, 0)) → 
        ∃ w7 : World, ∃ A48 : Option Addr, ∃ n49 : Nat, ∃ n50 : Nat, (Builtin.append_ #[23, 23] 23 #[(.slice A20 n21 n22), (.slice (some ⟨g47, 0, none⟩) 1 1)]).run Tryd.prog w6 = .ok (.slice A48 n49 n50) w7 ∧ (Go.Sx.Fr S w0 w7 ∧ Go.Sx.Mild [g47, g45, g18, g17, g3] w6 w7) ∧ 
        (∀ w8 : World, Go.Sx.Fr S w0 w8 → Go.Sx.Fr (fun b => b ∈ [g18]) w7 w8 → I1 (IntKind.i64.wrap (i19 + (1 : Int))) A48 n49 n50 w8 ∧ M1 (IntKind.i64.wrap (i19 + (1 : Int))) A48 n49 n50 w8 < M1 i19 A20 n21 n22 w4)))) ∧
       (((s43).size : Int) ≤ (100 : Int) →
       ∀ g46 : Nat, w0.heap.size ≤ g46 → (∀ w5 : World, Go.Sx.Fr S w0 w5 → Below w4.heap.size w4 w5 → w4.heap.size ≤ g46 → w5.heap[g46]? = some (.cells #[.int .i64 i25, .int .i64 i26, .int .i64 i27, .int .i64 i28, .int .i64 i29, .int .i64 i30, .int .i64 i31, .int .i64 i32, .int .i64 i33, .int .i64 i34, .int .i64 i35, .int .i64 i36, .int .i64 i37, .int .i64 i38, .int .i64 i39, .int .i64 i40, .int .i64 i41, .bool b42, .string s43, .int .i64 i44] 39 (0, 0)) → w4.heap.size ≤ g45 → w5.heap[g45]? = some (.cells #[.int .i64 i25, .int .i64 i26, .int .i64 i27, .int .i64 i28, .int .i64 i29, .int .i64 i30, .int .i64 i31, .int .i64 i32, .int .i64 i33, .int .i64 i34, .int .i64 i35, .int .i64 i36, .int .i64 i37, .int .i64 i38, .int .i64 i39, .int .i64 i40, .int .i64 i41, .bool b42, .string s43, .int .i64 i44] 39 (0, 0)) → 
        ∃ w6 : World, ∃ A47 : Option Addr, ∃ n48 : Nat, ∃ n49 : Nat, (Builtin.append_ #[23, 23] 23 #[(.slice A20 n21 n22), (.slice (some ⟨g46, 0, none⟩) 1 1)]).run Tryd.prog w5 = .ok (.slice A47 n48 n49) w6 ∧ (Go.Sx.Fr S w0 w6 ∧ Go.Sx.Mild [g46, g45, g18, g17, g3] w5 w6) ∧ 
        (∀ w7 : World, Go.Sx.Fr S w0 w7 → Go.Sx.Fr (fun b => b ∈ [g18]) w6 w7 → I1 (IntKind.i64.wrap (i19 + (1 : Int))) A47 n48 n49 w7 ∧ M1 (IntKind.i64.wrap (i19 + (1 : Int))) A47 n48 n49 w7 < M1 i19 A20 n21 n22 w4))))))) ∧
      ((8 : Int) ≤ i19 →
      ∀ g23 : Nat, w0.heap.size ≤ g23 → (∀ w5 : World, Go.Sx.Fr S w0 w5 → Go.Sx.Fr (fun b => b ∈ [g17]) w4 w5 → w4.heap.size ≤ g23 → w5.heap[g23]? = some (.cells #[.int .i64 i10, .int .i64 i11, .int .i64 i12, .int .i64 i13, .slice A20 n21 n22] 54 (0, 0)) → 
       ∃ w6 : World, ∃ A24 : Option Addr, ∃ n25 : Nat, ∃ n26 : Nat, (Builtin.append_ #[51, 51] 51 #[(.slice A4 n5 n6), (.slice (some ⟨g23, 0, none⟩) 1 1)]).run Tryd.prog w5 = .ok (.slice A24 n25 n26) w6 ∧ (Go.Sx.Fr S w0 w6 ∧ Go.Sx.Mild [g23, g18, g17, g3] w5 w6) ∧ 
       (I0 A24 n25 n26 (IntKind.i64.wrap (i7 + (1 : Int))) w6 ∧ M0 A24 n25 n26 (IntKind.i64.wrap (i7 + (1 : Int))) w6 < M0 A4 n5 n6 i7 w2))))) ∧
     ((n15 : Int) ≤ i19 →
     ∀ g23 : Nat, w0.heap.size ≤ g23 → (∀ w5 : World, Go.Sx.Fr S w0 w5 → Go.Sx.Fr (fun b => b ∈ [g17]) w4 w5 → w4.heap.size ≤ g23 → w5.heap[g23]? = some (.cells #[.int .i64 i10, .int .i64 i11, .int .i64 i12, .int .i64 i13, .slice A20 n21 n22] 54 (0, 0)) → 
      ∃ w6 : World, ∃ A24 : Option Addr, ∃ n25 : Nat, ∃ n26 : Nat, (Builtin.append_ #[51, 51] 51 #[(.slice A4 n5 n6), (.slice (some ⟨g23, 0, none⟩) 1 1)]).run Tryd.prog w5 = .ok (.slice A24 n25 n26) w6 ∧ (Go.Sx.Fr S w0 w6 ∧ Go.Sx.Mild [g23, g18, g17, g3] w5 w6) ∧ 
      (I0 A24 n25 n26 (IntKind.i64.wrap (i7 + (1 : Int))) w6 ∧ M0 A24 n25 n26 (IntKind.i64.wrap (i7 + (1 : Int))) w6 < M0 A4 n5 n6 i7 w2)))))))) ∧
   ((30 : Int) ≤ i7 →
   (R (.returned (.slice A4 n5 n6)) w2)))) ∧
  ((n1 : Int) ≤ i7 →
  (R (.returned (.slice A4 n5 n6)) w2))))) :
    Calls Tryd.prog 24 #[(.slice A0 n1 n2)] w0 R :=
  Go.Sx.fn_sound0 (P := Tryd.prog) (S := S) (w0 := w0) (R := R) (ws := []) (an := [⟨999999, [], [], 0⟩, ⟨8, [], [(6, 0)], 0⟩]) (f := 24) (n := 3) (xs := [.one (.slice (.var 0) (.var 1) (.var 2))]) (e := [.a A0, .n n1, .n n2]) rfl (by kernel_rfl) (Eq.mp (by kernel_rfl) h)


end Go.Proofs.YtfjenamomipmdaaDoor
