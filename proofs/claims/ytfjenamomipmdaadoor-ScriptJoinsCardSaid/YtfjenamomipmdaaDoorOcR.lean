/- Opcode: what is left of the functions that take. -/
import Derived.Test.YtfjenamomipmdaaDoorProg
import Derived.Test.YtfjenamomipmdaaDoorSs
import Derived.KernelRfl
set_option linter.unusedVariables false
namespace Go.Proofs.YtfjenamomipmdaaDoor
open Go Go.RowKit Go.Proofs Go.Trc
set_option maxRecDepth 100000
/-- tracery/ident.Take: what is left of it. -/
theorem identTake_sx (R : Ending → World → Prop) (S : Nat → Prop) (w0 : World) (A0 : Option Addr) (n1 : Nat) (n2 : Nat) (h :
 ∀ g3 : Nat, w0.heap.size ≤ g3 → (((n1 : Int) < (4 : Int) →
 (∀ w1 : World, Go.Sx.Fr S w0 w1 → Below w0.heap.size w0 w1 → w0.heap.size ≤ g3 → w1.heap[g3]? = some (.cells #[.int .i64 (0 : Int), .int .i64 (0 : Int)] 33 (0, 0)) → R (.returned (.tuple #[.agg #[.int .i64 (0 : Int), .int .i64 (0 : Int)], .slice A0 n1 n2, .bool false])) w1)) ∧
 ((4 : Int) ≤ (n1 : Int) →
 ((0 : Int) ≤ (0 : Int) ∧ (0 : Int) < (n1 : Int) ∧ ∃ p4 : Nat, ∃ o5 : Nat, A0 = some ⟨p4, o5, none⟩ ∧
  (∀ w1 : World, Go.Sx.Fr S w0 w1 → Below w0.heap.size w0 w1 → w0.heap.size ≤ g3 → w1.heap[g3]? = some (.cells #[.int .i64 (0 : Int), .int .i64 (0 : Int)] 33 (0, 0)) → ∃ i6 : Int, Go.Sx.CellsAt w1 p4 (o5 + ((0 : Int)).toNat * 1 + 0) [.int .u8 i6] ∧ 
  ∀ g7 : Nat, w0.heap.size ≤ g7 → (∀ w2 : World, Go.Sx.Fr S w0 w2 → Below w1.heap.size w1 w2 → w1.heap.size ≤ g7 → w2.heap[g7]? = some (.cells #[.int .i64 (IntKind.i64.wrap i6), .int .i64 (0 : Int)] 33 (0, 0)) → ∃ A8 : Option Addr, ∃ n9 : Nat, ∃ n10 : Nat, (Instr.sliceAt 22 (.slice A0 n1 n2) (some (.int .i64 (1 : Int))) (some (.int .i64 (4 : Int))) none).run Tryd.prog w2 = .ok (.slice A8 n9 n10) w2 ∧
  (∃ (I0 : Int → Int → World → Prop) (M0 : Int → Int → World → Nat), (I0 (0 : Int) (0 : Int) w2) ∧
  ∀ i11 : Int, ∀ i12 : Int, ∀ w3 : World, Go.Sx.Fr S w0 w3 → I0 i11 i12 w3 → w3.heap[g7]? = some (.cells #[.int .i64 (IntKind.i64.wrap i6), .int .i64 i12] 33 (0, 0)) → 
   ((i11 < (n9 : Int) →
   ((0 : Int) ≤ i11 ∧ i11 < (n9 : Int) ∧ ∃ p13 : Nat, ∃ o14 : Nat, A8 = some ⟨p13, o14, none⟩ ∧
    (∃ i15 : Int, Go.Sx.CellsAt w3 p13 (o14 + (i11).toNat * 1 + 0) [.int .u8 i15] ∧ 
    (∀ w4 : World, Go.Sx.Fr S w0 w4 → Go.Sx.Fr (fun b => b ∈ [g7]) w3 w4 → I0 (IntKind.i64.wrap (i11 + (1 : Int))) (bits .or .i64 (IntKind.i64.wrap (i12 * 2 ^ 8)) (IntKind.i64.wrap i15)) w4 ∧ M0 (IntKind.i64.wrap (i11 + (1 : Int))) (bits .or .i64 (IntKind.i64.wrap (i12 * 2 ^ 8)) (IntKind.i64.wrap i15)) w4 < M0 i11 i12 w3)))) ∧
   ((n9 : Int) ≤ i11 →
   (
    Calls Tryd.prog 106 #[(.agg #[.int .i64 (IntKind.i64.wrap i6), .int .i64 i12])] w3 fun r w4 => ∃ b13 : Bool, r = .returned (.bool b13) ∧ (Go.Sx.Fr S w0 w4 ∧ Go.Sx.Mild [g7, g3] w3 w4) ∧ 
    ((b13 = false →
    (∀ w5 : World, Go.Sx.Fr S w0 w5 → Go.Sx.Fr (fun b => b ∈ [g3]) w4 w5 → R (.returned (.tuple #[.agg #[.int .i64 (0 : Int), .int .i64 (0 : Int)], .slice A0 n1 n2, .bool false])) w5)) ∧
    (b13 = true →
    (
     (((∀ w5 : World, Go.Sx.Fr S w0 w5 → Below w4.heap.size w4 w5 → ∃ A15 : Option Addr, ∃ n16 : Nat, ∃ n17 : Nat, (∀ w', Go.Sx.Keep w4.heap.size [] w5 w' → (Instr.sliceAt 22 (.slice A0 n1 n2) (some (.int .i64 (4 : Int))) none none).run Tryd.prog w' = .ok (.slice A15 n16 n17) w') ∧
     (∀ w6 : World, Go.Sx.Fr S w0 w6 → Go.Sx.Fr (fun b => b ∈ [g3]) w5 w6 → R (.returned (.tuple #[.agg #[.int .i64 (IntKind.i64.wrap i6), .int .i64 i12], .slice A15 n16 n17, .bool true])) w6))) ∧
     ((∀ w5 : World, Go.Sx.Fr S w0 w5 → Go.Sx.Fr (fun b => b ∈ [g3]) w4 w5 → ∃ A15 : Option Addr, ∃ n16 : Nat, ∃ n17 : Nat, (Instr.sliceAt 22 (.slice A0 n1 n2) (some (.int .i64 (4 : Int))) none none).run Tryd.prog w5 = .ok (.slice A15 n16 n17) w5 ∧
     (R (.returned (.tuple #[.agg #[.int .i64 (IntKind.i64.wrap i6), .int .i64 i12], .slice A15 n16 n17, .bool true])) w5))))))))))))))))) :
    Calls Tryd.prog 99 #[(.slice A0 n1 n2)] w0 R :=
  Go.Sx.fn_sound0 (P := Tryd.prog) (S := S) (w0 := w0) (R := R) (ws := []) (an := [⟨999999, [], [], 0⟩, ⟨5, [], [(5, 1)], 0⟩]) (f := 99) (n := 3) (xs := [.one (.slice (.var 0) (.var 1) (.var 2))]) (e := [.a A0, .n n1, .n n2]) rfl (by kernel_rfl) (Eq.mp (by kernel_rfl) h)


/-- tracery/traceryref01.Take: what is left of it. -/
theorem ref01Take_sx (R : Ending → World → Prop) (S : Nat → Prop) (w0 : World) (A0 : Option Addr) (n1 : Nat) (n2 : Nat) (h :
 ∀ g3 : Nat, w0.heap.size ≤ g3 → (((n1 : Int) < (4 : Int) →
 (∀ w1 : World, Go.Sx.Fr S w0 w1 → Below w0.heap.size w0 w1 → w0.heap.size ≤ g3 → w1.heap[g3]? = some (.cells #[.int .i64 (0 : Int), .int .i64 (0 : Int)] 33 (0, 0)) → R (.returned (.tuple #[.agg #[.int .i64 (0 : Int), .int .i64 (0 : Int)], .slice A0 n1 n2, .bool false])) w1)) ∧
 ((4 : Int) ≤ (n1 : Int) →
 (∀ w1 : World, Go.Sx.Fr S w0 w1 → Below w0.heap.size w0 w1 → w0.heap.size ≤ g3 → w1.heap[g3]? = some (.cells #[.int .i64 (0 : Int), .int .i64 (0 : Int)] 33 (0, 0)) → 
  ((0 : Int) ≤ (0 : Int) ∧ (0 : Int) < (n1 : Int) ∧ ∃ p5 : Nat, ∃ o6 : Nat, A0 = some ⟨p5, o6, none⟩ ∧
  (∀ w2 : World, Go.Sx.Fr S w0 w2 → Below w1.heap.size w1 w2 → ∃ i7 : Int, Go.Sx.CellsAt w2 p5 (o6 + ((0 : Int)).toNat * 1 + 0) [.int .u8 i7] ∧ (p5 < w1.heap.size ∧ p5 ∉ []) ∧ 
  ((0 : Int) ≤ (1 : Int) ∧ (1 : Int) < (n1 : Int) ∧ ∃ p8 : Nat, ∃ o9 : Nat, A0 = some ⟨p8, o9, none⟩ ∧
  (∃ i10 : Int, Go.Sx.CellsAt w2 p8 (o9 + ((1 : Int)).toNat * 1 + 0) [.int .u8 i10] ∧ (p8 < w1.heap.size ∧ p8 ∉ []) ∧ 
  ((0 : Int) ≤ (2 : Int) ∧ (2 : Int) < (n1 : Int) ∧ ∃ p11 : Nat, ∃ o12 : Nat, A0 = some ⟨p11, o12, none⟩ ∧
  (∃ i13 : Int, Go.Sx.CellsAt w2 p11 (o12 + ((2 : Int)).toNat * 1 + 0) [.int .u8 i13] ∧ (p11 < w1.heap.size ∧ p11 ∉ []) ∧ 
  ((0 : Int) ≤ (3 : Int) ∧ (3 : Int) < (n1 : Int) ∧ ∃ p14 : Nat, ∃ o15 : Nat, A0 = some ⟨p14, o15, none⟩ ∧
  (∃ i16 : Int, Go.Sx.CellsAt w2 p14 (o15 + ((3 : Int)).toNat * 1 + 0) [.int .u8 i16] ∧ (p14 < w1.heap.size ∧ p14 ∉ []) ∧ 
  ∀ g17 : Nat, w0.heap.size ≤ g17 → (∀ w3 : World, Go.Sx.Fr S w0 w3 → Below w2.heap.size w2 w3 → w2.heap.size ≤ g17 → w3.heap[g17]? = some (.cells #[.int .i64 (IntKind.i64.wrap i7), .int .i64 (IntKind.i64.wrap ((IntKind.i64.wrap ((IntKind.i64.wrap ((65536 : Int) * (IntKind.i64.wrap i10))) + (IntKind.i64.wrap ((256 : Int) * (IntKind.i64.wrap i13))))) + (IntKind.i64.wrap i16)))] 33 (0, 0)) → 
  Calls Tryd.prog 93 #[(.agg #[.int .i64 (IntKind.i64.wrap i7), .int .i64 (IntKind.i64.wrap ((IntKind.i64.wrap ((IntKind.i64.wrap ((65536 : Int) * (IntKind.i64.wrap i10))) + (IntKind.i64.wrap ((256 : Int) * (IntKind.i64.wrap i13))))) + (IntKind.i64.wrap i16)))])] w3 fun r w4 => ∃ b18 : Bool, r = .returned (.bool b18) ∧ (Go.Sx.Fr S w0 w4 ∧ Go.Sx.Mild [g17, g3] w3 w4) ∧ 
  ((b18 = false →
  (∀ w5 : World, Go.Sx.Fr S w0 w5 → Go.Sx.Fr (fun b => b ∈ [g3]) w4 w5 → R (.returned (.tuple #[.agg #[.int .i64 (0 : Int), .int .i64 (0 : Int)], .slice A0 n1 n2, .bool false])) w5)) ∧
  (b18 = true →
  (
   (((∀ w5 : World, Go.Sx.Fr S w0 w5 → Below w4.heap.size w4 w5 → ∃ A20 : Option Addr, ∃ n21 : Nat, ∃ n22 : Nat, (∀ w', Go.Sx.Keep w4.heap.size [] w5 w' → (Instr.sliceAt 22 (.slice A0 n1 n2) (some (.int .i64 (4 : Int))) none none).run Tryd.prog w' = .ok (.slice A20 n21 n22) w') ∧
   (∀ w6 : World, Go.Sx.Fr S w0 w6 → Go.Sx.Fr (fun b => b ∈ [g3]) w5 w6 → R (.returned (.tuple #[.agg #[.int .i64 (IntKind.i64.wrap i7), .int .i64 (IntKind.i64.wrap ((IntKind.i64.wrap ((IntKind.i64.wrap ((65536 : Int) * (IntKind.i64.wrap i10))) + (IntKind.i64.wrap ((256 : Int) * (IntKind.i64.wrap i13))))) + (IntKind.i64.wrap i16)))], .slice A20 n21 n22, .bool true])) w6))) ∧
   ((∀ w5 : World, Go.Sx.Fr S w0 w5 → Go.Sx.Fr (fun b => b ∈ [g3]) w4 w5 → ∃ A20 : Option Addr, ∃ n21 : Nat, ∃ n22 : Nat, (Instr.sliceAt 22 (.slice A0 n1 n2) (some (.int .i64 (4 : Int))) none none).run Tryd.prog w5 = .ok (.slice A20 n21 n22) w5 ∧
   (R (.returned (.tuple #[.agg #[.int .i64 (IntKind.i64.wrap i7), .int .i64 (IntKind.i64.wrap ((IntKind.i64.wrap ((IntKind.i64.wrap ((65536 : Int) * (IntKind.i64.wrap i10))) + (IntKind.i64.wrap ((256 : Int) * (IntKind.i64.wrap i13))))) + (IntKind.i64.wrap i16)))], .slice A20 n21 n22, .bool true])) w5)))))))))))))))))))) :
    Calls Tryd.prog 101 #[(.slice A0 n1 n2)] w0 R :=
  Go.Sx.fn_sound0 (P := Tryd.prog) (S := S) (w0 := w0) (R := R) (ws := []) (an := [⟨999999, [], [], 0⟩]) (f := 101) (n := 3) (xs := [.one (.slice (.var 0) (.var 1) (.var 2))]) (e := [.a A0, .n n1, .n n2]) rfl (by kernel_rfl) (Eq.mp (by kernel_rfl) h)


/-- tracery/pack.TakeNum: what is left of it. -/
theorem takeNum_sx (R : Ending → World → Prop) (S : Nat → Prop) (w0 : World) (A0 : Option Addr) (n1 : Nat) (n2 : Nat) (h :
 (((n1 : Int) < (8 : Int) →
 (R (.returned (.tuple #[.int .i64 (0 : Int), .slice A0 n1 n2, .bool false])) w0)) ∧
 ((8 : Int) ≤ (n1 : Int) →
 (∃ A3 : Option Addr, ∃ n4 : Nat, ∃ n5 : Nat, (Instr.sliceAt 22 (.slice A0 n1 n2) none (some (.int .i64 (8 : Int))) none).run Tryd.prog w0 = .ok (.slice A3 n4 n5) w0 ∧
  (∃ (I0 : Int → Int → World → Prop) (M0 : Int → Int → World → Nat), (I0 (0 : Int) (0 : Int) w0) ∧
  ∀ i6 : Int, ∀ i7 : Int, ∀ w1 : World, Go.Sx.Fr S w0 w1 → I0 i6 i7 w1 → 
   ((i7 < (n4 : Int) →
   ((0 : Int) ≤ i7 ∧ i7 < (n4 : Int) ∧ ∃ p8 : Nat, ∃ o9 : Nat, A3 = some ⟨p8, o9, none⟩ ∧
    (∃ i10 : Int, Go.Sx.CellsAt w1 p8 (o9 + (i7).toNat * 1 + 0) [.int .u8 i10] ∧ 
    (I0 (bits .or .u64 (IntKind.u64.wrap (i6 * 2 ^ 8)) (IntKind.u64.wrap i10)) (IntKind.i64.wrap (i7 + (1 : Int))) w1 ∧ M0 (bits .or .u64 (IntKind.u64.wrap (i6 * 2 ^ 8)) (IntKind.u64.wrap i10)) (IntKind.i64.wrap (i7 + (1 : Int))) w1 < M0 i6 i7 w1)))) ∧
   ((n4 : Int) ≤ i7 →
   (
    (∀ w2 : World, Go.Sx.Fr S w0 w2 → Below w1.heap.size w1 w2 → ∃ A9 : Option Addr, ∃ n10 : Nat, ∃ n11 : Nat, (∀ w', Go.Sx.Keep w1.heap.size [] w2 w' → (Instr.sliceAt 22 (.slice A0 n1 n2) (some (.int .i64 (8 : Int))) none none).run Tryd.prog w' = .ok (.slice A9 n10 n11) w') ∧
    (R (.returned (.tuple #[.int .i64 (IntKind.i64.wrap i6), .slice A9 n10 n11, .bool true])) w2)))))))))) :
    Calls Tryd.prog 51 #[(.slice A0 n1 n2)] w0 R :=
  Go.Sx.fn_sound0 (P := Tryd.prog) (S := S) (w0 := w0) (R := R) (ws := []) (an := [⟨999999, [], [], 0⟩]) (f := 51) (n := 3) (xs := [.one (.slice (.var 0) (.var 1) (.var 2))]) (e := [.a A0, .n n1, .n n2]) rfl (by kernel_rfl) (Eq.mp (by kernel_rfl) h)


/-- tracery/pack.counted: what is left of it. -/
theorem counted_sx (R : Ending → World → Prop) (S : Nat → Prop) (w0 : World) (A0 : Option Addr) (n1 : Nat) (n2 : Nat) (h :
 (((n1 : Int) = (0 : Int) →
 (R (.returned (.tuple #[.slice none 0 0, .slice A0 n1 n2, .bool false])) w0)) ∧
 (¬ (n1 : Int) = (0 : Int) →
 ((0 : Int) ≤ (0 : Int) ∧ (0 : Int) < (n1 : Int) ∧ ∃ p3 : Nat, ∃ o4 : Nat, A0 = some ⟨p3, o4, none⟩ ∧
  (∃ i5 : Int, Go.Sx.CellsAt w0 p3 (o4 + ((0 : Int)).toNat * 1 + 0) [.int .u8 i5] ∧ 
  (((IntKind.i64.wrap ((n1 : Int) - (1 : Int))) < (IntKind.i64.wrap i5) →
  (R (.returned (.tuple #[.slice none 0 0, .slice A0 n1 n2, .bool false])) w0)) ∧
  ((IntKind.i64.wrap i5) ≤ (IntKind.i64.wrap ((n1 : Int) - (1 : Int))) →
  ((0 : Int) ≤ (0 : Int) ∧ (0 : Int) < (n1 : Int) ∧ ∃ p6 : Nat, ∃ o7 : Nat, A0 = some ⟨p6, o7, none⟩ ∧
   (∃ i8 : Int, Go.Sx.CellsAt w0 p6 (o7 + ((0 : Int)).toNat * 1 + 0) [.int .u8 i8] ∧ 
   (
   (∀ w1 : World, Go.Sx.Fr S w0 w1 → Below w0.heap.size w0 w1 → ∃ A10 : Option Addr, ∃ n11 : Nat, ∃ n12 : Nat, (∀ w', Go.Sx.Keep w0.heap.size [] w1 w' → (Instr.sliceAt 22 (.slice A0 n1 n2) (some (.int .i64 (1 : Int))) (some (.int .i64 (IntKind.i64.wrap ((1 : Int) + (IntKind.i64.wrap i8))))) none).run Tryd.prog w' = .ok (.slice A10 n11 n12) w') ∧
   (∃ A13 : Option Addr, ∃ n14 : Nat, ∃ n15 : Nat, (∀ w', Go.Sx.Keep w0.heap.size [] w1 w' → (Instr.sliceAt 22 (.slice A0 n1 n2) (some (.int .i64 (IntKind.i64.wrap ((1 : Int) + (IntKind.i64.wrap i8))))) none none).run Tryd.prog w' = .ok (.slice A13 n14 n15) w') ∧
   (R (.returned (.tuple #[.slice A10 n11 n12, .slice A13 n14 n15, .bool true])) w1))))))))))))) :
    Calls Tryd.prog 100 #[(.slice A0 n1 n2)] w0 R :=
  Go.Sx.fn_sound0 (P := Tryd.prog) (S := S) (w0 := w0) (R := R) (ws := []) (an := [⟨999999, [], [], 0⟩]) (f := 100) (n := 3) (xs := [.one (.slice (.var 0) (.var 1) (.var 2))]) (e := [.a A0, .n n1, .n n2]) rfl (by kernel_rfl) (Eq.mp (by kernel_rfl) h)


/-- tracery/pack.TakeText: what is left of it. -/
theorem takeText_sx (R : Ending → World → Prop) (S : Nat → Prop) (w0 : World) (A0 : Option Addr) (n1 : Nat) (n2 : Nat) (h :
 (
 Calls Tryd.prog 100 #[(.slice A0 n1 n2)] w0 fun r w1 => ∃ A3 : Option Addr, ∃ n4 : Nat, ∃ n5 : Nat, ∃ A6 : Option Addr, ∃ n7 : Nat, ∃ n8 : Nat, ∃ b9 : Bool, r = .returned (.tuple #[.slice A3 n4 n5, .slice A6 n7 n8, .bool b9]) ∧ (Go.Sx.Fr S w0 w1 ∧ Go.Sx.Mild [] w0 w1) ∧ 
 (∃ s10 : ByteArray, (convert 22 9 (.slice A3 n4 n5)).run Tryd.prog w1 = .ok (.string s10) w1 ∧
 (R (.returned (.tuple #[.string s10, .slice A6 n7 n8, .bool b9])) w1)))) :
    Calls Tryd.prog 74 #[(.slice A0 n1 n2)] w0 R :=
  Go.Sx.fn_sound0 (P := Tryd.prog) (S := S) (w0 := w0) (R := R) (ws := []) (an := [⟨999999, [], [], 0⟩]) (f := 74) (n := 3) (xs := [.one (.slice (.var 0) (.var 1) (.var 2))]) (e := [.a A0, .n n1, .n n2]) rfl (by kernel_rfl) (Eq.mp (by kernel_rfl) h)


/-- tracery/traceryref08.TakeNum: what is left of it. -/
theorem ref08TakeNum_sx (R : Ending → World → Prop) (S : Nat → Prop) (w0 : World) (A0 : Option Addr) (n1 : Nat) (n2 : Nat) (h :
 (((n1 : Int) < (8 : Int) →
 (R (.returned (.tuple #[.int .i64 (0 : Int), .slice A0 n1 n2, .bool false])) w0)) ∧
 ((8 : Int) ≤ (n1 : Int) →
 (∃ (I0 : Int → Int → World → Prop) (M0 : Int → Int → World → Nat), (I0 (0 : Int) (0 : Int) w0) ∧
  ∀ i3 : Int, ∀ i4 : Int, ∀ w1 : World, Go.Sx.Fr S w0 w1 → I0 i3 i4 w1 → 
   ((i4 < (8 : Int) →
   ((0 : Int) ≤ i4 ∧ i4 < (n1 : Int) ∧ ∃ p5 : Nat, ∃ o6 : Nat, A0 = some ⟨p5, o6, none⟩ ∧
    (∃ i7 : Int, Go.Sx.CellsAt w1 p5 (o6 + (i4).toNat * 1 + 0) [.int .u8 i7] ∧ 
    (I0 (IntKind.u64.wrap ((IntKind.u64.wrap ((256 : Int) * i3)) + (IntKind.u64.wrap i7))) (IntKind.i64.wrap (i4 + (1 : Int))) w1 ∧ M0 (IntKind.u64.wrap ((IntKind.u64.wrap ((256 : Int) * i3)) + (IntKind.u64.wrap i7))) (IntKind.i64.wrap (i4 + (1 : Int))) w1 < M0 i3 i4 w1)))) ∧
   ((8 : Int) ≤ i4 →
   (
    (∀ w2 : World, Go.Sx.Fr S w0 w2 → Below w1.heap.size w1 w2 → ∃ A6 : Option Addr, ∃ n7 : Nat, ∃ n8 : Nat, (∀ w', Go.Sx.Keep w1.heap.size [] w2 w' → (Instr.sliceAt 22 (.slice A0 n1 n2) (some (.int .i64 (8 : Int))) none none).run Tryd.prog w' = .ok (.slice A6 n7 n8) w') ∧
    (R (.returned (.tuple #[.int .i64 (IntKind.i64.wrap i3), .slice A6 n7 n8, .bool true])) w2))))))))) :
    Calls Tryd.prog 52 #[(.slice A0 n1 n2)] w0 R :=
  Go.Sx.fn_sound0 (P := Tryd.prog) (S := S) (w0 := w0) (R := R) (ws := []) (an := [⟨999999, [], [], 0⟩]) (f := 52) (n := 3) (xs := [.one (.slice (.var 0) (.var 1) (.var 2))]) (e := [.a A0, .n n1, .n n2]) rfl (by kernel_rfl) (Eq.mp (by kernel_rfl) h)


/-- tracery/traceryref08.TakeText: what is left of it. -/
theorem ref08TakeText_sx (R : Ending → World → Prop) (S : Nat → Prop) (w0 : World) (A0 : Option Addr) (n1 : Nat) (n2 : Nat) (h :
 (((n1 : Int) < (1 : Int) →
 (R (.returned (.tuple #[.string (⟨#[]⟩ : ByteArray), .slice A0 n1 n2, .bool false])) w0)) ∧
 ((1 : Int) ≤ (n1 : Int) →
 ((0 : Int) ≤ (0 : Int) ∧ (0 : Int) < (n1 : Int) ∧ ∃ p3 : Nat, ∃ o4 : Nat, A0 = some ⟨p3, o4, none⟩ ∧
  (∃ i5 : Int, Go.Sx.CellsAt w0 p3 (o4 + ((0 : Int)).toNat * 1 + 0) [.int .u8 i5] ∧ 
  (((n1 : Int) < (IntKind.i64.wrap ((1 : Int) + (IntKind.i64.wrap i5))) →
  (R (.returned (.tuple #[.string (⟨#[]⟩ : ByteArray), .slice A0 n1 n2, .bool false])) w0)) ∧
  ((IntKind.i64.wrap ((1 : Int) + (IntKind.i64.wrap i5))) ≤ (n1 : Int) →
  ((0 : Int) ≤ (0 : Int) ∧ (0 : Int) < (n1 : Int) ∧ ∃ p6 : Nat, ∃ o7 : Nat, A0 = some ⟨p6, o7, none⟩ ∧
   (∃ i8 : Int, Go.Sx.CellsAt w0 p6 (o7 + ((0 : Int)).toNat * 1 + 0) [.int .u8 i8] ∧ 
   (
   (∀ w1 : World, Go.Sx.Fr S w0 w1 → Below w0.heap.size w0 w1 → ∃ A10 : Option Addr, ∃ n11 : Nat, ∃ n12 : Nat, (∀ w', Go.Sx.Keep w0.heap.size [] w1 w' → (Instr.sliceAt 22 (.slice A0 n1 n2) (some (.int .i64 (1 : Int))) (some (.int .i64 (IntKind.i64.wrap ((1 : Int) + (IntKind.i64.wrap i8))))) none).run Tryd.prog w' = .ok (.slice A10 n11 n12) w') ∧
   (∃ s13 : ByteArray, (∀ w', Go.Sx.Keep w0.heap.size [] w1 w' → (convert 22 9 (.slice A10 n11 n12)).run Tryd.prog w' = .ok (.string s13) w') ∧
   (∃ A14 : Option Addr, ∃ n15 : Nat, ∃ n16 : Nat, (∀ w', Go.Sx.Keep w0.heap.size [] w1 w' → (Instr.sliceAt 22 (.slice A0 n1 n2) (some (.int .i64 (IntKind.i64.wrap ((1 : Int) + (IntKind.i64.wrap i8))))) none none).run Tryd.prog w' = .ok (.slice A14 n15 n16) w') ∧
   (R (.returned (.tuple #[.string s13, .slice A14 n15 n16, .bool true])) w1)))))))))))))) :
    Calls Tryd.prog 77 #[(.slice A0 n1 n2)] w0 R :=
  Go.Sx.fn_sound0 (P := Tryd.prog) (S := S) (w0 := w0) (R := R) (ws := []) (an := [⟨999999, [], [], 0⟩]) (f := 77) (n := 3) (xs := [.one (.slice (.var 0) (.var 1) (.var 2))]) (e := [.a A0, .n n1, .n n2]) rfl (by kernel_rfl) (Eq.mp (by kernel_rfl) h)


/-- tracery/opcode.taken[int]: what is left of it. -/
theorem takenInt_sx (R : Ending → World → Prop) (S : Nat → Prop) (w0 : World) (v0 : Value) (v1 : Value) (h :
 (∃ p2 : Nat, ∃ o3 : Nat, v0 = .pointer (some ⟨p2, o3, none⟩) ∧
 (∃ A4 : Option Addr, ∃ n5 : Nat, ∃ n6 : Nat, Go.Sx.CellsAt w0 p2 (o3 + ((0 : Int)).toNat * 0 + 0) [.slice A4 n5 n6] ∧ 
 (
 ∃ f ar, (do Go.invoke (← Deferred.ofValue (v1) #[(.slice A4 n5 n6)]).target (← Deferred.ofValue (v1) #[(.slice A4 n5 n6)]).args : Sem Next).run Tryd.prog w0 = .ok (.enter f ar) w0 ∧ Calls Tryd.prog f ar w0 fun r w1 => ∃ i7 : Int, ∃ A8 : Option Addr, ∃ n9 : Nat, ∃ n10 : Nat, ∃ b11 : Bool, r = .returned (.tuple #[.int .i64 i7, .slice A8 n9 n10, .bool b11]) ∧ (Go.Sx.Fr S w0 w1 ∧ Go.Sx.Mild [] w0 w1) ∧ 
 (∃ p12 : Nat, ∃ o13 : Nat, v0 = .pointer (some ⟨p12, o13, none⟩) ∧
 (∃ b14 : Bool, Go.Sx.CellsAt w1 p12 (o13 + ((0 : Int)).toNat * 0 + 1) [.bool b14] ∧ 
 ((b14 = true →
 (∃ p15 : Nat, ∃ o16 : Nat, v0 = .pointer (some ⟨p15, o16, none⟩) ∧
  (
  ∃ w2 : World, (Instr.storeAt 22 (.pointer (some ⟨p15, o16 + ((0 : Int)).toNat * 0 + 0, none⟩)) (.slice A8 n9 n10)).run Tryd.prog w1 = .ok () w2 ∧ (Go.Sx.Fr S w0 w2 ∧ Go.Sx.Mild [] w1 w2) ∧ 
  (∃ p17 : Nat, ∃ o18 : Nat, v0 = .pointer (some ⟨p17, o18, none⟩) ∧
  (
  ∃ w3 : World, (Instr.storeAt 4 (.pointer (some ⟨p17, o18 + ((0 : Int)).toNat * 0 + 1, none⟩)) (.bool true)).run Tryd.prog w2 = .ok () w3 ∧ (Go.Sx.Fr S w0 w3 ∧ Go.Sx.Mild [] w2 w3) ∧ 
  (R (.returned (.int .i64 i7)) w3)))))) ∧
 (b14 = false →
 (∃ p15 : Nat, ∃ o16 : Nat, v0 = .pointer (some ⟨p15, o16, none⟩) ∧
  (
  ∃ w2 : World, (Instr.storeAt 22 (.pointer (some ⟨p15, o16 + ((0 : Int)).toNat * 0 + 0, none⟩)) (.slice A8 n9 n10)).run Tryd.prog w1 = .ok () w2 ∧ (Go.Sx.Fr S w0 w2 ∧ Go.Sx.Mild [] w1 w2) ∧ 
  (∃ p17 : Nat, ∃ o18 : Nat, v0 = .pointer (some ⟨p17, o18, none⟩) ∧
  (
  ∃ w3 : World, (Instr.storeAt 4 (.pointer (some ⟨p17, o18 + ((0 : Int)).toNat * 0 + 1, none⟩)) (.bool (!b11))).run Tryd.prog w2 = .ok () w3 ∧ (Go.Sx.Fr S w0 w3 ∧ Go.Sx.Mild [] w2 w3) ∧ 
  (R (.returned (.int .i64 i7)) w3))))))))))))) :
    Calls Tryd.prog 45 #[(v0), (v1)] w0 R :=
  Go.Sx.fn_sound0 (P := Tryd.prog) (S := S) (w0 := w0) (R := R) (ws := []) (an := [⟨999999, [], [], 0⟩]) (f := 45) (n := 2) (xs := [.one (.val 0), .one (.val 1)]) (e := [.v v0, .v v1]) rfl (by kernel_rfl) (Eq.mp (by kernel_rfl) h)


/-- tracery/opcode.taken[string]: what is left of it. -/
theorem takenStr_sx (R : Ending → World → Prop) (S : Nat → Prop) (w0 : World) (v0 : Value) (v1 : Value) (h :
 (∃ p2 : Nat, ∃ o3 : Nat, v0 = .pointer (some ⟨p2, o3, none⟩) ∧
 (∃ A4 : Option Addr, ∃ n5 : Nat, ∃ n6 : Nat, Go.Sx.CellsAt w0 p2 (o3 + ((0 : Int)).toNat * 0 + 0) [.slice A4 n5 n6] ∧ 
 (
 ∃ f ar, (do Go.invoke (← Deferred.ofValue (v1) #[(.slice A4 n5 n6)]).target (← Deferred.ofValue (v1) #[(.slice A4 n5 n6)]).args : Sem Next).run Tryd.prog w0 = .ok (.enter f ar) w0 ∧ Calls Tryd.prog f ar w0 fun r w1 => ∃ s7 : ByteArray, ∃ A8 : Option Addr, ∃ n9 : Nat, ∃ n10 : Nat, ∃ b11 : Bool, r = .returned (.tuple #[.string s7, .slice A8 n9 n10, .bool b11]) ∧ (Go.Sx.Fr S w0 w1 ∧ Go.Sx.Mild [] w0 w1) ∧ 
 (∃ p12 : Nat, ∃ o13 : Nat, v0 = .pointer (some ⟨p12, o13, none⟩) ∧
 (∃ b14 : Bool, Go.Sx.CellsAt w1 p12 (o13 + ((0 : Int)).toNat * 0 + 1) [.bool b14] ∧ 
 ((b14 = true →
 (∃ p15 : Nat, ∃ o16 : Nat, v0 = .pointer (some ⟨p15, o16, none⟩) ∧
  (
  ∃ w2 : World, (Instr.storeAt 22 (.pointer (some ⟨p15, o16 + ((0 : Int)).toNat * 0 + 0, none⟩)) (.slice A8 n9 n10)).run Tryd.prog w1 = .ok () w2 ∧ (Go.Sx.Fr S w0 w2 ∧ Go.Sx.Mild [] w1 w2) ∧ 
  (∃ p17 : Nat, ∃ o18 : Nat, v0 = .pointer (some ⟨p17, o18, none⟩) ∧
  (
  ∃ w3 : World, (Instr.storeAt 4 (.pointer (some ⟨p17, o18 + ((0 : Int)).toNat * 0 + 1, none⟩)) (.bool true)).run Tryd.prog w2 = .ok () w3 ∧ (Go.Sx.Fr S w0 w3 ∧ Go.Sx.Mild [] w2 w3) ∧ 
  (R (.returned (.string s7)) w3)))))) ∧
 (b14 = false →
 (∃ p15 : Nat, ∃ o16 : Nat, v0 = .pointer (some ⟨p15, o16, none⟩) ∧
  (
  ∃ w2 : World, (Instr.storeAt 22 (.pointer (some ⟨p15, o16 + ((0 : Int)).toNat * 0 + 0, none⟩)) (.slice A8 n9 n10)).run Tryd.prog w1 = .ok () w2 ∧ (Go.Sx.Fr S w0 w2 ∧ Go.Sx.Mild [] w1 w2) ∧ 
  (∃ p17 : Nat, ∃ o18 : Nat, v0 = .pointer (some ⟨p17, o18, none⟩) ∧
  (
  ∃ w3 : World, (Instr.storeAt 4 (.pointer (some ⟨p17, o18 + ((0 : Int)).toNat * 0 + 1, none⟩)) (.bool (!b11))).run Tryd.prog w2 = .ok () w3 ∧ (Go.Sx.Fr S w0 w3 ∧ Go.Sx.Mild [] w2 w3) ∧ 
  (R (.returned (.string s7)) w3))))))))))))) :
    Calls Tryd.prog 73 #[(v0), (v1)] w0 R :=
  Go.Sx.fn_sound0 (P := Tryd.prog) (S := S) (w0 := w0) (R := R) (ws := []) (an := [⟨999999, [], [], 0⟩]) (f := 73) (n := 2) (xs := [.one (.val 0), .one (.val 1)]) (e := [.v v0, .v v1]) rfl (by kernel_rfl) (Eq.mp (by kernel_rfl) h)


/-- tracery/opcode.taken[tracery/api.ID]: what is left of it. -/
theorem takenID_sx (R : Ending → World → Prop) (S : Nat → Prop) (w0 : World) (v0 : Value) (v1 : Value) (h :
 ∀ g2 : Nat, w0.heap.size ≤ g2 → (∃ p3 : Nat, ∃ o4 : Nat, v0 = .pointer (some ⟨p3, o4, none⟩) ∧
 (∀ w1 : World, Go.Sx.Fr S w0 w1 → Below w0.heap.size w0 w1 → w0.heap.size ≤ g2 → w1.heap[g2]? = some (.cells #[.int .i64 (0 : Int), .int .i64 (0 : Int)] 33 (0, 0)) → ∃ A5 : Option Addr, ∃ n6 : Nat, ∃ n7 : Nat, Go.Sx.CellsAt w1 p3 (o4 + ((0 : Int)).toNat * 0 + 0) [.slice A5 n6 n7] ∧ 
 (
 ∃ f ar, (do Go.invoke (← Deferred.ofValue (v1) #[(.slice A5 n6 n7)]).target (← Deferred.ofValue (v1) #[(.slice A5 n6 n7)]).args : Sem Next).run Tryd.prog w1 = .ok (.enter f ar) w1 ∧ Calls Tryd.prog f ar w1 fun r w2 => ∃ i8 : Int, ∃ i9 : Int, ∃ A10 : Option Addr, ∃ n11 : Nat, ∃ n12 : Nat, ∃ b13 : Bool, r = .returned (.tuple #[.agg #[.int .i64 i8, .int .i64 i9], .slice A10 n11 n12, .bool b13]) ∧ (Go.Sx.Fr S w0 w2 ∧ Go.Sx.Mild [g2] w1 w2) ∧ 
 ∀ g14 : Nat, w0.heap.size ≤ g14 → (∃ p15 : Nat, ∃ o16 : Nat, v0 = .pointer (some ⟨p15, o16, none⟩) ∧
 (∀ w3 : World, Go.Sx.Fr S w0 w3 → Below w2.heap.size w2 w3 → w2.heap.size ≤ g14 → w3.heap[g14]? = some (.cells #[.int .i64 i8, .int .i64 i9] 33 (0, 0)) → ∃ b17 : Bool, Go.Sx.CellsAt w3 p15 (o16 + ((0 : Int)).toNat * 0 + 1) [.bool b17] ∧ 
 ((b17 = true →
 (∃ p18 : Nat, ∃ o19 : Nat, v0 = .pointer (some ⟨p18, o19, none⟩) ∧
  (
  ∃ w4 : World, (Instr.storeAt 22 (.pointer (some ⟨p18, o19 + ((0 : Int)).toNat * 0 + 0, none⟩)) (.slice A10 n11 n12)).run Tryd.prog w3 = .ok () w4 ∧ (Go.Sx.Fr S w0 w4 ∧ Go.Sx.Mild [g14, g2] w3 w4) ∧ 
  (∃ p20 : Nat, ∃ o21 : Nat, v0 = .pointer (some ⟨p20, o21, none⟩) ∧
  (
  ∃ w5 : World, (Instr.storeAt 4 (.pointer (some ⟨p20, o21 + ((0 : Int)).toNat * 0 + 1, none⟩)) (.bool true)).run Tryd.prog w4 = .ok () w5 ∧ (Go.Sx.Fr S w0 w5 ∧ Go.Sx.Mild [g14, g2] w4 w5) ∧ 
  (∀ w6 : World, Go.Sx.Fr S w0 w6 → Go.Sx.Fr (fun b => b ∈ [g2]) w5 w6 → R (.returned (.agg #[.int .i64 i8, .int .i64 i9])) w6)))))) ∧
 (b17 = false →
 (∃ p18 : Nat, ∃ o19 : Nat, v0 = .pointer (some ⟨p18, o19, none⟩) ∧
  (
  ∃ w4 : World, (Instr.storeAt 22 (.pointer (some ⟨p18, o19 + ((0 : Int)).toNat * 0 + 0, none⟩)) (.slice A10 n11 n12)).run Tryd.prog w3 = .ok () w4 ∧ (Go.Sx.Fr S w0 w4 ∧ Go.Sx.Mild [g14, g2] w3 w4) ∧ 
  (∃ p20 : Nat, ∃ o21 : Nat, v0 = .pointer (some ⟨p20, o21, none⟩) ∧
  (
  ∃ w5 : World, (Instr.storeAt 4 (.pointer (some ⟨p20, o21 + ((0 : Int)).toNat * 0 + 1, none⟩)) (.bool (!b13))).run Tryd.prog w4 = .ok () w5 ∧ (Go.Sx.Fr S w0 w5 ∧ Go.Sx.Mild [g14, g2] w4 w5) ∧ 
  (∀ w6 : World, Go.Sx.Fr S w0 w6 → Go.Sx.Fr (fun b => b ∈ [g2]) w5 w6 → R (.returned (.agg #[.int .i64 i8, .int .i64 i9])) w6))))))))))))) :
    Calls Tryd.prog 98 #[(v0), (v1)] w0 R :=
  Go.Sx.fn_sound0 (P := Tryd.prog) (S := S) (w0 := w0) (R := R) (ws := []) (an := [⟨999999, [], [], 0⟩]) (f := 98) (n := 2) (xs := [.one (.val 0), .one (.val 1)]) (e := [.v v0, .v v1]) rfl (by kernel_rfl) (Eq.mp (by kernel_rfl) h)


/-- tracery/opcode.upto: what is left of it. -/
theorem upto_sx (R : Ending → World → Prop) (S : Nat → Prop) (w0 : World) (i0 : Int) (h :
 ∀ g1 : Nat, w0.heap.size ≤ g1 → (∀ w1 : World, Go.Sx.Fr S w0 w1 → Below w0.heap.size w0 w1 → w0.heap.size ≤ g1 → w1.heap[g1]? = some (.cells #[.int .u8 i0] 5 (0, 0)) → ∃ v2 : Value, (Instr.makeFunc (.func 70) #[] #[(.pointer (some ⟨g1, 0, none⟩))]).run Tryd.prog w1 = .ok (v2) w1 ∧
 (R (.returned (v2)) w1))) :
    Calls Tryd.prog 46 #[(.int .u8 i0)] w0 R :=
  Go.Sx.fn_sound0 (P := Tryd.prog) (S := S) (w0 := w0) (R := R) (ws := []) (an := [⟨999999, [], [], 0⟩]) (f := 46) (n := 1) (xs := [.one (.int .u8 (.var 0))]) (e := [.i i0]) rfl (by kernel_rfl) (Eq.mp (by kernel_rfl) h)


/-- tracery/opcode.upto$1: what is left of it. -/
theorem upto1_sx (R : Ending → World → Prop) (S : Nat → Prop) (w0 : World) (A0 : Option Addr) (n1 : Nat) (n2 : Nat) (v3 : Value) (h :
 (
 (((n1 : Int) = (0 : Int) →
 (∀ w1 : World, Go.Sx.Fr S w0 w1 → Below w0.heap.size w0 w1 → R (.returned (.tuple #[.int .i64 (0 : Int), .slice A0 n1 n2, .bool false])) w1)) ∧
 (¬ (n1 : Int) = (0 : Int) →
 ((0 : Int) ≤ (0 : Int) ∧ (0 : Int) < (n1 : Int) ∧ ∃ p5 : Nat, ∃ o6 : Nat, A0 = some ⟨p5, o6, none⟩ ∧
  (∀ w1 : World, Go.Sx.Fr S w0 w1 → Below w0.heap.size w0 w1 → ∃ i7 : Int, Go.Sx.CellsAt w1 p5 (o6 + ((0 : Int)).toNat * 1 + 0) [.int .u8 i7] ∧ (p5 < w0.heap.size ∧ p5 ∉ []) ∧ 
  (∃ i8 : Int, (∀ w', Go.Sx.Keep w0.heap.size [] w1 w' → (Instr.loadAt 5 (v3)).run Tryd.prog w' = .ok (.int .u8 i8) w') ∧
  ((i8 < i7 →
  (R (.returned (.tuple #[.int .i64 (0 : Int), .slice A0 n1 n2, .bool false])) w1)) ∧
  (i7 ≤ i8 →
  (
   ((0 : Int) ≤ (0 : Int) ∧ (0 : Int) < (n1 : Int) ∧ ∃ p10 : Nat, ∃ o11 : Nat, A0 = some ⟨p10, o11, none⟩ ∧
   (∀ w2 : World, Go.Sx.Fr S w0 w2 → Below w1.heap.size w1 w2 → ∃ i12 : Int, Go.Sx.CellsAt w2 p10 (o11 + ((0 : Int)).toNat * 1 + 0) [.int .u8 i12] ∧ (p10 < w1.heap.size ∧ p10 ∉ []) ∧ 
   (∃ A13 : Option Addr, ∃ n14 : Nat, ∃ n15 : Nat, (∀ w', Go.Sx.Keep w1.heap.size [] w2 w' → (Instr.sliceAt 22 (.slice A0 n1 n2) (some (.int .i64 (1 : Int))) none none).run Tryd.prog w' = .ok (.slice A13 n14 n15) w') ∧
   (R (.returned (.tuple #[.int .i64 (IntKind.i64.wrap i12), .slice A13 n14 n15, .bool true])) w2)))))))))))))) :
    Calls Tryd.prog 70 #[(.slice A0 n1 n2), (v3)] w0 R :=
  Go.Sx.fn_sound0 (P := Tryd.prog) (S := S) (w0 := w0) (R := R) (ws := []) (an := [⟨999999, [], [], 0⟩]) (f := 70) (n := 4) (xs := [.one (.slice (.var 0) (.var 1) (.var 2)), .one (.val 3)]) (e := [.a A0, .n n1, .n n2, .v v3]) rfl (by kernel_rfl) (Eq.mp (by kernel_rfl) h)


/-- (*tracery/opcode.reader).id: what is left of it. -/
theorem rid_sx (R : Ending → World → Prop) (S : Nat → Prop) (w0 : World) (v0 : Value) (h :
 ∀ g1 : Nat, w0.heap.size ≤ g1 → (∀ w1 : World, Go.Sx.Fr S w0 w1 → Below w0.heap.size w0 w1 → w0.heap.size ≤ g1 → w1.heap[g1]? = some (.cells #[.int .i64 (0 : Int), .int .i64 (0 : Int)] 33 (0, 0)) → 
 Calls Tryd.prog 98 #[(v0), (.func (.func 99) #[] #[])] w1 fun r w2 => ∃ i2 : Int, ∃ i3 : Int, r = .returned (.agg #[.int .i64 i2, .int .i64 i3]) ∧ (Go.Sx.Fr S w0 w2 ∧ Go.Sx.Mild [g1] w1 w2) ∧ 
 (∀ w3 : World, Go.Sx.Fr S w0 w3 → Go.Sx.Fr (fun b => b ∈ [g1]) w2 w3 → R (.returned (.agg #[.int .i64 i2, .int .i64 i3])) w3))) :
    Calls Tryd.prog 71 #[(v0)] w0 R :=
  Go.Sx.fn_sound0 (P := Tryd.prog) (S := S) (w0 := w0) (R := R) (ws := []) (an := [⟨999998, [], [], 0⟩, ⟨999999, [], [], 0⟩]) (f := 71) (n := 1) (xs := [.one (.val 0)]) (e := [.v v0]) rfl (by kernel_rfl) (Eq.mp (by kernel_rfl) h)


/-- (*tracery/opcode.reader).corner: what is left of it. -/
theorem rcorner_sx (R : Ending → World → Prop) (S : Nat → Prop) (w0 : World) (v0 : Value) (h :
 ∀ g1 : Nat, w0.heap.size ≤ g1 → (∀ w1 : World, Go.Sx.Fr S w0 w1 → Below w0.heap.size w0 w1 → w0.heap.size ≤ g1 → w1.heap[g1]? = some (.cells #[.int .i64 (0 : Int), .int .i64 (0 : Int), .int .i64 (0 : Int), .int .i64 (0 : Int), .int .i64 (0 : Int)] 37 (0, 0)) → 
 Calls Tryd.prog 71 #[(v0)] w1 fun r w2 => ∃ i2 : Int, ∃ i3 : Int, r = .returned (.agg #[.int .i64 i2, .int .i64 i3]) ∧ (Go.Sx.Fr S w0 w2 ∧ Go.Sx.Mild [g1] w1 w2) ∧ 
 ∀ g4 : Nat, w0.heap.size ≤ g4 → (∀ w3 : World, Go.Sx.Fr S w0 w3 → Below w2.heap.size w2 w3 → w2.heap.size ≤ g4 → w3.heap[g4]? = some (.cells #[.int .i64 i2, .int .i64 i3, .int .i64 (0 : Int), .int .i64 (0 : Int), .int .i64 (0 : Int)] 37 (0, 0)) → 
 Calls Tryd.prog 46 #[(.int .u8 (2 : Int))] w3 fun r w4 => ∃ v5 : Value, r = .returned (v5) ∧ (Go.Sx.Fr S w0 w4 ∧ Go.Sx.Mild [g4, g1] w3 w4) ∧ 
 (
 Calls Tryd.prog 45 #[(v0), (v5)] w4 fun r w5 => ∃ i6 : Int, r = .returned (.int .i64 i6) ∧ (Go.Sx.Fr S w0 w5 ∧ Go.Sx.Mild [g4, g1] w4 w5) ∧ 
 (((0 : Int) < i6 →
 (
  Calls Tryd.prog 71 #[(v0)] w5 fun r w6 => ∃ i7 : Int, ∃ i8 : Int, r = .returned (.agg #[.int .i64 i7, .int .i64 i8]) ∧ (Go.Sx.Fr S w0 w6 ∧ Go.Sx.Mild [g4, g1] w5 w6) ∧ 
  (∀ w7 : World, Go.Sx.Fr S w0 w7 → Go.Sx.Fr (fun b => b ∈ [g1, g4]) w6 w7 → R (.returned (.agg #[.int .i64 i2, .int .i64 i3, .int .i64 i7, .int .i64 i8, .int .i64 (IntKind.i64.wrap (i6 - (1 : Int)))])) w7))) ∧
 (i6 ≤ (0 : Int) →
 (∀ w6 : World, Go.Sx.Fr S w0 w6 → Go.Sx.Fr (fun b => b ∈ [g1]) w5 w6 → R (.returned (.agg #[.int .i64 i2, .int .i64 i3, .int .i64 (0 : Int), .int .i64 (0 : Int), .int .i64 (0 : Int)])) w6))))))) :
    Calls Tryd.prog 72 #[(v0)] w0 R :=
  Go.Sx.fn_sound0 (P := Tryd.prog) (S := S) (w0 := w0) (R := R) (ws := []) (an := [⟨999998, [], [], 0⟩, ⟨999999, [], [], 0⟩]) (f := 72) (n := 1) (xs := [.one (.val 0)]) (e := [.v v0]) rfl (by kernel_rfl) (Eq.mp (by kernel_rfl) h)


/-- (*tracery/opcode.reader).op: what is left of it. -/
theorem rop_sx (R : Ending → World → Prop) (S : Nat → Prop) (w0 : World) (v0 : Value) (h :
 ∀ g1 : Nat, w0.heap.size ≤ g1 → (∀ w1 : World, Go.Sx.Fr S w0 w1 → Below w0.heap.size w0 w1 → w0.heap.size ≤ g1 → w1.heap[g1]? = some (.cells #[.int .i64 (0 : Int), .int .i64 (0 : Int), .int .i64 (0 : Int), .int .i64 (0 : Int), .int .i64 (0 : Int), .int .i64 (0 : Int), .int .i64 (0 : Int), .int .i64 (0 : Int), .int .i64 (0 : Int), .int .i64 (0 : Int), .int .i64 (0 : Int), .int .i64 (0 : Int), .int .i64 (0 : Int), .int .i64 (0 : Int), .int .i64 (0 : Int), .int .i64 (0 : Int), .int .i64 (0 : Int), .bool false, .string (⟨#[]⟩ : ByteArray), .int .i64 (0 : Int)] 39 (0, 0)) → 
 Calls Tryd.prog 46 #[(.int .u8 (8 : Int))] w1 fun r w2 => ∃ v2 : Value, r = .returned (v2) ∧ (Go.Sx.Fr S w0 w2 ∧ Go.Sx.Mild [g1] w1 w2) ∧ 
 (
 Calls Tryd.prog 45 #[(v0), (v2)] w2 fun r w3 => ∃ i3 : Int, r = .returned (.int .i64 i3) ∧ (Go.Sx.Fr S w0 w3 ∧ Go.Sx.Mild [g1] w2 w3) ∧ 
 ∀ g4 : Nat, w0.heap.size ≤ g4 → (∀ w4 : World, Go.Sx.Fr S w0 w4 → Below w3.heap.size w3 w4 → w3.heap.size ≤ g4 → w4.heap[g4]? = some (.cells #[.int .i64 i3, .int .i64 (0 : Int), .int .i64 (0 : Int), .int .i64 (0 : Int), .int .i64 (0 : Int), .int .i64 (0 : Int), .int .i64 (0 : Int), .int .i64 (0 : Int), .int .i64 (0 : Int), .int .i64 (0 : Int), .int .i64 (0 : Int), .int .i64 (0 : Int), .int .i64 (0 : Int), .int .i64 (0 : Int), .int .i64 (0 : Int), .int .i64 (0 : Int), .int .i64 (0 : Int), .bool false, .string (⟨#[]⟩ : ByteArray), .int .i64 (0 : Int)] 39 (0, 0)) → 
 Calls Tryd.prog 71 #[(v0)] w4 fun r w5 => ∃ i5 : Int, ∃ i6 : Int, r = .returned (.agg #[.int .i64 i5, .int .i64 i6]) ∧ (Go.Sx.Fr S w0 w5 ∧ Go.Sx.Mild [g4, g1] w4 w5) ∧ 
 ((i3 = (3 : Int) →
 (∀ w6 : World, Go.Sx.Fr S w0 w6 → Go.Sx.Fr (fun b => b ∈ [g4]) w5 w6 → 
  Calls Tryd.prog 72 #[(v0)] w6 fun r w7 => ∃ i7 : Int, ∃ i8 : Int, ∃ i9 : Int, ∃ i10 : Int, ∃ i11 : Int, r = .returned (.agg #[.int .i64 i7, .int .i64 i8, .int .i64 i9, .int .i64 i10, .int .i64 i11]) ∧ (Go.Sx.Fr S w0 w7 ∧ Go.Sx.Mild [g4, g1] w6 w7) ∧ 
  (∀ w8 : World, Go.Sx.Fr S w0 w8 → Go.Sx.Fr (fun b => b ∈ [g4]) w7 w8 → 
  Calls Tryd.prog 72 #[(v0)] w8 fun r w9 => ∃ i12 : Int, ∃ i13 : Int, ∃ i14 : Int, ∃ i15 : Int, ∃ i16 : Int, r = .returned (.agg #[.int .i64 i12, .int .i64 i13, .int .i64 i14, .int .i64 i15, .int .i64 i16]) ∧ (Go.Sx.Fr S w0 w9 ∧ Go.Sx.Mild [g4, g1] w8 w9) ∧ 
  (∀ w10 : World, Go.Sx.Fr S w0 w10 → Go.Sx.Fr (fun b => b ∈ [g1, g4]) w9 w10 → R (.returned (.agg #[.int .i64 i3, .int .i64 i5, .int .i64 i6, .int .i64 (0 : Int), .int .i64 (0 : Int), .int .i64 (0 : Int), .int .i64 (0 : Int), .int .i64 i7, .int .i64 i8, .int .i64 i9, .int .i64 i10, .int .i64 i11, .int .i64 i12, .int .i64 i13, .int .i64 i14, .int .i64 i15, .int .i64 i16, .bool false, .string (⟨#[]⟩ : ByteArray), .int .i64 (0 : Int)])) w10)))) ∧
 (¬ i3 = (3 : Int) →
 ((i3 = (5 : Int) →
  (∀ w6 : World, Go.Sx.Fr S w0 w6 → Go.Sx.Fr (fun b => b ∈ [g4]) w5 w6 → 
   Calls Tryd.prog 71 #[(v0)] w6 fun r w7 => ∃ i7 : Int, ∃ i8 : Int, r = .returned (.agg #[.int .i64 i7, .int .i64 i8]) ∧ (Go.Sx.Fr S w0 w7 ∧ Go.Sx.Mild [g4, g1] w6 w7) ∧ 
   (∀ w8 : World, Go.Sx.Fr S w0 w8 → Go.Sx.Fr (fun b => b ∈ [g4]) w7 w8 → 
   Calls Tryd.prog 71 #[(v0)] w8 fun r w9 => ∃ i9 : Int, ∃ i10 : Int, r = .returned (.agg #[.int .i64 i9, .int .i64 i10]) ∧ (Go.Sx.Fr S w0 w9 ∧ Go.Sx.Mild [g4, g1] w8 w9) ∧ 
   (∀ w10 : World, Go.Sx.Fr S w0 w10 → Go.Sx.Fr (fun b => b ∈ [g4]) w9 w10 → 
   Calls Tryd.prog 46 #[(.int .u8 (3 : Int))] w10 fun r w11 => ∃ v11 : Value, r = .returned (v11) ∧ (Go.Sx.Fr S w0 w11 ∧ Go.Sx.Mild [g4, g1] w10 w11) ∧ 
   (
   Calls Tryd.prog 45 #[(v0), (v11)] w11 fun r w12 => ∃ i12 : Int, r = .returned (.int .i64 i12) ∧ (Go.Sx.Fr S w0 w12 ∧ Go.Sx.Mild [g4, g1] w11 w12) ∧ 
   (∀ w13 : World, Go.Sx.Fr S w0 w13 → Go.Sx.Fr (fun b => b ∈ [g1, g4]) w12 w13 → R (.returned (.agg #[.int .i64 i3, .int .i64 i5, .int .i64 i6, .int .i64 i7, .int .i64 i8, .int .i64 i9, .int .i64 i10, .int .i64 (0 : Int), .int .i64 (0 : Int), .int .i64 (0 : Int), .int .i64 (0 : Int), .int .i64 (0 : Int), .int .i64 (0 : Int), .int .i64 (0 : Int), .int .i64 (0 : Int), .int .i64 (0 : Int), .int .i64 (0 : Int), .bool false, .string (⟨#[]⟩ : ByteArray), .int .i64 i12])) w13)))))) ∧
  (¬ i3 = (5 : Int) →
  ((i3 = (6 : Int) →
   (∀ w6 : World, Go.Sx.Fr S w0 w6 → Go.Sx.Fr (fun b => b ∈ [g4]) w5 w6 → 
    Calls Tryd.prog 71 #[(v0)] w6 fun r w7 => ∃ i7 : Int, ∃ i8 : Int, r = .returned (.agg #[.int .i64 i7, .int .i64 i8]) ∧ (Go.Sx.Fr S w0 w7 ∧ Go.Sx.Mild [g4, g1] w6 w7) ∧ 
    (∀ w8 : World, Go.Sx.Fr S w0 w8 → Go.Sx.Fr (fun b => b ∈ [g1, g4]) w7 w8 → R (.returned (.agg #[.int .i64 i3, .int .i64 i5, .int .i64 i6, .int .i64 (0 : Int), .int .i64 (0 : Int), .int .i64 i7, .int .i64 i8, .int .i64 (0 : Int), .int .i64 (0 : Int), .int .i64 (0 : Int), .int .i64 (0 : Int), .int .i64 (0 : Int), .int .i64 (0 : Int), .int .i64 (0 : Int), .int .i64 (0 : Int), .int .i64 (0 : Int), .int .i64 (0 : Int), .bool false, .string (⟨#[]⟩ : ByteArray), .int .i64 (0 : Int)])) w8))) ∧
   (¬ i3 = (6 : Int) →
   ((i3 = (7 : Int) →
    (∀ w6 : World, Go.Sx.Fr S w0 w6 → Go.Sx.Fr (fun b => b ∈ [g4]) w5 w6 → 
     Calls Tryd.prog 46 #[(.int .u8 (1 : Int))] w6 fun r w7 => ∃ v7 : Value, r = .returned (v7) ∧ (Go.Sx.Fr S w0 w7 ∧ Go.Sx.Mild [g4, g1] w6 w7) ∧ 
     (
     Calls Tryd.prog 45 #[(v0), (v7)] w7 fun r w8 => ∃ i8 : Int, r = .returned (.int .i64 i8) ∧ (Go.Sx.Fr S w0 w8 ∧ Go.Sx.Mild [g4, g1] w7 w8) ∧ 
     (∀ w9 : World, Go.Sx.Fr S w0 w9 → Go.Sx.Fr (fun b => b ∈ [g4]) w8 w9 → 
     Calls Tryd.prog 73 #[(v0), (.func (.func 74) #[] #[])] w9 fun r w10 => ∃ s9 : ByteArray, r = .returned (.string s9) ∧ (Go.Sx.Fr S w0 w10 ∧ Go.Sx.Mild [g4, g1] w9 w10) ∧ 
     (∀ w11 : World, Go.Sx.Fr S w0 w11 → Go.Sx.Fr (fun b => b ∈ [g1, g4]) w10 w11 → R (.returned (.agg #[.int .i64 i3, .int .i64 i5, .int .i64 i6, .int .i64 (0 : Int), .int .i64 (0 : Int), .int .i64 (0 : Int), .int .i64 (0 : Int), .int .i64 (0 : Int), .int .i64 (0 : Int), .int .i64 (0 : Int), .int .i64 (0 : Int), .int .i64 (0 : Int), .int .i64 (0 : Int), .int .i64 (0 : Int), .int .i64 (0 : Int), .int .i64 (0 : Int), .int .i64 (0 : Int), .bool (i8 == (1 : Int)), .string s9, .int .i64 (0 : Int)])) w11))))) ∧
    (¬ i3 = (7 : Int) →
    ((i3 = (8 : Int) →
     (∀ w6 : World, Go.Sx.Fr S w0 w6 → Go.Sx.Fr (fun b => b ∈ [g4]) w5 w6 → 
      Calls Tryd.prog 46 #[(.int .u8 (1 : Int))] w6 fun r w7 => ∃ v7 : Value, r = .returned (v7) ∧ (Go.Sx.Fr S w0 w7 ∧ Go.Sx.Mild [g4, g1] w6 w7) ∧ 
      (
      Calls Tryd.prog 45 #[(v0), (v7)] w7 fun r w8 => ∃ i8 : Int, r = .returned (.int .i64 i8) ∧ (Go.Sx.Fr S w0 w8 ∧ Go.Sx.Mild [g4, g1] w7 w8) ∧ 
      (∀ w9 : World, Go.Sx.Fr S w0 w9 → Go.Sx.Fr (fun b => b ∈ [g4]) w8 w9 → 
      Calls Tryd.prog 45 #[(v0), (.func (.func 51) #[] #[])] w9 fun r w10 => ∃ i9 : Int, r = .returned (.int .i64 i9) ∧ (Go.Sx.Fr S w0 w10 ∧ Go.Sx.Mild [g4, g1] w9 w10) ∧ 
      (∀ w11 : World, Go.Sx.Fr S w0 w11 → Go.Sx.Fr (fun b => b ∈ [g1, g4]) w10 w11 → R (.returned (.agg #[.int .i64 i3, .int .i64 i5, .int .i64 i6, .int .i64 (0 : Int), .int .i64 (0 : Int), .int .i64 (0 : Int), .int .i64 (0 : Int), .int .i64 (0 : Int), .int .i64 (0 : Int), .int .i64 (0 : Int), .int .i64 (0 : Int), .int .i64 (0 : Int), .int .i64 (0 : Int), .int .i64 (0 : Int), .int .i64 (0 : Int), .int .i64 (0 : Int), .int .i64 (0 : Int), .bool (i8 == (1 : Int)), .string (⟨#[]⟩ : ByteArray), .int .i64 i9])) w11))))) ∧
     (¬ i3 = (8 : Int) →
     (∀ w6 : World, Go.Sx.Fr S w0 w6 → Go.Sx.Fr (fun b => b ∈ [g1, g4]) w5 w6 → R (.returned (.agg #[.int .i64 i3, .int .i64 i5, .int .i64 i6, .int .i64 (0 : Int), .int .i64 (0 : Int), .int .i64 (0 : Int), .int .i64 (0 : Int), .int .i64 (0 : Int), .int .i64 (0 : Int), .int .i64 (0 : Int), .int .i64 (0 : Int), .int .i64 (0 : Int), .int .i64 (0 : Int), .int .i64 (0 : Int), .int .i64 (0 : Int), .int .i64 (0 : Int), .int .i64 (0 : Int), .bool false, .string (⟨#[]⟩ : ByteArray), .int .i64 (0 : Int)])) w6))))))))))))))) :
    Calls Tryd.prog 47 #[(v0)] w0 R :=
  Go.Sx.fn_sound0 (P := Tryd.prog) (S := S) (w0 := w0) (R := R) (ws := []) (an := [⟨999998, [], [], 0⟩, ⟨999999, [], [], 0⟩]) (f := 47) (n := 1) (xs := [.one (.val 0)]) (e := [.v v0]) rfl (by kernel_rfl) (Eq.mp (by kernel_rfl) h)


/-- tracery/opcode.Take: what is left of it. -/
theorem opcodeTake_sx (R : Ending → World → Prop) (S : Nat → Prop) (w0 : World) (A0 : Option Addr) (n1 : Nat) (n2 : Nat) (h :
 ∀ g3 : Nat, w0.heap.size ≤ g3 → ∀ g4 : Nat, w0.heap.size ≤ g4 → ∀ g5 : Nat, w0.heap.size ≤ g5 → (∀ w1 : World, Go.Sx.Fr S w0 w1 → Below w0.heap.size w0 w1 → w0.heap.size ≤ g5 → w1.heap[g5]? = some (.cells #[.slice none 0 0] 25 (0, 0)) → w0.heap.size ≤ g4 → w1.heap[g4]? = some (.cells #[.slice A0 n1 n2, .bool false] 88 (0, 0)) → w0.heap.size ≤ g3 → w1.heap[g3]? = some (.cells #[.slice none 0 0] 25 (0, 0)) → 
 Calls Tryd.prog 46 #[(.int .u8 (6 : Int))] w1 fun r w2 => ∃ v6 : Value, r = .returned (v6) ∧ (Go.Sx.Fr S w0 w2 ∧ Go.Sx.Mild [g5, g4, g3] w1 w2) ∧ 
 (w2.heap[g4]? = some (.cells #[.slice A0 n1 n2, .bool false] 88 (0, 0)) → 
 Calls Tryd.prog 45 #[(.pointer (some ⟨g4, 0, none⟩)), (v6)] w2 fun r w3 => ∃ i7 : Int, ∃ A8 : Option Addr, ∃ n9 : Nat, ∃ n10 : Nat, ∃ b11 : Bool, r = .returned (.int .i64 i7) ∧ (Go.Sx.Fr S w0 w3 ∧ Go.Sx.Mild [g5, g3] w2 w3) ∧ w3.heap[g4]? = some (.cells #[.slice A8 n9 n10, .bool b11] 88 (0, 0)) ∧ 
 (∃ (I0 : Int → Option Addr → Nat → Nat → Bool → Option Addr → Nat → Nat → World → Prop) (M0 : Int → Option Addr → Nat → Nat → Bool → Option Addr → Nat → Nat → World → Nat), (I0 i7 A8 n9 n10 b11 none 0 0 w3) ∧
 ∀ i12 : Int, ∀ A13 : Option Addr, ∀ n14 : Nat, ∀ n15 : Nat, ∀ b16 : Bool, ∀ A17 : Option Addr, ∀ n18 : Nat, ∀ n19 : Nat, ∀ w4 : World, Go.Sx.Fr S w0 w4 → I0 i12 A13 n14 n15 b16 A17 n18 n19 w4 → w4.heap[g5]? = some (.cells #[.slice A17 n18 n19] 25 (0, 0)) → w4.heap[g4]? = some (.cells #[.slice A13 n14 n15, .bool b16] 88 (0, 0)) → 
  (((0 : Int) < i12 →
  ((b16 = false →
   (∃ T20 : List Nat, (∀ b ∈ T20, b < w4.heap.size ∧ b ∉ [g5, g4, g3]) ∧
    (∀ w5 : World, Go.Sx.Fr S w0 w5 → Below w4.heap.size w4 w5 → w5.heap[g4]? = some (.cells #[.slice A13 n14 n15, .bool b16] 88 (0, 0)) → 
    Calls Tryd.prog 47 #[(.pointer (some ⟨g4, 0, none⟩))] w5 fun r w6 => ∃ i21 : Int, ∃ i22 : Int, ∃ i23 : Int, ∃ i24 : Int, ∃ i25 : Int, ∃ i26 : Int, ∃ i27 : Int, ∃ i28 : Int, ∃ i29 : Int, ∃ i30 : Int, ∃ i31 : Int, ∃ i32 : Int, ∃ i33 : Int, ∃ i34 : Int, ∃ i35 : Int, ∃ i36 : Int, ∃ i37 : Int, ∃ b38 : Bool, ∃ s39 : ByteArray, ∃ i40 : Int, ∃ A41 : Option Addr, ∃ n42 : Nat, ∃ n43 : Nat, ∃ b44 : Bool, r = .returned (.agg #[.int .i64 i21, .int .i64 i22, .int .i64 i23, .int .i64 i24, .int .i64 i25, .int .i64 i26, .int .i64 i27, .int .i64 i28, .int .i64 i29, .int .i64 i30, .int .i64 i31, .int .i64 i32, .int .i64 i33, .int .i64 i34, .int .i64 i35, .int .i64 i36, .int .i64 i37, .bool b38, .string s39, .int .i64 i40]) ∧ (Go.Sx.Fr S w0 w6 ∧ Go.Sx.Mild [g5, g3] w5 w6) ∧ Go.Sx.Keep w4.heap.size (T20 ++ [g4]) w5 w6 ∧ w6.heap[g4]? = some (.cells #[.slice A41 n42 n43, .bool b44] 88 (0, 0)) ∧ 
    ∀ g45 : Nat, w0.heap.size ≤ g45 → (∀ w7 : World, Go.Sx.Fr S w0 w7 → Below w6.heap.size w6 w7 → w6.heap.size ≤ g45 → w7.heap[g45]? = some (.cells #[.int .i64 i21, .int .i64 i22, .int .i64 i23, .int .i64 i24, .int .i64 i25, .int .i64 i26, .int .i64 i27, .int .i64 i28, .int .i64 i29, .int .i64 i30, .int .i64 i31, .int .i64 i32, .int .i64 i33, .int .i64 i34, .int .i64 i35, .int .i64 i36, .int .i64 i37, .bool b38, .string s39, .int .i64 i40] 39 (0, 0)) → 
    ∃ w8 : World, ∃ A46 : Option Addr, ∃ n47 : Nat, ∃ n48 : Nat, (Builtin.append_ #[23, 23] 23 #[(.slice A17 n18 n19), (.slice (some ⟨g45, 0, none⟩) 1 1)]).run Tryd.prog w7 = .ok (.slice A46 n47 n48) w8 ∧ (Go.Sx.Fr S w0 w8 ∧ Go.Sx.Mild [g45, g5, g4, g3] w7 w8) ∧ 
    (∀ w9 : World, Go.Sx.Fr S w0 w9 → Go.Sx.Fr (fun b => b ∈ [g5]) w8 w9 → I0 (IntKind.i64.wrap (i12 - (1 : Int))) A41 n42 n43 b44 A46 n47 n48 w9 ∧ M0 (IntKind.i64.wrap (i12 - (1 : Int))) A41 n42 n43 b44 A46 n47 n48 w9 < M0 i12 A13 n14 n15 b16 A17 n18 n19 w4))))) ∧
   (b16 = true →
   (∀ w5 : World, Go.Sx.Fr S w0 w5 → Go.Sx.Fr (fun b => b ∈ [g3]) w4 w5 → R (.returned (.tuple #[.agg #[.slice none 0 0], .slice A0 n1 n2, .int .i64 (2 : Int)])) w5)))) ∧
  (i12 ≤ (0 : Int) →
  ((b16 = true →
   (∀ w5 : World, Go.Sx.Fr S w0 w5 → Go.Sx.Fr (fun b => b ∈ [g3]) w4 w5 → R (.returned (.tuple #[.agg #[.slice none 0 0], .slice A0 n1 n2, .int .i64 (2 : Int)])) w5)) ∧
   (b16 = false →
   (
    Calls Tryd.prog 34 #[(.agg #[.slice A17 n18 n19])] w4 fun r w5 => ∃ i20 : Int, r = .returned (.int .i64 i20) ∧ (Go.Sx.Fr S w0 w5 ∧ Go.Sx.Mild [g5, g4, g3] w4 w5) ∧ 
    ((¬ i20 = (0 : Int) →
    (∀ w6 : World, Go.Sx.Fr S w0 w6 → Go.Sx.Fr (fun b => b ∈ [g3]) w5 w6 → R (.returned (.tuple #[.agg #[.slice none 0 0], .slice A0 n1 n2, .int .i64 (2 : Int)])) w6)) ∧
    (i20 = (0 : Int) →
    (∃ T21 : List Nat, (∀ b ∈ T21, b < w5.heap.size ∧ b ∉ [g5, g4, g3]) ∧
     (∀ w6 : World, Go.Sx.Fr S w0 w6 → Go.Sx.Fr (fun b => b ∈ [g3]) w5 w6 → R (.returned (.tuple #[.agg #[.slice A17 n18 n19], .slice A13 n14 n15, .int .i64 (0 : Int)])) w6))))))))))))) :
    Calls Tryd.prog 19 #[(.slice A0 n1 n2)] w0 R :=
  Go.Sx.fn_sound0 (P := Tryd.prog) (S := S) (w0 := w0) (R := R) (ws := [45, 47]) (an := [⟨999998, [], [], 0⟩, ⟨999999, [], [], 0⟩, ⟨4, [], [(5, 0), (5, 1), (6, 0)], 0⟩]) (f := 19) (n := 3) (xs := [.one (.slice (.var 0) (.var 1) (.var 2))]) (e := [.a A0, .n n1, .n n2]) rfl (by kernel_rfl) (Eq.mp (by kernel_rfl) h)


/-- tracery/opcode.Whole: what is left of it. -/
theorem opcodeWhole_sx (R : Ending → World → Prop) (S : Nat → Prop) (w0 : World) (A0 : Option Addr) (n1 : Nat) (n2 : Nat) (h :
 ∀ g3 : Nat, w0.heap.size ≤ g3 → (∀ w1 : World, Go.Sx.Fr S w0 w1 → Below w0.heap.size w0 w1 → w0.heap.size ≤ g3 → w1.heap[g3]? = some (.cells #[.slice none 0 0] 25 (0, 0)) → 
 Calls Tryd.prog 19 #[(.slice A0 n1 n2)] w1 fun r w2 => ∃ A4 : Option Addr, ∃ n5 : Nat, ∃ n6 : Nat, ∃ A7 : Option Addr, ∃ n8 : Nat, ∃ n9 : Nat, ∃ i10 : Int, r = .returned (.tuple #[.agg #[.slice A4 n5 n6], .slice A7 n8 n9, .int .i64 i10]) ∧ (Go.Sx.Fr S w0 w2 ∧ Go.Sx.Mild [g3] w1 w2) ∧ 
 ∀ g11 : Nat, w0.heap.size ≤ g11 → ((¬ i10 = (0 : Int) →
 (∀ w3 : World, Go.Sx.Fr S w0 w3 → Go.Sx.Fr (fun b => b ∈ [g3]) w2 w3 → w2.heap.size ≤ g11 → w3.heap[g11]? = some (.cells #[.slice A4 n5 n6] 25 (0, 0)) → R (.returned (.tuple #[.agg #[.slice none 0 0], .int .i64 (2 : Int)])) w3)) ∧
 (i10 = (0 : Int) →
 (((0 : Int) < (n8 : Int) →
  (∀ w3 : World, Go.Sx.Fr S w0 w3 → Go.Sx.Fr (fun b => b ∈ [g3]) w2 w3 → w2.heap.size ≤ g11 → w3.heap[g11]? = some (.cells #[.slice A4 n5 n6] 25 (0, 0)) → R (.returned (.tuple #[.agg #[.slice none 0 0], .int .i64 (2 : Int)])) w3)) ∧
  ((n8 : Int) ≤ (0 : Int) →
  (∀ w3 : World, Go.Sx.Fr S w0 w3 → Go.Sx.Fr (fun b => b ∈ [g3]) w2 w3 → w2.heap.size ≤ g11 → w3.heap[g11]? = some (.cells #[.slice A4 n5 n6] 25 (0, 0)) → R (.returned (.tuple #[.agg #[.slice A4 n5 n6], .int .i64 (0 : Int)])) w3))))))) :
    Calls Tryd.prog 21 #[(.slice A0 n1 n2)] w0 R :=
  Go.Sx.fn_sound0 (P := Tryd.prog) (S := S) (w0 := w0) (R := R) (ws := []) (an := [⟨999998, [], [], 0⟩, ⟨999999, [], [], 0⟩]) (f := 21) (n := 3) (xs := [.one (.slice (.var 0) (.var 1) (.var 2))]) (e := [.a A0, .n n1, .n n2]) rfl (by kernel_rfl) (Eq.mp (by kernel_rfl) h)


/-- (*tracery/traceryref10.Reader).one: what is left of it. -/
theorem qone_sx (R : Ending → World → Prop) (S : Nat → Prop) (w0 : World) (v0 : Value) (h :
 (∃ p1 : Nat, ∃ o2 : Nat, v0 = .pointer (some ⟨p1, o2, none⟩) ∧
 (∃ A3 : Option Addr, ∃ n4 : Nat, ∃ n5 : Nat, Go.Sx.CellsAt w0 p1 (o2 + ((0 : Int)).toNat * 0 + 0) [.slice A3 n4 n5] ∧ 
 (((n4 : Int) = (0 : Int) →
 (∃ p6 : Nat, ∃ o7 : Nat, v0 = .pointer (some ⟨p6, o7, none⟩) ∧
  (
  ∃ w1 : World, (Instr.storeAt 4 (.pointer (some ⟨p6, o7 + ((0 : Int)).toNat * 0 + 1, none⟩)) (.bool true)).run Tryd.prog w0 = .ok () w1 ∧ (Go.Sx.Fr S w0 w1 ∧ Go.Sx.Mild [] w0 w1) ∧ 
  (R (.returned (.int .i64 (0 : Int))) w1)))) ∧
 (¬ (n4 : Int) = (0 : Int) →
 (∃ p6 : Nat, ∃ o7 : Nat, v0 = .pointer (some ⟨p6, o7, none⟩) ∧
  (∃ A8 : Option Addr, ∃ n9 : Nat, ∃ n10 : Nat, Go.Sx.CellsAt w0 p6 (o7 + ((0 : Int)).toNat * 0 + 0) [.slice A8 n9 n10] ∧ 
  ((0 : Int) ≤ (0 : Int) ∧ (0 : Int) < (n9 : Int) ∧ ∃ p11 : Nat, ∃ o12 : Nat, A8 = some ⟨p11, o12, none⟩ ∧
  (∃ i13 : Int, Go.Sx.CellsAt w0 p11 (o12 + ((0 : Int)).toNat * 1 + 0) [.int .u8 i13] ∧ 
  (∃ p14 : Nat, ∃ o15 : Nat, v0 = .pointer (some ⟨p14, o15, none⟩) ∧
  (∃ A16 : Option Addr, ∃ n17 : Nat, ∃ n18 : Nat, Go.Sx.CellsAt w0 p14 (o15 + ((0 : Int)).toNat * 0 + 0) [.slice A16 n17 n18] ∧ 
  (∃ A19 : Option Addr, ∃ n20 : Nat, ∃ n21 : Nat, (Instr.sliceAt 22 (.slice A16 n17 n18) (some (.int .i64 (1 : Int))) none none).run Tryd.prog w0 = .ok (.slice A19 n20 n21) w0 ∧
  (∃ p22 : Nat, ∃ o23 : Nat, v0 = .pointer (some ⟨p22, o23, none⟩) ∧
  (
  ∃ w1 : World, (Instr.storeAt 22 (.pointer (some ⟨p22, o23 + ((0 : Int)).toNat * 0 + 0, none⟩)) (.slice A19 n20 n21)).run Tryd.prog w0 = .ok () w1 ∧ (Go.Sx.Fr S w0 w1 ∧ Go.Sx.Mild [] w0 w1) ∧ 
  (R (.returned (.int .i64 (IntKind.i64.wrap i13))) w1))))))))))))))) :
    Calls Tryd.prog 48 #[(v0)] w0 R :=
  Go.Sx.fn_sound0 (P := Tryd.prog) (S := S) (w0 := w0) (R := R) (ws := []) (an := [⟨999998, [], [], 0⟩, ⟨999999, [], [], 0⟩]) (f := 48) (n := 1) (xs := [.one (.val 0)]) (e := [.v v0]) rfl (by kernel_rfl) (Eq.mp (by kernel_rfl) h)


/-- (*tracery/traceryref10.Reader).id: what is left of it. -/
theorem qid_sx (R : Ending → World → Prop) (S : Nat → Prop) (w0 : World) (v0 : Value) (h :
 ∀ g1 : Nat, w0.heap.size ≤ g1 → (∃ p2 : Nat, ∃ o3 : Nat, v0 = .pointer (some ⟨p2, o3, none⟩) ∧
 (∀ w1 : World, Go.Sx.Fr S w0 w1 → Below w0.heap.size w0 w1 → w0.heap.size ≤ g1 → w1.heap[g1]? = some (.cells #[.int .i64 (0 : Int), .int .i64 (0 : Int)] 33 (0, 0)) → ∃ A4 : Option Addr, ∃ n5 : Nat, ∃ n6 : Nat, Go.Sx.CellsAt w1 p2 (o3 + ((0 : Int)).toNat * 0 + 0) [.slice A4 n5 n6] ∧ 
 (
 Calls Tryd.prog 101 #[(.slice A4 n5 n6)] w1 fun r w2 => ∃ i7 : Int, ∃ i8 : Int, ∃ A9 : Option Addr, ∃ n10 : Nat, ∃ n11 : Nat, ∃ b12 : Bool, r = .returned (.tuple #[.agg #[.int .i64 i7, .int .i64 i8], .slice A9 n10 n11, .bool b12]) ∧ (Go.Sx.Fr S w0 w2 ∧ Go.Sx.Mild [g1] w1 w2) ∧ 
 ∀ g13 : Nat, w0.heap.size ≤ g13 → (∃ p14 : Nat, ∃ o15 : Nat, v0 = .pointer (some ⟨p14, o15, none⟩) ∧
 (∀ w3 : World, Go.Sx.Fr S w0 w3 → Below w2.heap.size w2 w3 → w2.heap.size ≤ g13 → w3.heap[g13]? = some (.cells #[.int .i64 i7, .int .i64 i8] 33 (0, 0)) → 
 ∃ w4 : World, (Instr.storeAt 22 (.pointer (some ⟨p14, o15 + ((0 : Int)).toNat * 0 + 0, none⟩)) (.slice A9 n10 n11)).run Tryd.prog w3 = .ok () w4 ∧ (Go.Sx.Fr S w0 w4 ∧ Go.Sx.Mild [g13, g1] w3 w4) ∧ 
 (∃ p16 : Nat, ∃ o17 : Nat, v0 = .pointer (some ⟨p16, o17, none⟩) ∧
 (∃ b18 : Bool, Go.Sx.CellsAt w4 p16 (o17 + ((0 : Int)).toNat * 0 + 1) [.bool b18] ∧ 
 ((b18 = true →
 (∃ p19 : Nat, ∃ o20 : Nat, v0 = .pointer (some ⟨p19, o20, none⟩) ∧
  (
  ∃ w5 : World, (Instr.storeAt 4 (.pointer (some ⟨p19, o20 + ((0 : Int)).toNat * 0 + 1, none⟩)) (.bool true)).run Tryd.prog w4 = .ok () w5 ∧ (Go.Sx.Fr S w0 w5 ∧ Go.Sx.Mild [g13, g1] w4 w5) ∧ 
  (∀ w6 : World, Go.Sx.Fr S w0 w6 → Go.Sx.Fr (fun b => b ∈ [g1]) w5 w6 → R (.returned (.agg #[.int .i64 i7, .int .i64 i8])) w6)))) ∧
 (b18 = false →
 (∃ p19 : Nat, ∃ o20 : Nat, v0 = .pointer (some ⟨p19, o20, none⟩) ∧
  (
  ∃ w5 : World, (Instr.storeAt 4 (.pointer (some ⟨p19, o20 + ((0 : Int)).toNat * 0 + 1, none⟩)) (.bool (!b12))).run Tryd.prog w4 = .ok () w5 ∧ (Go.Sx.Fr S w0 w5 ∧ Go.Sx.Mild [g13, g1] w4 w5) ∧ 
  (∀ w6 : World, Go.Sx.Fr S w0 w6 → Go.Sx.Fr (fun b => b ∈ [g1]) w5 w6 → R (.returned (.agg #[.int .i64 i7, .int .i64 i8])) w6))))))))))))) :
    Calls Tryd.prog 75 #[(v0)] w0 R :=
  Go.Sx.fn_sound0 (P := Tryd.prog) (S := S) (w0 := w0) (R := R) (ws := []) (an := [⟨999998, [], [], 0⟩, ⟨999999, [], [], 0⟩]) (f := 75) (n := 1) (xs := [.one (.val 0)]) (e := [.v v0]) rfl (by kernel_rfl) (Eq.mp (by kernel_rfl) h)


/-- (*tracery/traceryref10.Reader).corner: what is left of it. -/
theorem qcorner_sx (R : Ending → World → Prop) (S : Nat → Prop) (w0 : World) (v0 : Value) (h :
 ∀ g1 : Nat, w0.heap.size ≤ g1 → (∀ w1 : World, Go.Sx.Fr S w0 w1 → Below w0.heap.size w0 w1 → w0.heap.size ≤ g1 → w1.heap[g1]? = some (.cells #[.int .i64 (0 : Int), .int .i64 (0 : Int), .int .i64 (0 : Int), .int .i64 (0 : Int), .int .i64 (0 : Int)] 37 (0, 0)) → 
 Calls Tryd.prog 75 #[(v0)] w1 fun r w2 => ∃ i2 : Int, ∃ i3 : Int, r = .returned (.agg #[.int .i64 i2, .int .i64 i3]) ∧ (Go.Sx.Fr S w0 w2 ∧ Go.Sx.Mild [g1] w1 w2) ∧ 
 ∀ g4 : Nat, w0.heap.size ≤ g4 → (∀ w3 : World, Go.Sx.Fr S w0 w3 → Below w2.heap.size w2 w3 → w2.heap.size ≤ g4 → w3.heap[g4]? = some (.cells #[.int .i64 i2, .int .i64 i3, .int .i64 (0 : Int), .int .i64 (0 : Int), .int .i64 (0 : Int)] 37 (0, 0)) → 
 Calls Tryd.prog 48 #[(v0)] w3 fun r w4 => ∃ i5 : Int, r = .returned (.int .i64 i5) ∧ (Go.Sx.Fr S w0 w4 ∧ Go.Sx.Mild [g4, g1] w3 w4) ∧ 
 (((2 : Int) < i5 →
 (∃ p6 : Nat, ∃ o7 : Nat, v0 = .pointer (some ⟨p6, o7, none⟩) ∧
  (
  ∃ w5 : World, (Instr.storeAt 4 (.pointer (some ⟨p6, o7 + ((0 : Int)).toNat * 0 + 1, none⟩)) (.bool true)).run Tryd.prog w4 = .ok () w5 ∧ (Go.Sx.Fr S w0 w5 ∧ Go.Sx.Mild [g4, g1] w4 w5) ∧ 
  ((i5 = (1 : Int) →
  (
   Calls Tryd.prog 75 #[(v0)] w5 fun r w6 => ∃ i8 : Int, ∃ i9 : Int, r = .returned (.agg #[.int .i64 i8, .int .i64 i9]) ∧ (Go.Sx.Fr S w0 w6 ∧ Go.Sx.Mild [g4, g1] w5 w6) ∧ 
   (∀ w7 : World, Go.Sx.Fr S w0 w7 → Go.Sx.Fr (fun b => b ∈ [g1, g4]) w6 w7 → R (.returned (.agg #[.int .i64 i2, .int .i64 i3, .int .i64 i8, .int .i64 i9, .int .i64 (IntKind.i64.wrap (i5 - (1 : Int)))])) w7))) ∧
  (¬ i5 = (1 : Int) →
  ((i5 = (2 : Int) →
   (
    Calls Tryd.prog 75 #[(v0)] w5 fun r w6 => ∃ i8 : Int, ∃ i9 : Int, r = .returned (.agg #[.int .i64 i8, .int .i64 i9]) ∧ (Go.Sx.Fr S w0 w6 ∧ Go.Sx.Mild [g4, g1] w5 w6) ∧ 
    (∀ w7 : World, Go.Sx.Fr S w0 w7 → Go.Sx.Fr (fun b => b ∈ [g1, g4]) w6 w7 → R (.returned (.agg #[.int .i64 i2, .int .i64 i3, .int .i64 i8, .int .i64 i9, .int .i64 (IntKind.i64.wrap (i5 - (1 : Int)))])) w7))) ∧
   (¬ i5 = (2 : Int) →
   (∀ w6 : World, Go.Sx.Fr S w0 w6 → Go.Sx.Fr (fun b => b ∈ [g1]) w5 w6 → R (.returned (.agg #[.int .i64 i2, .int .i64 i3, .int .i64 (0 : Int), .int .i64 (0 : Int), .int .i64 (0 : Int)])) w6)))))))) ∧
 (i5 ≤ (2 : Int) →
 ((i5 = (1 : Int) →
  (
   Calls Tryd.prog 75 #[(v0)] w4 fun r w5 => ∃ i6 : Int, ∃ i7 : Int, r = .returned (.agg #[.int .i64 i6, .int .i64 i7]) ∧ (Go.Sx.Fr S w0 w5 ∧ Go.Sx.Mild [g4, g1] w4 w5) ∧ 
   (∀ w6 : World, Go.Sx.Fr S w0 w6 → Go.Sx.Fr (fun b => b ∈ [g1, g4]) w5 w6 → R (.returned (.agg #[.int .i64 i2, .int .i64 i3, .int .i64 i6, .int .i64 i7, .int .i64 (IntKind.i64.wrap (i5 - (1 : Int)))])) w6))) ∧
  (¬ i5 = (1 : Int) →
  ((i5 = (2 : Int) →
   (
    Calls Tryd.prog 75 #[(v0)] w4 fun r w5 => ∃ i6 : Int, ∃ i7 : Int, r = .returned (.agg #[.int .i64 i6, .int .i64 i7]) ∧ (Go.Sx.Fr S w0 w5 ∧ Go.Sx.Mild [g4, g1] w4 w5) ∧ 
    (∀ w6 : World, Go.Sx.Fr S w0 w6 → Go.Sx.Fr (fun b => b ∈ [g1, g4]) w5 w6 → R (.returned (.agg #[.int .i64 i2, .int .i64 i3, .int .i64 i6, .int .i64 i7, .int .i64 (IntKind.i64.wrap (i5 - (1 : Int)))])) w6))) ∧
   (¬ i5 = (2 : Int) →
   (∀ w5 : World, Go.Sx.Fr S w0 w5 → Go.Sx.Fr (fun b => b ∈ [g1]) w4 w5 → R (.returned (.agg #[.int .i64 i2, .int .i64 i3, .int .i64 (0 : Int), .int .i64 (0 : Int), .int .i64 (0 : Int)])) w5)))))))))) :
    Calls Tryd.prog 76 #[(v0)] w0 R :=
  Go.Sx.fn_sound0 (P := Tryd.prog) (S := S) (w0 := w0) (R := R) (ws := []) (an := [⟨999998, [], [], 0⟩, ⟨999999, [], [], 0⟩]) (f := 76) (n := 1) (xs := [.one (.val 0)]) (e := [.v v0]) rfl (by kernel_rfl) (Eq.mp (by kernel_rfl) h)


/-- (*tracery/traceryref10.Reader).op: what is left of it. -/
theorem qop_sx (R : Ending → World → Prop) (S : Nat → Prop) (w0 : World) (v0 : Value) (h :
 ∀ g1 : Nat, w0.heap.size ≤ g1 → (∀ w1 : World, Go.Sx.Fr S w0 w1 → Below w0.heap.size w0 w1 → w0.heap.size ≤ g1 → w1.heap[g1]? = some (.cells #[.int .i64 (0 : Int), .int .i64 (0 : Int), .int .i64 (0 : Int), .int .i64 (0 : Int), .int .i64 (0 : Int), .int .i64 (0 : Int), .int .i64 (0 : Int), .int .i64 (0 : Int), .int .i64 (0 : Int), .int .i64 (0 : Int), .int .i64 (0 : Int), .int .i64 (0 : Int), .int .i64 (0 : Int), .int .i64 (0 : Int), .int .i64 (0 : Int), .int .i64 (0 : Int), .int .i64 (0 : Int), .bool false, .string (⟨#[]⟩ : ByteArray), .int .i64 (0 : Int)] 39 (0, 0)) → 
 Calls Tryd.prog 48 #[(v0)] w1 fun r w2 => ∃ i2 : Int, r = .returned (.int .i64 i2) ∧ (Go.Sx.Fr S w0 w2 ∧ Go.Sx.Mild [g1] w1 w2) ∧ 
 ∀ g3 : Nat, w0.heap.size ≤ g3 → (∀ w3 : World, Go.Sx.Fr S w0 w3 → Below w2.heap.size w2 w3 → w2.heap.size ≤ g3 → w3.heap[g3]? = some (.cells #[.int .i64 i2, .int .i64 (0 : Int), .int .i64 (0 : Int), .int .i64 (0 : Int), .int .i64 (0 : Int), .int .i64 (0 : Int), .int .i64 (0 : Int), .int .i64 (0 : Int), .int .i64 (0 : Int), .int .i64 (0 : Int), .int .i64 (0 : Int), .int .i64 (0 : Int), .int .i64 (0 : Int), .int .i64 (0 : Int), .int .i64 (0 : Int), .int .i64 (0 : Int), .int .i64 (0 : Int), .bool false, .string (⟨#[]⟩ : ByteArray), .int .i64 (0 : Int)] 39 (0, 0)) → 
 Calls Tryd.prog 75 #[(v0)] w3 fun r w4 => ∃ i4 : Int, ∃ i5 : Int, r = .returned (.agg #[.int .i64 i4, .int .i64 i5]) ∧ (Go.Sx.Fr S w0 w4 ∧ Go.Sx.Mild [g3, g1] w3 w4) ∧ 
 ((i2 = (3 : Int) →
 (∀ w5 : World, Go.Sx.Fr S w0 w5 → Go.Sx.Fr (fun b => b ∈ [g3]) w4 w5 → 
  Calls Tryd.prog 76 #[(v0)] w5 fun r w6 => ∃ i6 : Int, ∃ i7 : Int, ∃ i8 : Int, ∃ i9 : Int, ∃ i10 : Int, r = .returned (.agg #[.int .i64 i6, .int .i64 i7, .int .i64 i8, .int .i64 i9, .int .i64 i10]) ∧ (Go.Sx.Fr S w0 w6 ∧ Go.Sx.Mild [g3, g1] w5 w6) ∧ 
  (∀ w7 : World, Go.Sx.Fr S w0 w7 → Go.Sx.Fr (fun b => b ∈ [g3]) w6 w7 → 
  Calls Tryd.prog 76 #[(v0)] w7 fun r w8 => ∃ i11 : Int, ∃ i12 : Int, ∃ i13 : Int, ∃ i14 : Int, ∃ i15 : Int, r = .returned (.agg #[.int .i64 i11, .int .i64 i12, .int .i64 i13, .int .i64 i14, .int .i64 i15]) ∧ (Go.Sx.Fr S w0 w8 ∧ Go.Sx.Mild [g3, g1] w7 w8) ∧ 
  (∀ w9 : World, Go.Sx.Fr S w0 w9 → Go.Sx.Fr (fun b => b ∈ [g1, g3]) w8 w9 → R (.returned (.agg #[.int .i64 i2, .int .i64 i4, .int .i64 i5, .int .i64 (0 : Int), .int .i64 (0 : Int), .int .i64 (0 : Int), .int .i64 (0 : Int), .int .i64 i6, .int .i64 i7, .int .i64 i8, .int .i64 i9, .int .i64 i10, .int .i64 i11, .int .i64 i12, .int .i64 i13, .int .i64 i14, .int .i64 i15, .bool false, .string (⟨#[]⟩ : ByteArray), .int .i64 (0 : Int)])) w9)))) ∧
 (¬ i2 = (3 : Int) →
 ((i2 = (5 : Int) →
  (∀ w5 : World, Go.Sx.Fr S w0 w5 → Go.Sx.Fr (fun b => b ∈ [g3]) w4 w5 → 
   Calls Tryd.prog 75 #[(v0)] w5 fun r w6 => ∃ i6 : Int, ∃ i7 : Int, r = .returned (.agg #[.int .i64 i6, .int .i64 i7]) ∧ (Go.Sx.Fr S w0 w6 ∧ Go.Sx.Mild [g3, g1] w5 w6) ∧ 
   (∀ w7 : World, Go.Sx.Fr S w0 w7 → Go.Sx.Fr (fun b => b ∈ [g3]) w6 w7 → 
   Calls Tryd.prog 75 #[(v0)] w7 fun r w8 => ∃ i8 : Int, ∃ i9 : Int, r = .returned (.agg #[.int .i64 i8, .int .i64 i9]) ∧ (Go.Sx.Fr S w0 w8 ∧ Go.Sx.Mild [g3, g1] w7 w8) ∧ 
   (∀ w9 : World, Go.Sx.Fr S w0 w9 → Go.Sx.Fr (fun b => b ∈ [g3]) w8 w9 → 
   Calls Tryd.prog 48 #[(v0)] w9 fun r w10 => ∃ i10 : Int, r = .returned (.int .i64 i10) ∧ (Go.Sx.Fr S w0 w10 ∧ Go.Sx.Mild [g3, g1] w9 w10) ∧ 
   (∀ w11 : World, Go.Sx.Fr S w0 w11 → Go.Sx.Fr (fun b => b ∈ [g1, g3]) w10 w11 → R (.returned (.agg #[.int .i64 i2, .int .i64 i4, .int .i64 i5, .int .i64 i6, .int .i64 i7, .int .i64 i8, .int .i64 i9, .int .i64 (0 : Int), .int .i64 (0 : Int), .int .i64 (0 : Int), .int .i64 (0 : Int), .int .i64 (0 : Int), .int .i64 (0 : Int), .int .i64 (0 : Int), .int .i64 (0 : Int), .int .i64 (0 : Int), .int .i64 (0 : Int), .bool false, .string (⟨#[]⟩ : ByteArray), .int .i64 i10])) w11))))) ∧
  (¬ i2 = (5 : Int) →
  ((i2 = (6 : Int) →
   (∀ w5 : World, Go.Sx.Fr S w0 w5 → Go.Sx.Fr (fun b => b ∈ [g3]) w4 w5 → 
    Calls Tryd.prog 75 #[(v0)] w5 fun r w6 => ∃ i6 : Int, ∃ i7 : Int, r = .returned (.agg #[.int .i64 i6, .int .i64 i7]) ∧ (Go.Sx.Fr S w0 w6 ∧ Go.Sx.Mild [g3, g1] w5 w6) ∧ 
    (∀ w7 : World, Go.Sx.Fr S w0 w7 → Go.Sx.Fr (fun b => b ∈ [g1, g3]) w6 w7 → R (.returned (.agg #[.int .i64 i2, .int .i64 i4, .int .i64 i5, .int .i64 (0 : Int), .int .i64 (0 : Int), .int .i64 i6, .int .i64 i7, .int .i64 (0 : Int), .int .i64 (0 : Int), .int .i64 (0 : Int), .int .i64 (0 : Int), .int .i64 (0 : Int), .int .i64 (0 : Int), .int .i64 (0 : Int), .int .i64 (0 : Int), .int .i64 (0 : Int), .int .i64 (0 : Int), .bool false, .string (⟨#[]⟩ : ByteArray), .int .i64 (0 : Int)])) w7))) ∧
   (¬ i2 = (6 : Int) →
   ((i2 = (7 : Int) →
    (∀ w5 : World, Go.Sx.Fr S w0 w5 → Go.Sx.Fr (fun b => b ∈ [g3]) w4 w5 → 
     Calls Tryd.prog 48 #[(v0)] w5 fun r w6 => ∃ i6 : Int, r = .returned (.int .i64 i6) ∧ (Go.Sx.Fr S w0 w6 ∧ Go.Sx.Mild [g3, g1] w5 w6) ∧ 
     (∃ p7 : Nat, ∃ o8 : Nat, v0 = .pointer (some ⟨p7, o8, none⟩) ∧
     (∀ w7 : World, Go.Sx.Fr S w0 w7 → Go.Sx.Fr (fun b => b ∈ [g3]) w6 w7 → ∃ b9 : Bool, Go.Sx.CellsAt w7 p7 (o8 + ((0 : Int)).toNat * 0 + 1) [.bool b9] ∧ 
     ((b9 = true →
     (∃ p10 : Nat, ∃ o11 : Nat, v0 = .pointer (some ⟨p10, o11, none⟩) ∧
      (
      ∃ w8 : World, (Instr.storeAt 4 (.pointer (some ⟨p10, o11 + ((0 : Int)).toNat * 0 + 1, none⟩)) (.bool true)).run Tryd.prog w7 = .ok () w8 ∧ (Go.Sx.Fr S w0 w8 ∧ Go.Sx.Mild [g3, g1] w7 w8) ∧ 
      (∃ p12 : Nat, ∃ o13 : Nat, v0 = .pointer (some ⟨p12, o13, none⟩) ∧
      (∃ A14 : Option Addr, ∃ n15 : Nat, ∃ n16 : Nat, Go.Sx.CellsAt w8 p12 (o13 + ((0 : Int)).toNat * 0 + 0) [.slice A14 n15 n16] ∧ 
      (
      Calls Tryd.prog 77 #[(.slice A14 n15 n16)] w8 fun r w9 => ∃ s17 : ByteArray, ∃ A18 : Option Addr, ∃ n19 : Nat, ∃ n20 : Nat, ∃ b21 : Bool, r = .returned (.tuple #[.string s17, .slice A18 n19 n20, .bool b21]) ∧ (Go.Sx.Fr S w0 w9 ∧ Go.Sx.Mild [g3, g1] w8 w9) ∧ 
      (∃ p22 : Nat, ∃ o23 : Nat, v0 = .pointer (some ⟨p22, o23, none⟩) ∧
      (∀ w10 : World, Go.Sx.Fr S w0 w10 → Go.Sx.Fr (fun b => b ∈ [g3]) w9 w10 → 
      ∃ w11 : World, (Instr.storeAt 22 (.pointer (some ⟨p22, o23 + ((0 : Int)).toNat * 0 + 0, none⟩)) (.slice A18 n19 n20)).run Tryd.prog w10 = .ok () w11 ∧ (Go.Sx.Fr S w0 w11 ∧ Go.Sx.Mild [g3, g1] w10 w11) ∧ 
      (∃ p24 : Nat, ∃ o25 : Nat, v0 = .pointer (some ⟨p24, o25, none⟩) ∧
      (∃ b26 : Bool, Go.Sx.CellsAt w11 p24 (o25 + ((0 : Int)).toNat * 0 + 1) [.bool b26] ∧ 
      ((b26 = true →
      (∃ p27 : Nat, ∃ o28 : Nat, v0 = .pointer (some ⟨p27, o28, none⟩) ∧
       (
       ∃ w12 : World, (Instr.storeAt 4 (.pointer (some ⟨p27, o28 + ((0 : Int)).toNat * 0 + 1, none⟩)) (.bool true)).run Tryd.prog w11 = .ok () w12 ∧ (Go.Sx.Fr S w0 w12 ∧ Go.Sx.Mild [g3, g1] w11 w12) ∧ 
       (∀ w13 : World, Go.Sx.Fr S w0 w13 → Go.Sx.Fr (fun b => b ∈ [g1]) w12 w13 → R (.returned (.agg #[.int .i64 i2, .int .i64 i4, .int .i64 i5, .int .i64 (0 : Int), .int .i64 (0 : Int), .int .i64 (0 : Int), .int .i64 (0 : Int), .int .i64 (0 : Int), .int .i64 (0 : Int), .int .i64 (0 : Int), .int .i64 (0 : Int), .int .i64 (0 : Int), .int .i64 (0 : Int), .int .i64 (0 : Int), .int .i64 (0 : Int), .int .i64 (0 : Int), .int .i64 (0 : Int), .bool (i6 == (1 : Int)), .string s17, .int .i64 (0 : Int)])) w13)))) ∧
      (b26 = false →
      (∃ p27 : Nat, ∃ o28 : Nat, v0 = .pointer (some ⟨p27, o28, none⟩) ∧
       (
       ∃ w12 : World, (Instr.storeAt 4 (.pointer (some ⟨p27, o28 + ((0 : Int)).toNat * 0 + 1, none⟩)) (.bool (!b21))).run Tryd.prog w11 = .ok () w12 ∧ (Go.Sx.Fr S w0 w12 ∧ Go.Sx.Mild [g3, g1] w11 w12) ∧ 
       (∀ w13 : World, Go.Sx.Fr S w0 w13 → Go.Sx.Fr (fun b => b ∈ [g1]) w12 w13 → R (.returned (.agg #[.int .i64 i2, .int .i64 i4, .int .i64 i5, .int .i64 (0 : Int), .int .i64 (0 : Int), .int .i64 (0 : Int), .int .i64 (0 : Int), .int .i64 (0 : Int), .int .i64 (0 : Int), .int .i64 (0 : Int), .int .i64 (0 : Int), .int .i64 (0 : Int), .int .i64 (0 : Int), .int .i64 (0 : Int), .int .i64 (0 : Int), .int .i64 (0 : Int), .int .i64 (0 : Int), .bool (i6 == (1 : Int)), .string s17, .int .i64 (0 : Int)])) w13))))))))))))))) ∧
     (b9 = false →
     (∃ p10 : Nat, ∃ o11 : Nat, v0 = .pointer (some ⟨p10, o11, none⟩) ∧
      (
      ∃ w8 : World, (Instr.storeAt 4 (.pointer (some ⟨p10, o11 + ((0 : Int)).toNat * 0 + 1, none⟩)) (.bool (decide ((1 : Int) < i6)))).run Tryd.prog w7 = .ok () w8 ∧ (Go.Sx.Fr S w0 w8 ∧ Go.Sx.Mild [g3, g1] w7 w8) ∧ 
      (∃ p12 : Nat, ∃ o13 : Nat, v0 = .pointer (some ⟨p12, o13, none⟩) ∧
      (∃ A14 : Option Addr, ∃ n15 : Nat, ∃ n16 : Nat, Go.Sx.CellsAt w8 p12 (o13 + ((0 : Int)).toNat * 0 + 0) [.slice A14 n15 n16] ∧ 
      (
      Calls Tryd.prog 77 #[(.slice A14 n15 n16)] w8 fun r w9 => ∃ s17 : ByteArray, ∃ A18 : Option Addr, ∃ n19 : Nat, ∃ n20 : Nat, ∃ b21 : Bool, r = .returned (.tuple #[.string s17, .slice A18 n19 n20, .bool b21]) ∧ (Go.Sx.Fr S w0 w9 ∧ Go.Sx.Mild [g3, g1] w8 w9) ∧ 
      (∃ p22 : Nat, ∃ o23 : Nat, v0 = .pointer (some ⟨p22, o23, none⟩) ∧
      (∀ w10 : World, Go.Sx.Fr S w0 w10 → Go.Sx.Fr (fun b => b ∈ [g3]) w9 w10 → 
      ∃ w11 : World, (Instr.storeAt 22 (.pointer (some ⟨p22, o23 + ((0 : Int)).toNat * 0 + 0, none⟩)) (.slice A18 n19 n20)).run Tryd.prog w10 = .ok () w11 ∧ (Go.Sx.Fr S w0 w11 ∧ Go.Sx.Mild [g3, g1] w10 w11) ∧ 
      (∃ p24 : Nat, ∃ o25 : Nat, v0 = .pointer (some ⟨p24, o25, none⟩) ∧
      (∃ b26 : Bool, Go.Sx.CellsAt w11 p24 (o25 + ((0 : Int)).toNat * 0 + 1) [.bool b26] ∧ 
      ((b26 = true →
      (∃ p27 : Nat, ∃ o28 : Nat, v0 = .pointer (some ⟨p27, o28, none⟩) ∧
       (
       ∃ w12 : World, (Instr.storeAt 4 (.pointer (some ⟨p27, o28 + ((0 : Int)).toNat * 0 + 1, none⟩)) (.bool true)).run Tryd.prog w11 = .ok () w12 ∧ (Go.Sx.Fr S w0 w12 ∧ Go.Sx.Mild [g3, g1] w11 w12) ∧ 
       (∀ w13 : World, Go.Sx.Fr S w0 w13 → Go.Sx.Fr (fun b => b ∈ [g1]) w12 w13 → R (.returned (.agg #[.int .i64 i2, .int .i64 i4, .int .i64 i5, .int .i64 (0 : Int), .int .i64 (0 : Int), .int .i64 (0 : Int), .int .i64 (0 : Int), .int .i64 (0 : Int), .int .i64 (0 : Int), .int .i64 (0 : Int), .int .i64 (0 : Int), .int .i64 (0 : Int), .int .i64 (0 : Int), .int .i64 (0 : Int), .int .i64 (0 : Int), .int .i64 (0 : Int), .int .i64 (0 : Int), .bool (i6 == (1 : Int)), .string s17, .int .i64 (0 : Int)])) w13)))) ∧
      (b26 = false →
      (∃ p27 : Nat, ∃ o28 : Nat, v0 = .pointer (some ⟨p27, o28, none⟩) ∧
       (
       ∃ w12 : World, (Instr.storeAt 4 (.pointer (some ⟨p27, o28 + ((0 : Int)).toNat * 0 + 1, none⟩)) (.bool (!b21))).run Tryd.prog w11 = .ok () w12 ∧ (Go.Sx.Fr S w0 w12 ∧ Go.Sx.Mild [g3, g1] w11 w12) ∧ 
       (∀ w13 : World, Go.Sx.Fr S w0 w13 → Go.Sx.Fr (fun b => b ∈ [g1]) w12 w13 → R (.returned (.agg #[.int .i64 i2, .int .i64 i4, .int .i64 i5, .int .i64 (0 : Int), .int .i64 (0 : Int), .int .i64 (0 : Int), .int .i64 (0 : Int), .int .i64 (0 : Int), .int .i64 (0 : Int), .int .i64 (0 : Int), .int .i64 (0 : Int), .int .i64 (0 : Int), .int .i64 (0 : Int), .int .i64 (0 : Int), .int .i64 (0 : Int), .int .i64 (0 : Int), .int .i64 (0 : Int), .bool (i6 == (1 : Int)), .string s17, .int .i64 (0 : Int)])) w13)))))))))))))))))))) ∧
    (¬ i2 = (7 : Int) →
    ((i2 = (8 : Int) →
     (∀ w5 : World, Go.Sx.Fr S w0 w5 → Go.Sx.Fr (fun b => b ∈ [g3]) w4 w5 → 
      Calls Tryd.prog 48 #[(v0)] w5 fun r w6 => ∃ i6 : Int, r = .returned (.int .i64 i6) ∧ (Go.Sx.Fr S w0 w6 ∧ Go.Sx.Mild [g3, g1] w5 w6) ∧ 
      (∃ p7 : Nat, ∃ o8 : Nat, v0 = .pointer (some ⟨p7, o8, none⟩) ∧
      (∀ w7 : World, Go.Sx.Fr S w0 w7 → Go.Sx.Fr (fun b => b ∈ [g3]) w6 w7 → ∃ b9 : Bool, Go.Sx.CellsAt w7 p7 (o8 + ((0 : Int)).toNat * 0 + 1) [.bool b9] ∧ 
      ((b9 = true →
      (∃ p10 : Nat, ∃ o11 : Nat, v0 = .pointer (some ⟨p10, o11, none⟩) ∧
       (
       ∃ w8 : World, (Instr.storeAt 4 (.pointer (some ⟨p10, o11 + ((0 : Int)).toNat * 0 + 1, none⟩)) (.bool true)).run Tryd.prog w7 = .ok () w8 ∧ (Go.Sx.Fr S w0 w8 ∧ Go.Sx.Mild [g3, g1] w7 w8) ∧ 
       (∃ p12 : Nat, ∃ o13 : Nat, v0 = .pointer (some ⟨p12, o13, none⟩) ∧
       (∃ A14 : Option Addr, ∃ n15 : Nat, ∃ n16 : Nat, Go.Sx.CellsAt w8 p12 (o13 + ((0 : Int)).toNat * 0 + 0) [.slice A14 n15 n16] ∧ 
       (
       Calls Tryd.prog 52 #[(.slice A14 n15 n16)] w8 fun r w9 => ∃ i17 : Int, ∃ A18 : Option Addr, ∃ n19 : Nat, ∃ n20 : Nat, ∃ b21 : Bool, r = .returned (.tuple #[.int .i64 i17, .slice A18 n19 n20, .bool b21]) ∧ (Go.Sx.Fr S w0 w9 ∧ Go.Sx.Mild [g3, g1] w8 w9) ∧ 
       (∃ p22 : Nat, ∃ o23 : Nat, v0 = .pointer (some ⟨p22, o23, none⟩) ∧
       (∀ w10 : World, Go.Sx.Fr S w0 w10 → Go.Sx.Fr (fun b => b ∈ [g3]) w9 w10 → 
       ∃ w11 : World, (Instr.storeAt 22 (.pointer (some ⟨p22, o23 + ((0 : Int)).toNat * 0 + 0, none⟩)) (.slice A18 n19 n20)).run Tryd.prog w10 = .ok () w11 ∧ (Go.Sx.Fr S w0 w11 ∧ Go.Sx.Mild [g3, g1] w10 w11) ∧ 
       (∃ p24 : Nat, ∃ o25 : Nat, v0 = .pointer (some ⟨p24, o25, none⟩) ∧
       (∃ b26 : Bool, Go.Sx.CellsAt w11 p24 (o25 + ((0 : Int)).toNat * 0 + 1) [.bool b26] ∧ 
       ((b26 = true →
       (∃ p27 : Nat, ∃ o28 : Nat, v0 = .pointer (some ⟨p27, o28, none⟩) ∧
        (
        ∃ w12 : World, (Instr.storeAt 4 (.pointer (some ⟨p27, o28 + ((0 : Int)).toNat * 0 + 1, none⟩)) (.bool true)).run Tryd.prog w11 = .ok () w12 ∧ (Go.Sx.Fr S w0 w12 ∧ Go.Sx.Mild [g3, g1] w11 w12) ∧ 
        (∀ w13 : World, Go.Sx.Fr S w0 w13 → Go.Sx.Fr (fun b => b ∈ [g1]) w12 w13 → R (.returned (.agg #[.int .i64 i2, .int .i64 i4, .int .i64 i5, .int .i64 (0 : Int), .int .i64 (0 : Int), .int .i64 (0 : Int), .int .i64 (0 : Int), .int .i64 (0 : Int), .int .i64 (0 : Int), .int .i64 (0 : Int), .int .i64 (0 : Int), .int .i64 (0 : Int), .int .i64 (0 : Int), .int .i64 (0 : Int), .int .i64 (0 : Int), .int .i64 (0 : Int), .int .i64 (0 : Int), .bool (i6 == (1 : Int)), .string (⟨#[]⟩ : ByteArray), .int .i64 i17])) w13)))) ∧
       (b26 = false →
       (∃ p27 : Nat, ∃ o28 : Nat, v0 = .pointer (some ⟨p27, o28, none⟩) ∧
        (
        ∃ w12 : World, (Instr.storeAt 4 (.pointer (some ⟨p27, o28 + ((0 : Int)).toNat * 0 + 1, none⟩)) (.bool (!b21))).run Tryd.prog w11 = .ok () w12 ∧ (Go.Sx.Fr S w0 w12 ∧ Go.Sx.Mild [g3, g1] w11 w12) ∧ 
        (∀ w13 : World, Go.Sx.Fr S w0 w13 → Go.Sx.Fr (fun b => b ∈ [g1]) w12 w13 → R (.returned (.agg #[.int .i64 i2, .int .i64 i4, .int .i64 i5, .int .i64 (0 : Int), .int .i64 (0 : Int), .int .i64 (0 : Int), .int .i64 (0 : Int), .int .i64 (0 : Int), .int .i64 (0 : Int), .int .i64 (0 : Int), .int .i64 (0 : Int), .int .i64 (0 : Int), .int .i64 (0 : Int), .int .i64 (0 : Int), .int .i64 (0 : Int), .int .i64 (0 : Int), .int .i64 (0 : Int), .bool (i6 == (1 : Int)), .string (⟨#[]⟩ : ByteArray), .int .i64 i17])) w13))))))))))))))) ∧
      (b9 = false →
      (∃ p10 : Nat, ∃ o11 : Nat, v0 = .pointer (some ⟨p10, o11, none⟩) ∧
       (
       ∃ w8 : World, (Instr.storeAt 4 (.pointer (some ⟨p10, o11 + ((0 : Int)).toNat * 0 + 1, none⟩)) (.bool (decide ((1 : Int) < i6)))).run Tryd.prog w7 = .ok () w8 ∧ (Go.Sx.Fr S w0 w8 ∧ Go.Sx.Mild [g3, g1] w7 w8) ∧ 
       (∃ p12 : Nat, ∃ o13 : Nat, v0 = .pointer (some ⟨p12, o13, none⟩) ∧
       (∃ A14 : Option Addr, ∃ n15 : Nat, ∃ n16 : Nat, Go.Sx.CellsAt w8 p12 (o13 + ((0 : Int)).toNat * 0 + 0) [.slice A14 n15 n16] ∧ 
       (
       Calls Tryd.prog 52 #[(.slice A14 n15 n16)] w8 fun r w9 => ∃ i17 : Int, ∃ A18 : Option Addr, ∃ n19 : Nat, ∃ n20 : Nat, ∃ b21 : Bool, r = .returned (.tuple #[.int .i64 i17, .slice A18 n19 n20, .bool b21]) ∧ (Go.Sx.Fr S w0 w9 ∧ Go.Sx.Mild [g3, g1] w8 w9) ∧ 
       (∃ p22 : Nat, ∃ o23 : Nat, v0 = .pointer (some ⟨p22, o23, none⟩) ∧
       (∀ w10 : World, Go.Sx.Fr S w0 w10 → Go.Sx.Fr (fun b => b ∈ [g3]) w9 w10 → 
       ∃ w11 : World, (Instr.storeAt 22 (.pointer (some ⟨p22, o23 + ((0 : Int)).toNat * 0 + 0, none⟩)) (.slice A18 n19 n20)).run Tryd.prog w10 = .ok () w11 ∧ (Go.Sx.Fr S w0 w11 ∧ Go.Sx.Mild [g3, g1] w10 w11) ∧ 
       (∃ p24 : Nat, ∃ o25 : Nat, v0 = .pointer (some ⟨p24, o25, none⟩) ∧
       (∃ b26 : Bool, Go.Sx.CellsAt w11 p24 (o25 + ((0 : Int)).toNat * 0 + 1) [.bool b26] ∧ 
       ((b26 = true →
       (∃ p27 : Nat, ∃ o28 : Nat, v0 = .pointer (some ⟨p27, o28, none⟩) ∧
        (
        ∃ w12 : World, (Instr.storeAt 4 (.pointer (some ⟨p27, o28 + ((0 : Int)).toNat * 0 + 1, none⟩)) (.bool true)).run Tryd.prog w11 = .ok () w12 ∧ (Go.Sx.Fr S w0 w12 ∧ Go.Sx.Mild [g3, g1] w11 w12) ∧ 
        (∀ w13 : World, Go.Sx.Fr S w0 w13 → Go.Sx.Fr (fun b => b ∈ [g1]) w12 w13 → R (.returned (.agg #[.int .i64 i2, .int .i64 i4, .int .i64 i5, .int .i64 (0 : Int), .int .i64 (0 : Int), .int .i64 (0 : Int), .int .i64 (0 : Int), .int .i64 (0 : Int), .int .i64 (0 : Int), .int .i64 (0 : Int), .int .i64 (0 : Int), .int .i64 (0 : Int), .int .i64 (0 : Int), .int .i64 (0 : Int), .int .i64 (0 : Int), .int .i64 (0 : Int), .int .i64 (0 : Int), .bool (i6 == (1 : Int)), .string (⟨#[]⟩ : ByteArray), .int .i64 i17])) w13)))) ∧
       (b26 = false →
       (∃ p27 : Nat, ∃ o28 : Nat, v0 = .pointer (some ⟨p27, o28, none⟩) ∧
        (
        ∃ w12 : World, (Instr.storeAt 4 (.pointer (some ⟨p27, o28 + ((0 : Int)).toNat * 0 + 1, none⟩)) (.bool (!b21))).run Tryd.prog w11 = .ok () w12 ∧ (Go.Sx.Fr S w0 w12 ∧ Go.Sx.Mild [g3, g1] w11 w12) ∧ 
        (∀ w13 : World, Go.Sx.Fr S w0 w13 → Go.Sx.Fr (fun b => b ∈ [g1]) w12 w13 → R (.returned (.agg #[.int .i64 i2, .int .i64 i4, .int .i64 i5, .int .i64 (0 : Int), .int .i64 (0 : Int), .int .i64 (0 : Int), .int .i64 (0 : Int), .int .i64 (0 : Int), .int .i64 (0 : Int), .int .i64 (0 : Int), .int .i64 (0 : Int), .int .i64 (0 : Int), .int .i64 (0 : Int), .int .i64 (0 : Int), .int .i64 (0 : Int), .int .i64 (0 : Int), .int .i64 (0 : Int), .bool (i6 == (1 : Int)), .string (⟨#[]⟩ : ByteArray), .int .i64 i17])) w13)))))))))))))))))))) ∧
     (¬ i2 = (8 : Int) →
     (∀ w5 : World, Go.Sx.Fr S w0 w5 → Go.Sx.Fr (fun b => b ∈ [g1, g3]) w4 w5 → R (.returned (.agg #[.int .i64 i2, .int .i64 i4, .int .i64 i5, .int .i64 (0 : Int), .int .i64 (0 : Int), .int .i64 (0 : Int), .int .i64 (0 : Int), .int .i64 (0 : Int), .int .i64 (0 : Int), .int .i64 (0 : Int), .int .i64 (0 : Int), .int .i64 (0 : Int), .int .i64 (0 : Int), .int .i64 (0 : Int), .int .i64 (0 : Int), .int .i64 (0 : Int), .int .i64 (0 : Int), .bool false, .string (⟨#[]⟩ : ByteArray), .int .i64 (0 : Int)])) w5)))))))))))))) :
    Calls Tryd.prog 49 #[(v0)] w0 R :=
  Go.Sx.fn_sound0 (P := Tryd.prog) (S := S) (w0 := w0) (R := R) (ws := []) (an := [⟨999998, [], [], 0⟩, ⟨999999, [], [], 0⟩]) (f := 49) (n := 1) (xs := [.one (.val 0)]) (e := [.v v0]) rfl (by kernel_rfl) (Eq.mp (by kernel_rfl) h)


/-- tracery/traceryref10.Take: what is left of it. -/
theorem ref10Take_sx (R : Ending → World → Prop) (S : Nat → Prop) (w0 : World) (A0 : Option Addr) (n1 : Nat) (n2 : Nat) (h :
 ∀ g3 : Nat, w0.heap.size ≤ g3 → ∀ g4 : Nat, w0.heap.size ≤ g4 → (∀ w1 : World, Go.Sx.Fr S w0 w1 → Below w0.heap.size w0 w1 → w0.heap.size ≤ g4 → w1.heap[g4]? = some (.cells #[.slice A0 n1 n2, .bool false] 95 (0, 0)) → w0.heap.size ≤ g3 → w1.heap[g3]? = some (.cells #[.slice none 0 0] 25 (0, 0)) → 
 Calls Tryd.prog 48 #[(.pointer (some ⟨g4, 0, none⟩))] w1 fun r w2 => ∃ i5 : Int, ∃ A6 : Option Addr, ∃ n7 : Nat, ∃ n8 : Nat, ∃ b9 : Bool, r = .returned (.int .i64 i5) ∧ (Go.Sx.Fr S w0 w2 ∧ Go.Sx.Mild [g3] w1 w2) ∧ w2.heap[g4]? = some (.cells #[.slice A6 n7 n8, .bool b9] 95 (0, 0)) ∧ 
 ∀ g10 : Nat, w0.heap.size ≤ g10 → (∃ (I0 : Int → Option Addr → Nat → Nat → Bool → Option Addr → Nat → Nat → World → Prop) (M0 : Int → Option Addr → Nat → Nat → Bool → Option Addr → Nat → Nat → World → Nat), (∀ w3 : World, Go.Sx.Fr S w0 w3 → Below w2.heap.size w2 w3 → w2.heap.size ≤ g10 → w3.heap[g10]? = some (.cells #[.slice none 0 0] 25 (0, 0)) → I0 (0 : Int) A6 n7 n8 b9 none 0 0 w3) ∧
 ∀ i11 : Int, ∀ A12 : Option Addr, ∀ n13 : Nat, ∀ n14 : Nat, ∀ b15 : Bool, ∀ A16 : Option Addr, ∀ n17 : Nat, ∀ n18 : Nat, ∀ w4 : World, Go.Sx.Fr S w0 w4 → I0 i11 A12 n13 n14 b15 A16 n17 n18 w4 → w4.heap[g10]? = some (.cells #[.slice A16 n17 n18] 25 (0, 0)) → w4.heap[g4]? = some (.cells #[.slice A12 n13 n14, .bool b15] 95 (0, 0)) → 
  ((i11 < i5 →
  ((i11 ≤ (6 : Int) →
   ((b15 = false →
    (∃ T19 : List Nat, (∀ b ∈ T19, b < w4.heap.size ∧ b ∉ [g10, g4, g3]) ∧
     (∀ w5 : World, Go.Sx.Fr S w0 w5 → Below w4.heap.size w4 w5 → w5.heap[g4]? = some (.cells #[.slice A12 n13 n14, .bool b15] 95 (0, 0)) → 
     Calls Tryd.prog 49 #[(.pointer (some ⟨g4, 0, none⟩))] w5 fun r w6 => ∃ i20 : Int, ∃ i21 : Int, ∃ i22 : Int, ∃ i23 : Int, ∃ i24 : Int, ∃ i25 : Int, ∃ i26 : Int, ∃ i27 : Int, ∃ i28 : Int, ∃ i29 : Int, ∃ i30 : Int, ∃ i31 : Int, ∃ i32 : Int, ∃ i33 : Int, ∃ i34 : Int, ∃ i35 : Int, ∃ i36 : Int, ∃ b37 : Bool, ∃ s38 : ByteArray, ∃ i39 : Int, ∃ A40 : Option Addr, ∃ n41 : Nat, ∃ n42 : Nat, ∃ b43 : Bool, r = .returned (.agg #[.int .i64 i20, .int .i64 i21, .int .i64 i22, .int .i64 i23, .int .i64 i24, .int .i64 i25, .int .i64 i26, .int .i64 i27, .int .i64 i28, .int .i64 i29, .int .i64 i30, .int .i64 i31, .int .i64 i32, .int .i64 i33, .int .i64 i34, .int .i64 i35, .int .i64 i36, .bool b37, .string s38, .int .i64 i39]) ∧ (Go.Sx.Fr S w0 w6 ∧ Go.Sx.Mild [g10, g3] w5 w6) ∧ Go.Sx.Keep w4.heap.size (T19 ++ [g4]) w5 w6 ∧ w6.heap[g4]? = some (.cells #[.slice A40 n41 n42, .bool b43] 95 (0, 0)) ∧ 
     ∀ g44 : Nat, w0.heap.size ≤ g44 → (∀ w7 : World, Go.Sx.Fr S w0 w7 → Below w6.heap.size w6 w7 → w6.heap.size ≤ g44 → w7.heap[g44]? = some (.cells #[.int .i64 i20, .int .i64 i21, .int .i64 i22, .int .i64 i23, .int .i64 i24, .int .i64 i25, .int .i64 i26, .int .i64 i27, .int .i64 i28, .int .i64 i29, .int .i64 i30, .int .i64 i31, .int .i64 i32, .int .i64 i33, .int .i64 i34, .int .i64 i35, .int .i64 i36, .bool b37, .string s38, .int .i64 i39] 39 (0, 0)) → 
     ∃ w8 : World, ∃ A45 : Option Addr, ∃ n46 : Nat, ∃ n47 : Nat, (Builtin.append_ #[23, 23] 23 #[(.slice A16 n17 n18), (.slice (some ⟨g44, 0, none⟩) 1 1)]).run Tryd.prog w7 = .ok (.slice A45 n46 n47) w8 ∧ (Go.Sx.Fr S w0 w8 ∧ Go.Sx.Mild [g44, g10, g4, g3] w7 w8) ∧ 
     (∀ w9 : World, Go.Sx.Fr S w0 w9 → Go.Sx.Fr (fun b => b ∈ [g10]) w8 w9 → I0 (IntKind.i64.wrap (i11 + (1 : Int))) A40 n41 n42 b43 A45 n46 n47 w9 ∧ M0 (IntKind.i64.wrap (i11 + (1 : Int))) A40 n41 n42 b43 A45 n46 n47 w9 < M0 i11 A12 n13 n14 b15 A16 n17 n18 w4))))) ∧
    (b15 = true →
    (∀ w5 : World, Go.Sx.Fr S w0 w5 → Go.Sx.Fr (fun b => b ∈ [g3]) w4 w5 → R (.returned (.tuple #[.agg #[.slice none 0 0], .slice A0 n1 n2, .int .i64 (2 : Int)])) w5)))) ∧
   ((6 : Int) < i11 →
   ((b15 = true →
    (∀ w5 : World, Go.Sx.Fr S w0 w5 → Go.Sx.Fr (fun b => b ∈ [g3]) w4 w5 → R (.returned (.tuple #[.agg #[.slice none 0 0], .slice A0 n1 n2, .int .i64 (2 : Int)])) w5)) ∧
    (b15 = false →
    ((¬ i5 = (n17 : Int) →
     (∀ w5 : World, Go.Sx.Fr S w0 w5 → Go.Sx.Fr (fun b => b ∈ [g3]) w4 w5 → R (.returned (.tuple #[.agg #[.slice none 0 0], .slice A0 n1 n2, .int .i64 (2 : Int)])) w5)) ∧
     (i5 = (n17 : Int) →
     (
      Calls Tryd.prog 39 #[(.agg #[.slice A16 n17 n18])] w4 fun r w5 => ∃ i19 : Int, r = .returned (.int .i64 i19) ∧ (Go.Sx.Fr S w0 w5 ∧ Go.Sx.Mild [g10, g4, g3] w4 w5) ∧ 
      ((¬ i19 = (0 : Int) →
      (∀ w6 : World, Go.Sx.Fr S w0 w6 → Go.Sx.Fr (fun b => b ∈ [g3]) w5 w6 → R (.returned (.tuple #[.agg #[.slice none 0 0], .slice A0 n1 n2, .int .i64 (2 : Int)])) w6)) ∧
      (i19 = (0 : Int) →
      (∃ T20 : List Nat, (∀ b ∈ T20, b < w5.heap.size ∧ b ∉ [g10, g4, g3]) ∧
       (∀ w6 : World, Go.Sx.Fr S w0 w6 → Go.Sx.Fr (fun b => b ∈ [g3]) w5 w6 → R (.returned (.tuple #[.agg #[.slice A16 n17 n18], .slice A12 n13 n14, .int .i64 (0 : Int)])) w6)))))))))))) ∧
  (i5 ≤ i11 →
  ((b15 = true →
   (∀ w5 : World, Go.Sx.Fr S w0 w5 → Go.Sx.Fr (fun b => b ∈ [g3]) w4 w5 → R (.returned (.tuple #[.agg #[.slice none 0 0], .slice A0 n1 n2, .int .i64 (2 : Int)])) w5)) ∧
   (b15 = false →
   ((¬ i5 = (n17 : Int) →
    (∀ w5 : World, Go.Sx.Fr S w0 w5 → Go.Sx.Fr (fun b => b ∈ [g3]) w4 w5 → R (.returned (.tuple #[.agg #[.slice none 0 0], .slice A0 n1 n2, .int .i64 (2 : Int)])) w5)) ∧
    (i5 = (n17 : Int) →
    (
     Calls Tryd.prog 39 #[(.agg #[.slice A16 n17 n18])] w4 fun r w5 => ∃ i19 : Int, r = .returned (.int .i64 i19) ∧ (Go.Sx.Fr S w0 w5 ∧ Go.Sx.Mild [g10, g4, g3] w4 w5) ∧ 
     ((¬ i19 = (0 : Int) →
     (∀ w6 : World, Go.Sx.Fr S w0 w6 → Go.Sx.Fr (fun b => b ∈ [g3]) w5 w6 → R (.returned (.tuple #[.agg #[.slice none 0 0], .slice A0 n1 n2, .int .i64 (2 : Int)])) w6)) ∧
     (i19 = (0 : Int) →
     (∃ T20 : List Nat, (∀ b ∈ T20, b < w5.heap.size ∧ b ∉ [g10, g4, g3]) ∧
      (∀ w6 : World, Go.Sx.Fr S w0 w6 → Go.Sx.Fr (fun b => b ∈ [g3]) w5 w6 → R (.returned (.tuple #[.agg #[.slice A16 n17 n18], .slice A12 n13 n14, .int .i64 (0 : Int)])) w6)))))))))))))) :
    Calls Tryd.prog 20 #[(.slice A0 n1 n2)] w0 R :=
  Go.Sx.fn_sound0 (P := Tryd.prog) (S := S) (w0 := w0) (R := R) (ws := [48, 49]) (an := [⟨999998, [], [], 0⟩, ⟨999999, [], [], 0⟩, ⟨5, [], [(5, 0), (5, 1), (7, 0)], 0⟩]) (f := 20) (n := 3) (xs := [.one (.slice (.var 0) (.var 1) (.var 2))]) (e := [.a A0, .n n1, .n n2]) rfl (by kernel_rfl) (Eq.mp (by kernel_rfl) h)


/-- tracery/traceryref10.Whole: what is left of it. -/
theorem ref10Whole_sx (R : Ending → World → Prop) (S : Nat → Prop) (w0 : World) (A0 : Option Addr) (n1 : Nat) (n2 : Nat) (h :
 ∀ g3 : Nat, w0.heap.size ≤ g3 → (∀ w1 : World, Go.Sx.Fr S w0 w1 → Below w0.heap.size w0 w1 → w0.heap.size ≤ g3 → w1.heap[g3]? = some (.cells #[.slice none 0 0] 25 (0, 0)) → 
 Calls Tryd.prog 20 #[(.slice A0 n1 n2)] w1 fun r w2 => ∃ A4 : Option Addr, ∃ n5 : Nat, ∃ n6 : Nat, ∃ A7 : Option Addr, ∃ n8 : Nat, ∃ n9 : Nat, ∃ i10 : Int, r = .returned (.tuple #[.agg #[.slice A4 n5 n6], .slice A7 n8 n9, .int .i64 i10]) ∧ (Go.Sx.Fr S w0 w2 ∧ Go.Sx.Mild [g3] w1 w2) ∧ 
 ∀ g11 : Nat, w0.heap.size ≤ g11 → ((¬ i10 = (0 : Int) →
 (∀ w3 : World, Go.Sx.Fr S w0 w3 → Go.Sx.Fr (fun b => b ∈ [g3]) w2 w3 → w2.heap.size ≤ g11 → w3.heap[g11]? = some (.cells #[.slice A4 n5 n6] 25 (0, 0)) → R (.returned (.tuple #[.agg #[.slice none 0 0], .int .i64 (2 : Int)])) w3)) ∧
 (i10 = (0 : Int) →
 (((0 : Int) < (n8 : Int) →
  (∀ w3 : World, Go.Sx.Fr S w0 w3 → Go.Sx.Fr (fun b => b ∈ [g3]) w2 w3 → w2.heap.size ≤ g11 → w3.heap[g11]? = some (.cells #[.slice A4 n5 n6] 25 (0, 0)) → R (.returned (.tuple #[.agg #[.slice none 0 0], .int .i64 (2 : Int)])) w3)) ∧
  ((n8 : Int) ≤ (0 : Int) →
  (∀ w3 : World, Go.Sx.Fr S w0 w3 → Go.Sx.Fr (fun b => b ∈ [g3]) w2 w3 → w2.heap.size ≤ g11 → w3.heap[g11]? = some (.cells #[.slice A4 n5 n6] 25 (0, 0)) → R (.returned (.tuple #[.agg #[.slice A4 n5 n6], .int .i64 (0 : Int)])) w3))))))) :
    Calls Tryd.prog 22 #[(.slice A0 n1 n2)] w0 R :=
  Go.Sx.fn_sound0 (P := Tryd.prog) (S := S) (w0 := w0) (R := R) (ws := []) (an := [⟨999998, [], [], 0⟩, ⟨999999, [], [], 0⟩]) (f := 22) (n := 3) (xs := [.one (.slice (.var 0) (.var 1) (.var 2))]) (e := [.a A0, .n n1, .n n2]) rfl (by kernel_rfl) (Eq.mp (by kernel_rfl) h)


end Go.Proofs.YtfjenamomipmdaaDoor
