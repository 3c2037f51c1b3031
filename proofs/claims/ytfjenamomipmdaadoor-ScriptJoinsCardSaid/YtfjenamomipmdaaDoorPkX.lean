/- Opcode: what is left of the functions that lay down. -/
import Derived.Test.YtfjenamomipmdaaDoorProg
import Derived.Test.YtfjenamomipmdaaDoorSs
import Derived.KernelRfl
set_option linter.unusedVariables false
namespace Go.Proofs.YtfjenamomipmdaaDoor
open Go Go.RowKit Go.Proofs Go.Trc
set_option maxRecDepth 100000
/-- tracery/traceryref01.Put: what is left of it. -/
theorem ref01Put_sx (R : Ending → World → Prop) (S : Nat → Prop) (w0 : World) (A0 : Option Addr) (n1 : Nat) (n2 : Nat) (i3 : Int) (i4 : Int) (h :
 ∀ g5 : Nat, w0.heap.size ≤ g5 → ∀ g6 : Nat, w0.heap.size ≤ g6 → (∀ w1 : World, Go.Sx.Fr S w0 w1 → Below w0.heap.size w0 w1 → w0.heap.size ≤ g6 → w1.heap[g6]? = some (.cells #[] 5 (0, 0)) → w0.heap.size ≤ g5 → w1.heap[g5]? = some (.cells #[.int .i64 i3, .int .i64 i4] 33 (0, 0)) → 
 ∃ w2 : World, ∃ A7 : Option Addr, ∃ n8 : Nat, ∃ n9 : Nat, (Builtin.append_ #[22, 22] 22 #[(.slice (some ⟨g6, 0, none⟩) 0 0), (.slice A0 n1 n2)]).run Tryd.prog w1 = .ok (.slice A7 n8 n9) w2 ∧ (Go.Sx.Fr S w0 w2 ∧ Go.Sx.Mild [g6, g5] w1 w2) ∧ 
 (¬ (65536 : Int) = (0 : Int) ∧
 (¬ (256 : Int) = (0 : Int) ∧
 (¬ (256 : Int) = (0 : Int) ∧
 (¬ (256 : Int) = (0 : Int) ∧
 ∀ g10 : Nat, w0.heap.size ≤ g10 → (∀ w3 : World, Go.Sx.Fr S w0 w3 → Below w2.heap.size w2 w3 → w2.heap.size ≤ g10 → w3.heap[g10]? = some (.cells #[.int .u8 (IntKind.u8.wrap i3), .int .u8 (IntKind.u8.wrap (IntKind.i64.wrap (Int.tdiv i4 (65536 : Int)))), .int .u8 (IntKind.u8.wrap (Int.tmod (IntKind.i64.wrap (Int.tdiv i4 (256 : Int))) (256 : Int))), .int .u8 (IntKind.u8.wrap (Int.tmod i4 (256 : Int)))] 5 (0, 0)) → 
 ∃ w4 : World, ∃ A11 : Option Addr, ∃ n12 : Nat, ∃ n13 : Nat, (Builtin.append_ #[22, 22] 22 #[(.slice A7 n8 n9), (.slice (some ⟨g10, 0, none⟩) 4 4)]).run Tryd.prog w3 = .ok (.slice A11 n12 n13) w4 ∧ (Go.Sx.Fr S w0 w4 ∧ Go.Sx.Mild [g10, g6, g5] w3 w4) ∧ 
 (R (.returned (.slice A11 n12 n13)) w4)))))))) :
    Calls Tryd.prog 40 #[(.slice A0 n1 n2), (.agg #[.int .i64 i3, .int .i64 i4])] w0 R :=
  Go.Sx.fn_sound0 (P := Tryd.prog) (S := S) (w0 := w0) (R := R) (ws := []) (an := [⟨999999, [], [], 0⟩]) (f := 40) (n := 5) (xs := [.one (.slice (.var 0) (.var 1) (.var 2)), .agg [.int .i64 (.var 3), .int .i64 (.var 4)]]) (e := [.a A0, .n n1, .n n2, .i i3, .i i4]) rfl (by kernel_rfl) (Eq.mp (by kernel_rfl) h)


/-- slices.Clip[[]byte,byte]: what is left of it. -/
theorem clip_sx (R : Ending → World → Prop) (S : Nat → Prop) (w0 : World) (A0 : Option Addr) (n1 : Nat) (n2 : Nat) (h :
 (∃ A3 : Option Addr, ∃ n4 : Nat, ∃ n5 : Nat, (Instr.sliceAt 22 (.slice A0 n1 n2) none (some (.int .i64 (n1 : Int))) (some (.int .i64 (n1 : Int)))).run Tryd.prog w0 = .ok (.slice A3 n4 n5) w0 ∧
 (R (.returned (.slice A3 n4 n5)) w0))) :
    Calls Tryd.prog 92 #[(.slice A0 n1 n2)] w0 R :=
  Go.Sx.fn_sound0 (P := Tryd.prog) (S := S) (w0 := w0) (R := R) (ws := []) (an := []) (f := 92) (n := 3) (xs := [.one (.slice (.var 0) (.var 1) (.var 2))]) (e := [.a A0, .n n1, .n n2]) rfl (by kernel_rfl) (Eq.mp (by kernel_rfl) h)


/-- tracery/ident.Put: what is left of it. -/
theorem identPut_sx (R : Ending → World → Prop) (S : Nat → Prop) (w0 : World) (A0 : Option Addr) (n1 : Nat) (n2 : Nat) (i3 : Int) (i4 : Int) (h :
 ∀ g5 : Nat, w0.heap.size ≤ g5 → (∀ w1 : World, Go.Sx.Fr S w0 w1 → Below w0.heap.size w0 w1 → w0.heap.size ≤ g5 → w1.heap[g5]? = some (.cells #[.int .i64 i3, .int .i64 i4] 33 (0, 0)) → 
 (∀ w2 : World, Go.Sx.Fr S w0 w2 → Below w1.heap.size w1 w2 → ∃ A7 : Option Addr, ∃ n8 : Nat, ∃ n9 : Nat, (∀ w', Go.Sx.Keep w1.heap.size [] w2 w' → (Instr.sliceAt 22 (.slice A0 n1 n2) none (some (.int .i64 (n1 : Int))) (some (.int .i64 (n1 : Int)))).run Tryd.prog w' = .ok (.slice A7 n8 n9) w') ∧
 ∀ g10 : Nat, w0.heap.size ≤ g10 → (∀ w3 : World, Go.Sx.Fr S w0 w3 → Below w2.heap.size w2 w3 → w2.heap.size ≤ g10 → w3.heap[g10]? = some (.cells #[.int .u8 (IntKind.u8.wrap i3), .int .u8 (IntKind.u8.wrap (Int.fdiv i4 (2 ^ 16))), .int .u8 (IntKind.u8.wrap (Int.fdiv i4 (2 ^ 8))), .int .u8 (IntKind.u8.wrap i4)] 5 (0, 0)) → 
 ∃ w4 : World, ∃ A11 : Option Addr, ∃ n12 : Nat, ∃ n13 : Nat, (Builtin.append_ #[22, 22] 22 #[(.slice A7 n8 n9), (.slice (some ⟨g10, 0, none⟩) 4 4)]).run Tryd.prog w3 = .ok (.slice A11 n12 n13) w4 ∧ (Go.Sx.Fr S w0 w4 ∧ Go.Sx.Mild [g10, g5] w3 w4) ∧ 
 (R (.returned (.slice A11 n12 n13)) w4))))) :
    Calls Tryd.prog 91 #[(.slice A0 n1 n2), (.agg #[.int .i64 i3, .int .i64 i4])] w0 R :=
  Go.Sx.fn_sound0 (P := Tryd.prog) (S := S) (w0 := w0) (R := R) (ws := []) (an := [⟨999999, [], [], 0⟩]) (f := 91) (n := 5) (xs := [.one (.slice (.var 0) (.var 1) (.var 2)), .agg [.int .i64 (.var 3), .int .i64 (.var 4)]]) (e := [.a A0, .n n1, .n n2, .i i3, .i i4]) rfl (by kernel_rfl) (Eq.mp (by kernel_rfl) h)


/-- tracery/pack.Text: what is left of it. -/
theorem packText_sx (R : Ending → World → Prop) (S : Nat → Prop) (w0 : World) (A0 : Option Addr) (n1 : Nat) (n2 : Nat) (s3 : ByteArray) (h :
 (
 Calls Tryd.prog 92 #[(.slice A0 n1 n2)] w0 fun r w1 => ∃ A4 : Option Addr, ∃ n5 : Nat, ∃ n6 : Nat, r = .returned (.slice A4 n5 n6) ∧ (Go.Sx.Fr S w0 w1 ∧ Go.Sx.Mild [] w0 w1) ∧ 
 ∀ g7 : Nat, w0.heap.size ≤ g7 → (∀ w2 : World, Go.Sx.Fr S w0 w2 → Below w1.heap.size w1 w2 → w1.heap.size ≤ g7 → w2.heap[g7]? = some (.cells #[.int .u8 (IntKind.u8.wrap ((s3).size : Int))] 5 (0, 0)) → 
 ∃ w3 : World, ∃ A8 : Option Addr, ∃ n9 : Nat, ∃ n10 : Nat, (Builtin.append_ #[22, 22] 22 #[(.slice A4 n5 n6), (.slice (some ⟨g7, 0, none⟩) 1 1)]).run Tryd.prog w2 = .ok (.slice A8 n9 n10) w3 ∧ (Go.Sx.Fr S w0 w3 ∧ Go.Sx.Mild [g7] w2 w3) ∧ 
 (
 ∃ w4 : World, ∃ A11 : Option Addr, ∃ n12 : Nat, ∃ n13 : Nat, (Builtin.append_ #[22, 9] 22 #[(.slice A8 n9 n10), (.string s3)]).run Tryd.prog w3 = .ok (.slice A11 n12 n13) w4 ∧ (Go.Sx.Fr S w0 w4 ∧ Go.Sx.Mild [g7] w3 w4) ∧ 
 (R (.returned (.slice A11 n12 n13)) w4))))) :
    Calls Tryd.prog 68 #[(.slice A0 n1 n2), (.string s3)] w0 R :=
  Go.Sx.fn_sound0 (P := Tryd.prog) (S := S) (w0 := w0) (R := R) (ws := []) (an := [⟨999999, [], [], 0⟩]) (f := 68) (n := 4) (xs := [.one (.slice (.var 0) (.var 1) (.var 2)), .one (.str (.var 3))]) (e := [.a A0, .n n1, .n n2, .s s3]) rfl (by kernel_rfl) (Eq.mp (by kernel_rfl) h)


/-- tracery/pack.Num: what is left of it. -/
theorem packNum_sx (R : Ending → World → Prop) (S : Nat → Prop) (w0 : World) (A0 : Option Addr) (n1 : Nat) (n2 : Nat) (i3 : Int) (h :
 (
 ∃ w1 : World, ∃ A4 : Option Addr, ∃ n5 : Nat, ∃ n6 : Nat, (Instr.makeSlice 22 (.int .i64 (IntKind.i64.wrap ((n1 : Int) + (8 : Int)))) (.int .i64 (IntKind.i64.wrap ((n1 : Int) + (8 : Int))))).run Tryd.prog w0 = .ok (.slice A4 n5 n6) w1 ∧ (Go.Sx.Fr S w0 w1 ∧ Go.Sx.Mild [] w0 w1) ∧ 
 (
 ∃ w2 : World, ∃ i7 : Int, (Builtin.copy_ #[22, 22] 3 #[(.slice A4 n5 n6), (.slice A0 n1 n2)]).run Tryd.prog w1 = .ok (.int .i64 i7) w2 ∧ (Go.Sx.Fr S w0 w2 ∧ Go.Sx.Mild [] w1 w2) ∧ 
 (∃ (I0 : Int → World → Prop) (M0 : Int → World → Nat), (I0 (0 : Int) w2) ∧
 ∀ i8 : Int, ∀ w3 : World, Go.Sx.Fr S w0 w3 → I0 i8 w3 → 
  ((i8 < (8 : Int) →
  (∃ i9 : Int, (binOp .shr 120 (.int .u64 (IntKind.u64.wrap i3)) (.int .i64 (IntKind.i64.wrap ((8 : Int) * (IntKind.i64.wrap ((7 : Int) - i8)))))).run Tryd.prog w3 = .ok (.int .u64 i9) w3 ∧
   ((0 : Int) ≤ (IntKind.i64.wrap ((n1 : Int) + i8)) ∧ (IntKind.i64.wrap ((n1 : Int) + i8)) < (n5 : Int) ∧ ∃ p10 : Nat, ∃ o11 : Nat, A4 = some ⟨p10, o11, none⟩ ∧
   (
   ∃ w4 : World, (Instr.storeAt 5 (.pointer (some ⟨p10, o11 + ((IntKind.i64.wrap ((n1 : Int) + i8))).toNat * 1 + 0, none⟩)) (.int .u8 (IntKind.u8.wrap i9))).run Tryd.prog w3 = .ok () w4 ∧ (Go.Sx.Fr S w0 w4 ∧ Go.Sx.Mild [] w3 w4) ∧ 
   (I0 (IntKind.i64.wrap (i8 + (1 : Int))) w4 ∧ M0 (IntKind.i64.wrap (i8 + (1 : Int))) w4 < M0 i8 w3))))) ∧
  ((8 : Int) ≤ i8 →
  (R (.returned (.slice A4 n5 n6)) w3))))))) :
    Calls Tryd.prog 53 #[(.slice A0 n1 n2), (.int .i64 i3)] w0 R :=
  Go.Sx.fn_sound0 (P := Tryd.prog) (S := S) (w0 := w0) (R := R) (ws := []) (an := [⟨999999, [], [], 0⟩]) (f := 53) (n := 4) (xs := [.one (.slice (.var 0) (.var 1) (.var 2)), .one (.int .i64 (.var 3))]) (e := [.a A0, .n n1, .n n2, .i i3]) rfl (by kernel_rfl) (Eq.mp (by kernel_rfl) h)


/-- tracery/traceryref08.Text: what is left of it. -/
theorem ref08Text_sx (R : Ending → World → Prop) (S : Nat → Prop) (w0 : World) (A0 : Option Addr) (n1 : Nat) (n2 : Nat) (s3 : ByteArray) (h :
 ∀ g4 : Nat, w0.heap.size ≤ g4 → (∀ w1 : World, Go.Sx.Fr S w0 w1 → Below w0.heap.size w0 w1 → w0.heap.size ≤ g4 → w1.heap[g4]? = some (.cells #[] 5 (0, 0)) → 
 ∃ w2 : World, ∃ A5 : Option Addr, ∃ n6 : Nat, ∃ n7 : Nat, (Builtin.append_ #[22, 22] 22 #[(.slice (some ⟨g4, 0, none⟩) 0 0), (.slice A0 n1 n2)]).run Tryd.prog w1 = .ok (.slice A5 n6 n7) w2 ∧ (Go.Sx.Fr S w0 w2 ∧ Go.Sx.Mild [g4] w1 w2) ∧ 
 ∀ g8 : Nat, w0.heap.size ≤ g8 → (∀ w3 : World, Go.Sx.Fr S w0 w3 → Below w2.heap.size w2 w3 → w2.heap.size ≤ g8 → w3.heap[g8]? = some (.cells #[.int .u8 (IntKind.u8.wrap ((s3).size : Int))] 5 (0, 0)) → 
 ∃ w4 : World, ∃ A9 : Option Addr, ∃ n10 : Nat, ∃ n11 : Nat, (Builtin.append_ #[22, 22] 22 #[(.slice A5 n6 n7), (.slice (some ⟨g8, 0, none⟩) 1 1)]).run Tryd.prog w3 = .ok (.slice A9 n10 n11) w4 ∧ (Go.Sx.Fr S w0 w4 ∧ Go.Sx.Mild [g8, g4] w3 w4) ∧ 
 (
 ∃ w5 : World, ∃ A12 : Option Addr, ∃ n13 : Nat, ∃ n14 : Nat, (convert 9 22 (.string s3)).run Tryd.prog w4 = .ok (.slice A12 n13 n14) w5 ∧ (Go.Sx.Fr S w0 w5 ∧ Go.Sx.Mild [g8, g4] w4 w5) ∧ 
 (
 ∃ w6 : World, ∃ A15 : Option Addr, ∃ n16 : Nat, ∃ n17 : Nat, (Builtin.append_ #[22, 22] 22 #[(.slice A9 n10 n11), (.slice A12 n13 n14)]).run Tryd.prog w5 = .ok (.slice A15 n16 n17) w6 ∧ (Go.Sx.Fr S w0 w6 ∧ Go.Sx.Mild [g8, g4] w5 w6) ∧ 
 (R (.returned (.slice A15 n16 n17)) w6)))))) :
    Calls Tryd.prog 42 #[(.slice A0 n1 n2), (.string s3)] w0 R :=
  Go.Sx.fn_sound0 (P := Tryd.prog) (S := S) (w0 := w0) (R := R) (ws := []) (an := [⟨999999, [], [], 0⟩]) (f := 42) (n := 4) (xs := [.one (.slice (.var 0) (.var 1) (.var 2)), .one (.str (.var 3))]) (e := [.a A0, .n n1, .n n2, .s s3]) rfl (by kernel_rfl) (Eq.mp (by kernel_rfl) h)


/-- tracery/traceryref08.Num: what is left of it. -/
theorem ref08Num_sx (R : Ending → World → Prop) (S : Nat → Prop) (w0 : World) (A0 : Option Addr) (n1 : Nat) (n2 : Nat) (i3 : Int) (h :
 ∀ g4 : Nat, w0.heap.size ≤ g4 → (∀ w1 : World, Go.Sx.Fr S w0 w1 → Below w0.heap.size w0 w1 → w0.heap.size ≤ g4 → w1.heap[g4]? = some (.cells #[] 5 (0, 0)) → 
 ∃ w2 : World, ∃ A5 : Option Addr, ∃ n6 : Nat, ∃ n7 : Nat, (Builtin.append_ #[22, 22] 22 #[(.slice (some ⟨g4, 0, none⟩) 0 0), (.slice A0 n1 n2)]).run Tryd.prog w1 = .ok (.slice A5 n6 n7) w2 ∧ (Go.Sx.Fr S w0 w2 ∧ Go.Sx.Mild [g4] w1 w2) ∧ 
 (∃ (I0 : Option Addr → Nat → Nat → Int → World → Prop) (M0 : Option Addr → Nat → Nat → Int → World → Nat), (I0 A5 n6 n7 (7 : Int) w2) ∧
 ∀ A8 : Option Addr, ∀ n9 : Nat, ∀ n10 : Nat, ∀ i11 : Int, ∀ w3 : World, Go.Sx.Fr S w0 w3 → I0 A8 n9 n10 i11 w3 → 
  (((0 : Int) ≤ i11 →
  (∃ i12 : Int, (binOp .shr 120 (.int .u64 (IntKind.u64.wrap i3)) (.int .i64 (IntKind.i64.wrap ((8 : Int) * i11)))).run Tryd.prog w3 = .ok (.int .u64 i12) w3 ∧
   ∀ g13 : Nat, w0.heap.size ≤ g13 → (∀ w4 : World, Go.Sx.Fr S w0 w4 → Below w3.heap.size w3 w4 → w3.heap.size ≤ g13 → w4.heap[g13]? = some (.cells #[.int .u8 (IntKind.u8.wrap i12)] 5 (0, 0)) → 
   ∃ w5 : World, ∃ A14 : Option Addr, ∃ n15 : Nat, ∃ n16 : Nat, (Builtin.append_ #[22, 22] 22 #[(.slice A8 n9 n10), (.slice (some ⟨g13, 0, none⟩) 1 1)]).run Tryd.prog w4 = .ok (.slice A14 n15 n16) w5 ∧ (Go.Sx.Fr S w0 w5 ∧ Go.Sx.Mild [g13, g4] w4 w5) ∧ 
   (I0 A14 n15 n16 (IntKind.i64.wrap (i11 - (1 : Int))) w5 ∧ M0 A14 n15 n16 (IntKind.i64.wrap (i11 - (1 : Int))) w5 < M0 A8 n9 n10 i11 w3)))) ∧
  (i11 < (0 : Int) →
  (R (.returned (.slice A8 n9 n10)) w3)))))) :
    Calls Tryd.prog 44 #[(.slice A0 n1 n2), (.int .i64 i3)] w0 R :=
  Go.Sx.fn_sound0 (P := Tryd.prog) (S := S) (w0 := w0) (R := R) (ws := []) (an := [⟨999999, [], [], 0⟩]) (f := 44) (n := 4) (xs := [.one (.slice (.var 0) (.var 1) (.var 2)), .one (.int .i64 (.var 3))]) (e := [.a A0, .n n1, .n n2, .i i3]) rfl (by kernel_rfl) (Eq.mp (by kernel_rfl) h)


/-- tracery/traceryref10.corner: what is left of it. -/
theorem ref10corner_sx (R : Ending → World → Prop) (S : Nat → Prop) (w0 : World) (A0 : Option Addr) (n1 : Nat) (n2 : Nat) (i3 : Int) (i4 : Int) (i5 : Int) (i6 : Int) (i7 : Int) (h :
 ∀ g8 : Nat, w0.heap.size ≤ g8 → (∀ w1 : World, Go.Sx.Fr S w0 w1 → Below w0.heap.size w0 w1 → w0.heap.size ≤ g8 → w1.heap[g8]? = some (.cells #[.int .i64 i3, .int .i64 i4, .int .i64 i5, .int .i64 i6, .int .i64 i7] 37 (0, 0)) → 
 Calls Tryd.prog 40 #[(.slice A0 n1 n2), (.agg #[.int .i64 i3, .int .i64 i4])] w1 fun r w2 => ∃ A9 : Option Addr, ∃ n10 : Nat, ∃ n11 : Nat, r = .returned (.slice A9 n10 n11) ∧ (Go.Sx.Fr S w0 w2 ∧ Go.Sx.Mild [g8] w1 w2) ∧ 
 (∃ b12 : Bool, (binOp .eql 35 (.agg #[.int .i64 i5, .int .i64 i6, .int .i64 i7]) (.agg #[.int .i64 (0 : Int), .int .i64 (0 : Int), .int .i64 (0 : Int)])).run Tryd.prog w2 = .ok (.bool b12) w2 ∧
 ((b12 = true →
 ∀ g13 : Nat, w0.heap.size ≤ g13 → (∀ w3 : World, Go.Sx.Fr S w0 w3 → Below w2.heap.size w2 w3 → w2.heap.size ≤ g13 → w3.heap[g13]? = some (.cells #[.int .u8 (0 : Int)] 5 (0, 0)) → 
  ∃ w4 : World, ∃ A14 : Option Addr, ∃ n15 : Nat, ∃ n16 : Nat, (Builtin.append_ #[22, 22] 22 #[(.slice A9 n10 n11), (.slice (some ⟨g13, 0, none⟩) 1 1)]).run Tryd.prog w3 = .ok (.slice A14 n15 n16) w4 ∧ (Go.Sx.Fr S w0 w4 ∧ Go.Sx.Mild [g13, g8] w3 w4) ∧ 
  (R (.returned (.slice A14 n15 n16)) w4))) ∧
 (b12 = false →
 (∃ T13 : List Nat, (∀ b ∈ T13, b < w2.heap.size ∧ b ∉ [g8]) ∧
  ∀ g14 : Nat, w0.heap.size ≤ g14 → (∀ w3 : World, Go.Sx.Fr S w0 w3 → Below w2.heap.size w2 w3 → w2.heap.size ≤ g14 → w3.heap[g14]? = some (.cells #[.int .u8 (IntKind.u8.wrap (IntKind.i64.wrap (i7 + (1 : Int))))] 5 (0, 0)) → 
  ∃ w4 : World, ∃ A15 : Option Addr, ∃ n16 : Nat, ∃ n17 : Nat, (Builtin.append_ #[22, 22] 22 #[(.slice A9 n10 n11), (.slice (some ⟨g14, 0, none⟩) 1 1)]).run Tryd.prog w3 = .ok (.slice A15 n16 n17) w4 ∧ (Go.Sx.Fr S w0 w4 ∧ Go.Sx.Mild [g14, g8] w3 w4) ∧ Go.Sx.Keep w2.heap.size (T13 ++ []) w3 w4 ∧ 
  (
  Calls Tryd.prog 40 #[(.slice A15 n16 n17), (.agg #[.int .i64 i5, .int .i64 i6])] w4 fun r w5 => ∃ A18 : Option Addr, ∃ n19 : Nat, ∃ n20 : Nat, r = .returned (.slice A18 n19 n20) ∧ (Go.Sx.Fr S w0 w5 ∧ Go.Sx.Mild [g14, g8] w4 w5) ∧ 
  (R (.returned (.slice A18 n19 n20)) w5))))))))) :
    Calls Tryd.prog 41 #[(.slice A0 n1 n2), (.agg #[.int .i64 i3, .int .i64 i4, .int .i64 i5, .int .i64 i6, .int .i64 i7])] w0 R :=
  Go.Sx.fn_sound0 (P := Tryd.prog) (S := S) (w0 := w0) (R := R) (ws := []) (an := [⟨999999, [], [], 0⟩, ⟨999998, [], [], 0⟩]) (f := 41) (n := 8) (xs := [.one (.slice (.var 0) (.var 1) (.var 2)), .agg [.int .i64 (.var 3), .int .i64 (.var 4), .int .i64 (.var 5), .int .i64 (.var 6), .int .i64 (.var 7)]]) (e := [.a A0, .n n1, .n n2, .i i3, .i i4, .i i5, .i i6, .i i7]) rfl (by kernel_rfl) (Eq.mp (by kernel_rfl) h)


/-- tracery/traceryref10.flag: what is left of it. -/
theorem ref10flag_sx (R : Ending → World → Prop) (S : Nat → Prop) (w0 : World) (b0 : Bool) (h :
 ((b0 = true →
 (R (.returned (.int .u8 (1 : Int))) w0)) ∧
 (b0 = false →
 (R (.returned (.int .u8 (0 : Int))) w0)))) :
    Calls Tryd.prog 43 #[(.bool b0)] w0 R :=
  Go.Sx.fn_sound0 (P := Tryd.prog) (S := S) (w0 := w0) (R := R) (ws := []) (an := []) (f := 43) (n := 1) (xs := [.one (.bool (.var 0))]) (e := [.b b0]) rfl (by kernel_rfl) (Eq.mp (by kernel_rfl) h)


/-- tracery/traceryref10.Put: what is left of it. -/
theorem ref10Put_sx (R : Ending → World → Prop) (S : Nat → Prop) (w0 : World) (A0 : Option Addr) (n1 : Nat) (n2 : Nat) (A3 : Option Addr) (n4 : Nat) (n5 : Nat) (h :
 ∀ g6 : Nat, w0.heap.size ≤ g6 → (∀ w1 : World, Go.Sx.Fr S w0 w1 → Below w0.heap.size w0 w1 → w0.heap.size ≤ g6 → w1.heap[g6]? = some (.cells #[.slice A3 n4 n5] 25 (0, 0)) → 
 Calls Tryd.prog 39 #[(.agg #[.slice A3 n4 n5])] w1 fun r w2 => ∃ i7 : Int, r = .returned (.int .i64 i7) ∧ (Go.Sx.Fr S w0 w2 ∧ Go.Sx.Mild [g6] w1 w2) ∧ 
 ((¬ i7 = (0 : Int) →
 (R (.returned (.tuple #[.slice none 0 0, .int .i64 i7])) w2)) ∧
 (i7 = (0 : Int) →
 ∀ g8 : Nat, w0.heap.size ≤ g8 → (∀ w3 : World, Go.Sx.Fr S w0 w3 → Below w2.heap.size w2 w3 → w2.heap.size ≤ g8 → w3.heap[g8]? = some (.cells #[] 5 (0, 0)) → 
  ∃ w4 : World, ∃ A9 : Option Addr, ∃ n10 : Nat, ∃ n11 : Nat, (Builtin.append_ #[22, 22] 22 #[(.slice (some ⟨g8, 0, none⟩) 0 0), (.slice A0 n1 n2)]).run Tryd.prog w3 = .ok (.slice A9 n10 n11) w4 ∧ (Go.Sx.Fr S w0 w4 ∧ Go.Sx.Mild [g8, g6] w3 w4) ∧ 
  ∀ g12 : Nat, w0.heap.size ≤ g12 → (∀ w5 : World, Go.Sx.Fr S w0 w5 → Below w4.heap.size w4 w5 → w4.heap.size ≤ g12 → w5.heap[g12]? = some (.cells #[.int .u8 (IntKind.u8.wrap (n4 : Int))] 5 (0, 0)) → 
  ∃ w6 : World, ∃ A13 : Option Addr, ∃ n14 : Nat, ∃ n15 : Nat, (Builtin.append_ #[22, 22] 22 #[(.slice A9 n10 n11), (.slice (some ⟨g12, 0, none⟩) 1 1)]).run Tryd.prog w5 = .ok (.slice A13 n14 n15) w6 ∧ (Go.Sx.Fr S w0 w6 ∧ Go.Sx.Mild [g12, g8, g6] w5 w6) ∧ 
  (∃ (I0 : Option Addr → Nat → Nat → Int → World → Prop) (M0 : Option Addr → Nat → Nat → Int → World → Nat), (I0 A13 n14 n15 (0 : Int) w6) ∧
  ∀ A16 : Option Addr, ∀ n17 : Nat, ∀ n18 : Nat, ∀ i19 : Int, ∀ w7 : World, Go.Sx.Fr S w0 w7 → I0 A16 n17 n18 i19 w7 → 
   ((i19 < (n4 : Int) →
   ((0 : Int) ≤ i19 ∧ i19 < (n4 : Int) ∧ ∃ p20 : Nat, ∃ o21 : Nat, A3 = some ⟨p20, o21, none⟩ ∧
    (∃ i22 : Int, ∃ i23 : Int, ∃ i24 : Int, ∃ i25 : Int, ∃ i26 : Int, ∃ i27 : Int, ∃ i28 : Int, ∃ i29 : Int, ∃ i30 : Int, ∃ i31 : Int, ∃ i32 : Int, ∃ i33 : Int, ∃ i34 : Int, ∃ i35 : Int, ∃ i36 : Int, ∃ i37 : Int, ∃ i38 : Int, ∃ b39 : Bool, ∃ s40 : ByteArray, ∃ i41 : Int, Go.Sx.CellsAt w7 p20 (o21 + (i19).toNat * 20 + 0) [.int .i64 i22, .int .i64 i23, .int .i64 i24, .int .i64 i25, .int .i64 i26, .int .i64 i27, .int .i64 i28, .int .i64 i29, .int .i64 i30, .int .i64 i31, .int .i64 i32, .int .i64 i33, .int .i64 i34, .int .i64 i35, .int .i64 i36, .int .i64 i37, .int .i64 i38, .bool b39, .string s40, .int .i64 i41] ∧ 
    ∀ g42 : Nat, w0.heap.size ≤ g42 → (∀ w8 : World, Go.Sx.Fr S w0 w8 → Below w7.heap.size w7 w8 → w7.heap.size ≤ g42 → w8.heap[g42]? = some (.cells #[.int .i64 i22, .int .i64 i23, .int .i64 i24, .int .i64 i25, .int .i64 i26, .int .i64 i27, .int .i64 i28, .int .i64 i29, .int .i64 i30, .int .i64 i31, .int .i64 i32, .int .i64 i33, .int .i64 i34, .int .i64 i35, .int .i64 i36, .int .i64 i37, .int .i64 i38, .bool b39, .string s40, .int .i64 i41] 39 (0, 0)) → ∃ T43 : List Nat, (∀ b ∈ T43, b < w8.heap.size ∧ b ∉ [g42, g12, g8, g6]) ∧
    ∀ g44 : Nat, w0.heap.size ≤ g44 → (∀ w9 : World, Go.Sx.Fr S w0 w9 → Below w8.heap.size w8 w9 → w8.heap.size ≤ g44 → w9.heap[g44]? = some (.cells #[.int .u8 (IntKind.u8.wrap i22)] 5 (0, 0)) → 
    ∃ w10 : World, ∃ A45 : Option Addr, ∃ n46 : Nat, ∃ n47 : Nat, (Builtin.append_ #[22, 22] 22 #[(.slice A16 n17 n18), (.slice (some ⟨g44, 0, none⟩) 1 1)]).run Tryd.prog w9 = .ok (.slice A45 n46 n47) w10 ∧ (Go.Sx.Fr S w0 w10 ∧ Go.Sx.Mild [g44, g42, g12, g8, g6] w9 w10) ∧ Go.Sx.Keep w8.heap.size (T43 ++ []) w9 w10 ∧ 
    (
    Calls Tryd.prog 40 #[(.slice A45 n46 n47), (.agg #[.int .i64 i23, .int .i64 i24])] w10 fun r w11 => ∃ A48 : Option Addr, ∃ n49 : Nat, ∃ n50 : Nat, r = .returned (.slice A48 n49 n50) ∧ (Go.Sx.Fr S w0 w11 ∧ Go.Sx.Mild [g44, g42, g12, g8, g6] w10 w11) ∧ 
    ((i22 = (3 : Int) →
    (∃ T51 : List Nat, (∀ b ∈ T51, b < w11.heap.size ∧ b ∉ [g44, g42, g12, g8, g6]) ∧
     (∀ w12 : World, Go.Sx.Fr S w0 w12 → Below w11.heap.size w11 w12 → 
     Calls Tryd.prog 41 #[(.slice A48 n49 n50), (.agg #[.int .i64 i29, .int .i64 i30, .int .i64 i31, .int .i64 i32, .int .i64 i33])] w12 fun r w13 => ∃ A52 : Option Addr, ∃ n53 : Nat, ∃ n54 : Nat, r = .returned (.slice A52 n53 n54) ∧ (Go.Sx.Fr S w0 w13 ∧ Go.Sx.Mild [g44, g42, g12, g8, g6] w12 w13) ∧ Go.Sx.Keep w11.heap.size (T51 ++ []) w12 w13 ∧ 
     (
     Calls Tryd.prog 41 #[(.slice A52 n53 n54), (.agg #[.int .i64 i34, .int .i64 i35, .int .i64 i36, .int .i64 i37, .int .i64 i38])] w13 fun r w14 => ∃ A55 : Option Addr, ∃ n56 : Nat, ∃ n57 : Nat, r = .returned (.slice A55 n56 n57) ∧ (Go.Sx.Fr S w0 w14 ∧ Go.Sx.Mild [g44, g42, g12, g8, g6] w13 w14) ∧ 
     (I0 A55 n56 n57 (IntKind.i64.wrap (i19 + (1 : Int))) w14 ∧ M0 A55 n56 n57 (IntKind.i64.wrap (i19 + (1 : Int))) w14 < M0 A16 n17 n18 i19 w7))))) ∧
    (¬ i22 = (3 : Int) →
    ((i22 = (5 : Int) →
     (∃ T51 : List Nat, (∀ b ∈ T51, b < w11.heap.size ∧ b ∉ [g44, g42, g12, g8, g6]) ∧
      (((∀ w12 : World, Go.Sx.Fr S w0 w12 → Below w11.heap.size w11 w12 → 
      Calls Tryd.prog 40 #[(.slice A48 n49 n50), (.agg #[.int .i64 i25, .int .i64 i26])] w12 fun r w13 => ∃ A52 : Option Addr, ∃ n53 : Nat, ∃ n54 : Nat, r = .returned (.slice A52 n53 n54) ∧ (Go.Sx.Fr S w0 w13 ∧ Go.Sx.Mild [g44, g42, g12, g8, g6] w12 w13) ∧ Go.Sx.Keep w11.heap.size (T51 ++ []) w12 w13 ∧ 
      (((
      Calls Tryd.prog 40 #[(.slice A52 n53 n54), (.agg #[.int .i64 i27, .int .i64 i28])] w13 fun r w14 => ∃ A55 : Option Addr, ∃ n56 : Nat, ∃ n57 : Nat, r = .returned (.slice A55 n56 n57) ∧ (Go.Sx.Fr S w0 w14 ∧ Go.Sx.Mild [g44, g42, g12, g8, g6] w13 w14) ∧ Go.Sx.Keep w11.heap.size (T51 ++ []) w13 w14 ∧ 
      ∀ g58 : Nat, w0.heap.size ≤ g58 → (∀ w15 : World, Go.Sx.Fr S w0 w15 → Below w14.heap.size w14 w15 → w14.heap.size ≤ g58 → w15.heap[g58]? = some (.cells #[.int .u8 (IntKind.u8.wrap i41)] 5 (0, 0)) → 
      ∃ w16 : World, ∃ A59 : Option Addr, ∃ n60 : Nat, ∃ n61 : Nat, (Builtin.append_ #[22, 22] 22 #[(.slice A55 n56 n57), (.slice (some ⟨g58, 0, none⟩) 1 1)]).run Tryd.prog w15 = .ok (.slice A59 n60 n61) w16 ∧ (Go.Sx.Fr S w0 w16 ∧ Go.Sx.Mild [g58, g44, g42, g12, g8, g6] w15 w16) ∧ 
      (I0 A59 n60 n61 (IntKind.i64.wrap (i19 + (1 : Int))) w16 ∧ M0 A59 n60 n61 (IntKind.i64.wrap (i19 + (1 : Int))) w16 < M0 A16 n17 n18 i19 w7)))) ∧
      (∀ g55 : Nat, w0.heap.size ≤ g55 → (∀ w14 : World, Go.Sx.Fr S w0 w14 → Below w13.heap.size w13 w14 → w13.heap.size ≤ g55 → w14.heap[g55]? = some (.cells #[.int .u8 (IntKind.u8.wrap i41)] 5 (0, 0)) → 
      Calls Tryd.prog 40 #[(.slice A52 n53 n54), (.agg #[.int .i64 i27, .int .i64 i28])] w14 fun r w15 => ∃ A56 : Option Addr, ∃ n57 : Nat, ∃ n58 : Nat, r = .returned (.slice A56 n57 n58) ∧ (Go.Sx.Fr S w0 w15 ∧ Go.Sx.Mild [g55, g44, g42, g12, g8, g6] w14 w15) ∧ Go.Sx.Keep w11.heap.size (T51 ++ []) w14 w15 ∧ 
      (w15.heap[g55]? = some (.cells #[.int .u8 (IntKind.u8.wrap i41)] 5 (0, 0)) → 
      ∃ w16 : World, ∃ A59 : Option Addr, ∃ n60 : Nat, ∃ n61 : Nat, (Builtin.append_ #[22, 22] 22 #[(.slice A56 n57 n58), (.slice (some ⟨g55, 0, none⟩) 1 1)]).run Tryd.prog w15 = .ok (.slice A59 n60 n61) w16 ∧ (Go.Sx.Fr S w0 w16 ∧ Go.Sx.Mild [g55, g44, g42, g12, g8, g6] w15 w16) ∧ 
      (I0 A59 n60 n61 (IntKind.i64.wrap (i19 + (1 : Int))) w16 ∧ M0 A59 n60 n61 (IntKind.i64.wrap (i19 + (1 : Int))) w16 < M0 A16 n17 n18 i19 w7))))))) ∧
      (∀ g52 : Nat, w0.heap.size ≤ g52 → (∀ w12 : World, Go.Sx.Fr S w0 w12 → Below w11.heap.size w11 w12 → w11.heap.size ≤ g52 → w12.heap[g52]? = some (.cells #[.int .u8 (IntKind.u8.wrap i41)] 5 (0, 0)) → 
      Calls Tryd.prog 40 #[(.slice A48 n49 n50), (.agg #[.int .i64 i25, .int .i64 i26])] w12 fun r w13 => ∃ A53 : Option Addr, ∃ n54 : Nat, ∃ n55 : Nat, r = .returned (.slice A53 n54 n55) ∧ (Go.Sx.Fr S w0 w13 ∧ Go.Sx.Mild [g52, g44, g42, g12, g8, g6] w12 w13) ∧ Go.Sx.Keep w11.heap.size (T51 ++ []) w12 w13 ∧ 
      (
      Calls Tryd.prog 40 #[(.slice A53 n54 n55), (.agg #[.int .i64 i27, .int .i64 i28])] w13 fun r w14 => ∃ A56 : Option Addr, ∃ n57 : Nat, ∃ n58 : Nat, r = .returned (.slice A56 n57 n58) ∧ (Go.Sx.Fr S w0 w14 ∧ Go.Sx.Mild [g52, g44, g42, g12, g8, g6] w13 w14) ∧ Go.Sx.Keep w11.heap.size (T51 ++ []) w13 w14 ∧ 
      (w14.heap[g52]? = some (.cells #[.int .u8 (IntKind.u8.wrap i41)] 5 (0, 0)) → 
      ∃ w15 : World, ∃ A59 : Option Addr, ∃ n60 : Nat, ∃ n61 : Nat, (Builtin.append_ #[22, 22] 22 #[(.slice A56 n57 n58), (.slice (some ⟨g52, 0, none⟩) 1 1)]).run Tryd.prog w14 = .ok (.slice A59 n60 n61) w15 ∧ (Go.Sx.Fr S w0 w15 ∧ Go.Sx.Mild [g52, g44, g42, g12, g8, g6] w14 w15) ∧ 
      (I0 A59 n60 n61 (IntKind.i64.wrap (i19 + (1 : Int))) w15 ∧ M0 A59 n60 n61 (IntKind.i64.wrap (i19 + (1 : Int))) w15 < M0 A16 n17 n18 i19 w7)))))))) ∧
     (¬ i22 = (5 : Int) →
     ((i22 = (6 : Int) →
      (
       Calls Tryd.prog 40 #[(.slice A48 n49 n50), (.agg #[.int .i64 i27, .int .i64 i28])] w11 fun r w12 => ∃ A51 : Option Addr, ∃ n52 : Nat, ∃ n53 : Nat, r = .returned (.slice A51 n52 n53) ∧ (Go.Sx.Fr S w0 w12 ∧ Go.Sx.Mild [g44, g42, g12, g8, g6] w11 w12) ∧ 
       (I0 A51 n52 n53 (IntKind.i64.wrap (i19 + (1 : Int))) w12 ∧ M0 A51 n52 n53 (IntKind.i64.wrap (i19 + (1 : Int))) w12 < M0 A16 n17 n18 i19 w7))) ∧
      (¬ i22 = (6 : Int) →
      ((i22 = (7 : Int) →
       (∃ T51 : List Nat, (∀ b ∈ T51, b < w11.heap.size ∧ b ∉ [g44, g42, g12, g8, g6]) ∧
        (∀ w12 : World, Go.Sx.Fr S w0 w12 → Below w11.heap.size w11 w12 → 
        Calls Tryd.prog 43 #[(.bool b39)] w12 fun r w13 => ∃ i52 : Int, r = .returned (.int .u8 i52) ∧ (Go.Sx.Fr S w0 w13 ∧ Go.Sx.Mild [g44, g42, g12, g8, g6] w12 w13) ∧ Go.Sx.Keep w11.heap.size (T51 ++ []) w12 w13 ∧ 
        ∀ g53 : Nat, w0.heap.size ≤ g53 → (∀ w14 : World, Go.Sx.Fr S w0 w14 → Below w13.heap.size w13 w14 → w13.heap.size ≤ g53 → w14.heap[g53]? = some (.cells #[.int .u8 i52] 5 (0, 0)) → 
        ∃ w15 : World, ∃ A54 : Option Addr, ∃ n55 : Nat, ∃ n56 : Nat, (Builtin.append_ #[22, 22] 22 #[(.slice A48 n49 n50), (.slice (some ⟨g53, 0, none⟩) 1 1)]).run Tryd.prog w14 = .ok (.slice A54 n55 n56) w15 ∧ (Go.Sx.Fr S w0 w15 ∧ Go.Sx.Mild [g53, g44, g42, g12, g8, g6] w14 w15) ∧ Go.Sx.Keep w11.heap.size (T51 ++ []) w14 w15 ∧ 
        (
        Calls Tryd.prog 42 #[(.slice A54 n55 n56), (.string s40)] w15 fun r w16 => ∃ A57 : Option Addr, ∃ n58 : Nat, ∃ n59 : Nat, r = .returned (.slice A57 n58 n59) ∧ (Go.Sx.Fr S w0 w16 ∧ Go.Sx.Mild [g53, g44, g42, g12, g8, g6] w15 w16) ∧ 
        (I0 A57 n58 n59 (IntKind.i64.wrap (i19 + (1 : Int))) w16 ∧ M0 A57 n58 n59 (IntKind.i64.wrap (i19 + (1 : Int))) w16 < M0 A16 n17 n18 i19 w7)))))) ∧
       (¬ i22 = (7 : Int) →
       ((i22 = (8 : Int) →
        (∃ T51 : List Nat, (∀ b ∈ T51, b < w11.heap.size ∧ b ∉ [g44, g42, g12, g8, g6]) ∧
         (∀ w12 : World, Go.Sx.Fr S w0 w12 → Below w11.heap.size w11 w12 → 
         Calls Tryd.prog 43 #[(.bool b39)] w12 fun r w13 => ∃ i52 : Int, r = .returned (.int .u8 i52) ∧ (Go.Sx.Fr S w0 w13 ∧ Go.Sx.Mild [g44, g42, g12, g8, g6] w12 w13) ∧ Go.Sx.Keep w11.heap.size (T51 ++ []) w12 w13 ∧ 
         ∀ g53 : Nat, w0.heap.size ≤ g53 → (∀ w14 : World, Go.Sx.Fr S w0 w14 → Below w13.heap.size w13 w14 → w13.heap.size ≤ g53 → w14.heap[g53]? = some (.cells #[.int .u8 i52] 5 (0, 0)) → 
         ∃ w15 : World, ∃ A54 : Option Addr, ∃ n55 : Nat, ∃ n56 : Nat, (Builtin.append_ #[22, 22] 22 #[(.slice A48 n49 n50), (.slice (some ⟨g53, 0, none⟩) 1 1)]).run Tryd.prog w14 = .ok (.slice A54 n55 n56) w15 ∧ (Go.Sx.Fr S w0 w15 ∧ Go.Sx.Mild [g53, g44, g42, g12, g8, g6] w14 w15) ∧ Go.Sx.Keep w11.heap.size (T51 ++ []) w14 w15 ∧ 
         (
         Calls Tryd.prog 44 #[(.slice A54 n55 n56), (.int .i64 i41)] w15 fun r w16 => ∃ A57 : Option Addr, ∃ n58 : Nat, ∃ n59 : Nat, r = .returned (.slice A57 n58 n59) ∧ (Go.Sx.Fr S w0 w16 ∧ Go.Sx.Mild [g53, g44, g42, g12, g8, g6] w15 w16) ∧ 
         (I0 A57 n58 n59 (IntKind.i64.wrap (i19 + (1 : Int))) w16 ∧ M0 A57 n58 n59 (IntKind.i64.wrap (i19 + (1 : Int))) w16 < M0 A16 n17 n18 i19 w7)))))) ∧
        (¬ i22 = (8 : Int) →
        (I0 A48 n49 n50 (IntKind.i64.wrap (i19 + (1 : Int))) w11 ∧ M0 A48 n49 n50 (IntKind.i64.wrap (i19 + (1 : Int))) w11 < M0 A16 n17 n18 i19 w7))))))))))))))))) ∧
   ((n4 : Int) ≤ i19 →
   (R (.returned (.tuple #[.slice A16 n17 n18, .int .i64 (0 : Int)])) w7)))))))))) :
    Calls Tryd.prog 17 #[(.slice A0 n1 n2), (.agg #[.slice A3 n4 n5])] w0 R :=
  Go.Sx.fn_sound0 (P := Tryd.prog) (S := S) (w0 := w0) (R := R) (ws := []) (an := [⟨999999, [], [], 0⟩, ⟨999998, [], [], 0⟩]) (f := 17) (n := 6) (xs := [.one (.slice (.var 0) (.var 1) (.var 2)), .agg [.slice (.var 3) (.var 4) (.var 5)]]) (e := [.a A0, .n n1, .n n2, .a A3, .n n4, .n n5]) rfl (by kernel_rfl) (Eq.mp (by kernel_rfl) h)


/-- (*tracery/opcode.writer).ids: what is left of it. -/
theorem wids_sx (R : Ending → World → Prop) (S : Nat → Prop) (w0 : World) (v0 : Value) (A1 : Option Addr) (n2 : Nat) (n3 : Nat) (h :
 (∃ (I0 : Int → World → Prop) (M0 : Int → World → Nat), (I0 (0 : Int) w0) ∧
 ∀ i4 : Int, ∀ w1 : World, Go.Sx.Fr S w0 w1 → I0 i4 w1 → 
  ((i4 < (n2 : Int) →
  ((0 : Int) ≤ i4 ∧ i4 < (n2 : Int) ∧ ∃ p5 : Nat, ∃ o6 : Nat, A1 = some ⟨p5, o6, none⟩ ∧
   (∃ i7 : Int, ∃ i8 : Int, Go.Sx.CellsAt w1 p5 (o6 + (i4).toNat * 2 + 0) [.int .i64 i7, .int .i64 i8] ∧ 
   ∀ g9 : Nat, w0.heap.size ≤ g9 → (∀ w2 : World, Go.Sx.Fr S w0 w2 → Below w1.heap.size w1 w2 → w1.heap.size ≤ g9 → w2.heap[g9]? = some (.cells #[.int .i64 i7, .int .i64 i8] 33 (0, 0)) → 
   (∃ p11 : Nat, ∃ o12 : Nat, v0 = .pointer (some ⟨p11, o12, none⟩) ∧
   (∀ w3 : World, Go.Sx.Fr S w0 w3 → Below w2.heap.size w2 w3 → 
   Calls Tryd.prog 91 #[(.slice none 0 0), (.agg #[.int .i64 i7, .int .i64 i8])] w3 fun r w4 => ∃ A13 : Option Addr, ∃ n14 : Nat, ∃ n15 : Nat, r = .returned (.slice A13 n14 n15) ∧ (Go.Sx.Fr S w0 w4 ∧ Go.Sx.Mild [g9] w3 w4) ∧ 
   (
   Calls Tryd.prog 35 #[(.pointer (some ⟨p11, o12 + ((0 : Int)).toNat * 0 + 0, none⟩)), (.slice A13 n14 n15)] w4 fun r w5 => ∃ i16 : Int, ∃ v17 : Value, r = .returned (.tuple #[.int .i64 i16, v17]) ∧ (Go.Sx.Fr S w0 w5 ∧ Go.Sx.Mild [g9] w4 w5) ∧ 
   (I0 (IntKind.i64.wrap (i4 + (1 : Int))) w5 ∧ M0 (IntKind.i64.wrap (i4 + (1 : Int))) w5 < M0 i4 w1)))))))) ∧
  ((n2 : Int) ≤ i4 →
  (R (.returned (.tuple #[])) w1))))) :
    Calls Tryd.prog 65 #[(v0), (.slice A1 n2 n3)] w0 R :=
  Go.Sx.fn_sound0 (P := Tryd.prog) (S := S) (w0 := w0) (R := R) (ws := []) (an := [⟨999999, [], [], 0⟩]) (f := 65) (n := 4) (xs := [.one (.val 0), .one (.slice (.var 1) (.var 2) (.var 3))]) (e := [.v v0, .a A1, .n n2, .n n3]) rfl (by kernel_rfl) (Eq.mp (by kernel_rfl) h)


/-- (*tracery/opcode.writer).corner: what is left of it. -/
theorem wcorner_sx (R : Ending → World → Prop) (S : Nat → Prop) (w0 : World) (v0 : Value) (i1 : Int) (i2 : Int) (i3 : Int) (i4 : Int) (i5 : Int) (h :
 ∀ g6 : Nat, w0.heap.size ≤ g6 → ∀ g7 : Nat, w0.heap.size ≤ g7 → (∀ w1 : World, Go.Sx.Fr S w0 w1 → Below w0.heap.size w0 w1 → w0.heap.size ≤ g7 → w1.heap[g7]? = some (.cells #[.int .i64 i1, .int .i64 i2] 33 (0, 0)) → w0.heap.size ≤ g6 → w1.heap[g6]? = some (.cells #[.int .i64 i1, .int .i64 i2, .int .i64 i3, .int .i64 i4, .int .i64 i5] 37 (0, 0)) → 
 Calls Tryd.prog 65 #[(v0), (.slice (some ⟨g7, 0, none⟩) 1 1)] w1 fun r w2 => r = .returned (.tuple #[]) ∧ (Go.Sx.Fr S w0 w2 ∧ Go.Sx.Mild [g7, g6] w1 w2) ∧ 
 (∃ b8 : Bool, (binOp .eql 35 (.agg #[.int .i64 i3, .int .i64 i4, .int .i64 i5]) (.agg #[.int .i64 (0 : Int), .int .i64 (0 : Int), .int .i64 (0 : Int)])).run Tryd.prog w2 = .ok (.bool b8) w2 ∧
 ((b8 = true →
 (∃ p9 : Nat, ∃ o10 : Nat, v0 = .pointer (some ⟨p9, o10, none⟩) ∧
  (
  Calls Tryd.prog 36 #[(.pointer (some ⟨p9, o10 + ((0 : Int)).toNat * 0 + 0, none⟩)), (.int .u8 (0 : Int))] w2 fun r w3 => ∃ v11 : Value, r = .returned (v11) ∧ (Go.Sx.Fr S w0 w3 ∧ Go.Sx.Mild [g7, g6] w2 w3) ∧ 
  (R (.returned (.tuple #[])) w3)))) ∧
 (b8 = false →
 (
  (∃ p10 : Nat, ∃ o11 : Nat, v0 = .pointer (some ⟨p10, o11, none⟩) ∧
  (∀ w3 : World, Go.Sx.Fr S w0 w3 → Below w2.heap.size w2 w3 → 
  Calls Tryd.prog 36 #[(.pointer (some ⟨p10, o11 + ((0 : Int)).toNat * 0 + 0, none⟩)), (.int .u8 (IntKind.u8.wrap (IntKind.i64.wrap (i5 + (1 : Int)))))] w3 fun r w4 => ∃ v12 : Value, r = .returned (v12) ∧ (Go.Sx.Fr S w0 w4 ∧ Go.Sx.Mild [g7, g6] w3 w4) ∧ 
  ∀ g13 : Nat, w0.heap.size ≤ g13 → (∀ w5 : World, Go.Sx.Fr S w0 w5 → Below w4.heap.size w4 w5 → w4.heap.size ≤ g13 → w5.heap[g13]? = some (.cells #[.int .i64 i3, .int .i64 i4] 33 (0, 0)) → 
  Calls Tryd.prog 65 #[(v0), (.slice (some ⟨g13, 0, none⟩) 1 1)] w5 fun r w6 => r = .returned (.tuple #[]) ∧ (Go.Sx.Fr S w0 w6 ∧ Go.Sx.Mild [g13, g7, g6] w5 w6) ∧ 
  (R (.returned (.tuple #[])) w6)))))))))) :
    Calls Tryd.prog 66 #[(v0), (.agg #[.int .i64 i1, .int .i64 i2, .int .i64 i3, .int .i64 i4, .int .i64 i5])] w0 R :=
  Go.Sx.fn_sound0 (P := Tryd.prog) (S := S) (w0 := w0) (R := R) (ws := []) (an := [⟨999999, [], [], 0⟩]) (f := 66) (n := 6) (xs := [.one (.val 0), .agg [.int .i64 (.var 1), .int .i64 (.var 2), .int .i64 (.var 3), .int .i64 (.var 4), .int .i64 (.var 5)]]) (e := [.v v0, .i i1, .i i2, .i i3, .i i4, .i i5]) rfl (by kernel_rfl) (Eq.mp (by kernel_rfl) h)


/-- (*tracery/opcode.writer).flag: what is left of it. -/
theorem wflag_sx (R : Ending → World → Prop) (S : Nat → Prop) (w0 : World) (v0 : Value) (b1 : Bool) (h :
 ((b1 = true →
 (∃ p2 : Nat, ∃ o3 : Nat, v0 = .pointer (some ⟨p2, o3, none⟩) ∧
  (
  Calls Tryd.prog 36 #[(.pointer (some ⟨p2, o3 + ((0 : Int)).toNat * 0 + 0, none⟩)), (.int .u8 (1 : Int))] w0 fun r w1 => ∃ v4 : Value, r = .returned (v4) ∧ (Go.Sx.Fr S w0 w1 ∧ Go.Sx.Mild [] w0 w1) ∧ 
  (R (.returned (.tuple #[])) w1)))) ∧
 (b1 = false →
 (∃ p2 : Nat, ∃ o3 : Nat, v0 = .pointer (some ⟨p2, o3, none⟩) ∧
  (
  Calls Tryd.prog 36 #[(.pointer (some ⟨p2, o3 + ((0 : Int)).toNat * 0 + 0, none⟩)), (.int .u8 (0 : Int))] w0 fun r w1 => ∃ v4 : Value, r = .returned (v4) ∧ (Go.Sx.Fr S w0 w1 ∧ Go.Sx.Mild [] w0 w1) ∧ 
  (R (.returned (.tuple #[])) w1)))))) :
    Calls Tryd.prog 67 #[(v0), (.bool b1)] w0 R :=
  Go.Sx.fn_sound0 (P := Tryd.prog) (S := S) (w0 := w0) (R := R) (ws := []) (an := [⟨999999, [], [], 0⟩]) (f := 67) (n := 2) (xs := [.one (.val 0), .one (.bool (.var 1))]) (e := [.v v0, .b b1]) rfl (by kernel_rfl) (Eq.mp (by kernel_rfl) h)


/-- (*tracery/opcode.writer).op: what is left of it. -/
theorem wop_sx (R : Ending → World → Prop) (S : Nat → Prop) (w0 : World) (v0 : Value) (i1 : Int) (i2 : Int) (i3 : Int) (i4 : Int) (i5 : Int) (i6 : Int) (i7 : Int) (i8 : Int) (i9 : Int) (i10 : Int) (i11 : Int) (i12 : Int) (i13 : Int) (i14 : Int) (i15 : Int) (i16 : Int) (i17 : Int) (b18 : Bool) (s19 : ByteArray) (i20 : Int) (h :
 ∀ g21 : Nat, w0.heap.size ≤ g21 → (∀ w1 : World, Go.Sx.Fr S w0 w1 → Below w0.heap.size w0 w1 → w0.heap.size ≤ g21 → w1.heap[g21]? = some (.cells #[.int .i64 i1, .int .i64 i2, .int .i64 i3, .int .i64 i4, .int .i64 i5, .int .i64 i6, .int .i64 i7, .int .i64 i8, .int .i64 i9, .int .i64 i10, .int .i64 i11, .int .i64 i12, .int .i64 i13, .int .i64 i14, .int .i64 i15, .int .i64 i16, .int .i64 i17, .bool b18, .string s19, .int .i64 i20] 39 (0, 0)) → 
 (∃ p23 : Nat, ∃ o24 : Nat, v0 = .pointer (some ⟨p23, o24, none⟩) ∧
 (∀ w2 : World, Go.Sx.Fr S w0 w2 → Below w1.heap.size w1 w2 → 
 Calls Tryd.prog 36 #[(.pointer (some ⟨p23, o24 + ((0 : Int)).toNat * 0 + 0, none⟩)), (.int .u8 (IntKind.u8.wrap i1))] w2 fun r w3 => ∃ v25 : Value, r = .returned (v25) ∧ (Go.Sx.Fr S w0 w3 ∧ Go.Sx.Mild [g21] w2 w3) ∧ 
 ∀ g26 : Nat, w0.heap.size ≤ g26 → (∀ w4 : World, Go.Sx.Fr S w0 w4 → Below w3.heap.size w3 w4 → w3.heap.size ≤ g26 → w4.heap[g26]? = some (.cells #[.int .i64 i2, .int .i64 i3] 33 (0, 0)) → 
 Calls Tryd.prog 65 #[(v0), (.slice (some ⟨g26, 0, none⟩) 1 1)] w4 fun r w5 => r = .returned (.tuple #[]) ∧ (Go.Sx.Fr S w0 w5 ∧ Go.Sx.Mild [g26, g21] w4 w5) ∧ 
 ((i1 = (3 : Int) →
 (
  Calls Tryd.prog 66 #[(v0), (.agg #[.int .i64 i8, .int .i64 i9, .int .i64 i10, .int .i64 i11, .int .i64 i12])] w5 fun r w6 => r = .returned (.tuple #[]) ∧ (Go.Sx.Fr S w0 w6 ∧ Go.Sx.Mild [g26, g21] w5 w6) ∧ 
  (
  Calls Tryd.prog 66 #[(v0), (.agg #[.int .i64 i13, .int .i64 i14, .int .i64 i15, .int .i64 i16, .int .i64 i17])] w6 fun r w7 => r = .returned (.tuple #[]) ∧ (Go.Sx.Fr S w0 w7 ∧ Go.Sx.Mild [g26, g21] w6 w7) ∧ 
  (R (.returned (.tuple #[])) w7)))) ∧
 (¬ i1 = (3 : Int) →
 ((i1 = (5 : Int) →
  ∀ g27 : Nat, w0.heap.size ≤ g27 → (∀ w6 : World, Go.Sx.Fr S w0 w6 → Below w5.heap.size w5 w6 → w5.heap.size ≤ g27 → w6.heap[g27]? = some (.cells #[.int .i64 i4, .int .i64 i5, .int .i64 i6, .int .i64 i7] 33 (0, 0)) → 
   Calls Tryd.prog 65 #[(v0), (.slice (some ⟨g27, 0, none⟩) 2 2)] w6 fun r w7 => r = .returned (.tuple #[]) ∧ (Go.Sx.Fr S w0 w7 ∧ Go.Sx.Mild [g27, g26, g21] w6 w7) ∧ 
   (
   (∃ p29 : Nat, ∃ o30 : Nat, v0 = .pointer (some ⟨p29, o30, none⟩) ∧
   (∀ w8 : World, Go.Sx.Fr S w0 w8 → Below w7.heap.size w7 w8 → 
   Calls Tryd.prog 36 #[(.pointer (some ⟨p29, o30 + ((0 : Int)).toNat * 0 + 0, none⟩)), (.int .u8 (IntKind.u8.wrap i20))] w8 fun r w9 => ∃ v31 : Value, r = .returned (v31) ∧ (Go.Sx.Fr S w0 w9 ∧ Go.Sx.Mild [g27, g26, g21] w8 w9) ∧ 
   (R (.returned (.tuple #[])) w9)))))) ∧
  (¬ i1 = (5 : Int) →
  ((i1 = (6 : Int) →
   ∀ g27 : Nat, w0.heap.size ≤ g27 → (∀ w6 : World, Go.Sx.Fr S w0 w6 → Below w5.heap.size w5 w6 → w5.heap.size ≤ g27 → w6.heap[g27]? = some (.cells #[.int .i64 i6, .int .i64 i7] 33 (0, 0)) → 
    Calls Tryd.prog 65 #[(v0), (.slice (some ⟨g27, 0, none⟩) 1 1)] w6 fun r w7 => r = .returned (.tuple #[]) ∧ (Go.Sx.Fr S w0 w7 ∧ Go.Sx.Mild [g27, g26, g21] w6 w7) ∧ 
    (R (.returned (.tuple #[])) w7))) ∧
   (¬ i1 = (6 : Int) →
   ((i1 = (7 : Int) →
    (
     Calls Tryd.prog 67 #[(v0), (.bool b18)] w5 fun r w6 => r = .returned (.tuple #[]) ∧ (Go.Sx.Fr S w0 w6 ∧ Go.Sx.Mild [g26, g21] w5 w6) ∧ 
     (
     (∃ p28 : Nat, ∃ o29 : Nat, v0 = .pointer (some ⟨p28, o29, none⟩) ∧
     (∀ w7 : World, Go.Sx.Fr S w0 w7 → Below w6.heap.size w6 w7 → 
     Calls Tryd.prog 68 #[(.slice none 0 0), (.string s19)] w7 fun r w8 => ∃ A30 : Option Addr, ∃ n31 : Nat, ∃ n32 : Nat, r = .returned (.slice A30 n31 n32) ∧ (Go.Sx.Fr S w0 w8 ∧ Go.Sx.Mild [g26, g21] w7 w8) ∧ 
     (
     Calls Tryd.prog 35 #[(.pointer (some ⟨p28, o29 + ((0 : Int)).toNat * 0 + 0, none⟩)), (.slice A30 n31 n32)] w8 fun r w9 => ∃ i33 : Int, ∃ v34 : Value, r = .returned (.tuple #[.int .i64 i33, v34]) ∧ (Go.Sx.Fr S w0 w9 ∧ Go.Sx.Mild [g26, g21] w8 w9) ∧ 
     (R (.returned (.tuple #[])) w9))))))) ∧
    (¬ i1 = (7 : Int) →
    ((i1 = (8 : Int) →
     (
      Calls Tryd.prog 67 #[(v0), (.bool b18)] w5 fun r w6 => r = .returned (.tuple #[]) ∧ (Go.Sx.Fr S w0 w6 ∧ Go.Sx.Mild [g26, g21] w5 w6) ∧ 
      (
      (∃ p28 : Nat, ∃ o29 : Nat, v0 = .pointer (some ⟨p28, o29, none⟩) ∧
      (∀ w7 : World, Go.Sx.Fr S w0 w7 → Below w6.heap.size w6 w7 → 
      Calls Tryd.prog 53 #[(.slice none 0 0), (.int .i64 i20)] w7 fun r w8 => ∃ A30 : Option Addr, ∃ n31 : Nat, ∃ n32 : Nat, r = .returned (.slice A30 n31 n32) ∧ (Go.Sx.Fr S w0 w8 ∧ Go.Sx.Mild [g26, g21] w7 w8) ∧ 
      (
      Calls Tryd.prog 35 #[(.pointer (some ⟨p28, o29 + ((0 : Int)).toNat * 0 + 0, none⟩)), (.slice A30 n31 n32)] w8 fun r w9 => ∃ i33 : Int, ∃ v34 : Value, r = .returned (.tuple #[.int .i64 i33, v34]) ∧ (Go.Sx.Fr S w0 w9 ∧ Go.Sx.Mild [g26, g21] w8 w9) ∧ 
      (R (.returned (.tuple #[])) w9))))))) ∧
     (¬ i1 = (8 : Int) →
     (R (.returned (.tuple #[])) w5)))))))))))))))) :
    Calls Tryd.prog 37 #[(v0), (.agg #[.int .i64 i1, .int .i64 i2, .int .i64 i3, .int .i64 i4, .int .i64 i5, .int .i64 i6, .int .i64 i7, .int .i64 i8, .int .i64 i9, .int .i64 i10, .int .i64 i11, .int .i64 i12, .int .i64 i13, .int .i64 i14, .int .i64 i15, .int .i64 i16, .int .i64 i17, .bool b18, .string s19, .int .i64 i20])] w0 R :=
  Go.Sx.fn_sound0 (P := Tryd.prog) (S := S) (w0 := w0) (R := R) (ws := []) (an := [⟨999999, [], [], 0⟩]) (f := 37) (n := 21) (xs := [.one (.val 0), .agg [.int .i64 (.var 1), .int .i64 (.var 2), .int .i64 (.var 3), .int .i64 (.var 4), .int .i64 (.var 5), .int .i64 (.var 6), .int .i64 (.var 7), .int .i64 (.var 8), .int .i64 (.var 9), .int .i64 (.var 10), .int .i64 (.var 11), .int .i64 (.var 12), .int .i64 (.var 13), .int .i64 (.var 14), .int .i64 (.var 15), .int .i64 (.var 16), .int .i64 (.var 17), .bool (.var 18), .str (.var 19), .int .i64 (.var 20)]]) (e := [.v v0, .i i1, .i i2, .i i3, .i i4, .i i5, .i i6, .i i7, .i i8, .i i9, .i i10, .i i11, .i i12, .i i13, .i i14, .i i15, .i i16, .i i17, .b b18, .s s19, .i i20]) rfl (by kernel_rfl) (Eq.mp (by kernel_rfl) h)


/-- (*bytes.Buffer).Write: what is left of it. -/
theorem bufWrite_sx (R : Ending → World → Prop) (S : Nat → Prop) (w0 : World) (v0 : Value) (A1 : Option Addr) (n2 : Nat) (n3 : Nat) (h :
 (∃ p4 : Nat, ∃ o5 : Nat, v0 = .pointer (some ⟨p4, o5, none⟩) ∧
 (
 ∃ w1 : World, (Instr.storeAt 69 (.pointer (some ⟨p4, o5 + ((0 : Int)).toNat * 0 + 2, none⟩)) (.int .i8 (0 : Int))).run Tryd.prog w0 = .ok () w1 ∧ (Go.Sx.Fr S w0 w1 ∧ Go.Sx.Mild [] w0 w1) ∧ 
 (
 Calls Tryd.prog 63 #[(v0), (.int .i64 (n2 : Int))] w1 fun r w2 => ∃ i6 : Int, ∃ b7 : Bool, r = .returned (.tuple #[.int .i64 i6, .bool b7]) ∧ (Go.Sx.Fr S w0 w2 ∧ Go.Sx.Mild [] w1 w2) ∧ 
 ((b7 = false →
 (
  Calls Tryd.prog 64 #[(v0), (.int .i64 (n2 : Int))] w2 fun r w3 => ∃ i8 : Int, r = .returned (.int .i64 i8) ∧ (Go.Sx.Fr S w0 w3 ∧ Go.Sx.Mild [] w2 w3) ∧ 
  (∃ p9 : Nat, ∃ o10 : Nat, v0 = .pointer (some ⟨p9, o10, none⟩) ∧
  (∃ A11 : Option Addr, ∃ n12 : Nat, ∃ n13 : Nat, Go.Sx.CellsAt w3 p9 (o10 + ((0 : Int)).toNat * 0 + 0) [.slice A11 n12 n13] ∧ 
  (∃ A14 : Option Addr, ∃ n15 : Nat, ∃ n16 : Nat, (Instr.sliceAt 22 (.slice A11 n12 n13) (some (.int .i64 i8)) none none).run Tryd.prog w3 = .ok (.slice A14 n15 n16) w3 ∧
  (
  ∃ w4 : World, ∃ i17 : Int, (Builtin.copy_ #[22, 22] 3 #[(.slice A14 n15 n16), (.slice A1 n2 n3)]).run Tryd.prog w3 = .ok (.int .i64 i17) w4 ∧ (Go.Sx.Fr S w0 w4 ∧ Go.Sx.Mild [] w3 w4) ∧ 
  (R (.returned (.tuple #[.int .i64 i17, .nilIface])) w4))))))) ∧
 (b7 = true →
 (∃ p8 : Nat, ∃ o9 : Nat, v0 = .pointer (some ⟨p8, o9, none⟩) ∧
  (∃ A10 : Option Addr, ∃ n11 : Nat, ∃ n12 : Nat, Go.Sx.CellsAt w2 p8 (o9 + ((0 : Int)).toNat * 0 + 0) [.slice A10 n11 n12] ∧ 
  (∃ A13 : Option Addr, ∃ n14 : Nat, ∃ n15 : Nat, (Instr.sliceAt 22 (.slice A10 n11 n12) (some (.int .i64 i6)) none none).run Tryd.prog w2 = .ok (.slice A13 n14 n15) w2 ∧
  (
  ∃ w3 : World, ∃ i16 : Int, (Builtin.copy_ #[22, 22] 3 #[(.slice A13 n14 n15), (.slice A1 n2 n3)]).run Tryd.prog w2 = .ok (.int .i64 i16) w3 ∧ (Go.Sx.Fr S w0 w3 ∧ Go.Sx.Mild [] w2 w3) ∧ 
  (R (.returned (.tuple #[.int .i64 i16, .nilIface])) w3))))))))))) :
    Calls Tryd.prog 35 #[(v0), (.slice A1 n2 n3)] w0 R :=
  Go.Sx.fn_sound0 (P := Tryd.prog) (S := S) (w0 := w0) (R := R) (ws := []) (an := []) (f := 35) (n := 4) (xs := [.one (.val 0), .one (.slice (.var 1) (.var 2) (.var 3))]) (e := [.v v0, .a A1, .n n2, .n n3]) rfl (by kernel_rfl) (Eq.mp (by kernel_rfl) h)


/-- (*bytes.Buffer).Bytes: what is left of it. -/
theorem bufBytes_sx (R : Ending → World → Prop) (S : Nat → Prop) (w0 : World) (v0 : Value) (h :
 (
 (∃ p2 : Nat, ∃ o3 : Nat, v0 = .pointer (some ⟨p2, o3, none⟩) ∧
 (∀ w1 : World, Go.Sx.Fr S w0 w1 → Below w0.heap.size w0 w1 → ∃ A4 : Option Addr, ∃ n5 : Nat, ∃ n6 : Nat, Go.Sx.CellsAt w1 p2 (o3 + ((0 : Int)).toNat * 0 + 0) [.slice A4 n5 n6] ∧ (p2 < w0.heap.size ∧ p2 ∉ []) ∧ 
 (∃ p7 : Nat, ∃ o8 : Nat, v0 = .pointer (some ⟨p7, o8, none⟩) ∧
 (∃ i9 : Int, Go.Sx.CellsAt w1 p7 (o8 + ((0 : Int)).toNat * 0 + 1) [.int .i64 i9] ∧ (p7 < w0.heap.size ∧ p7 ∉ []) ∧ 
 (∃ A10 : Option Addr, ∃ n11 : Nat, ∃ n12 : Nat, (∀ w', Go.Sx.Keep w0.heap.size [] w1 w' → (Instr.sliceAt 22 (.slice A4 n5 n6) (some (.int .i64 i9)) none none).run Tryd.prog w' = .ok (.slice A10 n11 n12) w') ∧
 (R (.returned (.slice A10 n11 n12)) w1)))))))) :
    Calls Tryd.prog 38 #[(v0)] w0 R :=
  Go.Sx.fn_sound0 (P := Tryd.prog) (S := S) (w0 := w0) (R := R) (ws := []) (an := []) (f := 38) (n := 1) (xs := [.one (.val 0)]) (e := [.v v0]) rfl (by kernel_rfl) (Eq.mp (by kernel_rfl) h)


/-- tracery/opcode.Put: what is left of it. -/
theorem opcodePut_sx (R : Ending → World → Prop) (S : Nat → Prop) (w0 : World) (A0 : Option Addr) (n1 : Nat) (n2 : Nat) (A3 : Option Addr) (n4 : Nat) (n5 : Nat) (h :
 ∀ g6 : Nat, w0.heap.size ≤ g6 → (∀ w1 : World, Go.Sx.Fr S w0 w1 → Below w0.heap.size w0 w1 → w0.heap.size ≤ g6 → w1.heap[g6]? = some (.cells #[.slice A3 n4 n5] 25 (0, 0)) → 
 Calls Tryd.prog 34 #[(.agg #[.slice A3 n4 n5])] w1 fun r w2 => ∃ i7 : Int, r = .returned (.int .i64 i7) ∧ (Go.Sx.Fr S w0 w2 ∧ Go.Sx.Mild [g6] w1 w2) ∧ 
 ((¬ i7 = (0 : Int) →
 (R (.returned (.tuple #[.slice none 0 0, .int .i64 i7])) w2)) ∧
 (i7 = (0 : Int) →
 ∀ g8 : Nat, w0.heap.size ≤ g8 → (∀ w3 : World, Go.Sx.Fr S w0 w3 → Below w2.heap.size w2 w3 → w2.heap.size ≤ g8 → w3.heap[g8]? = some (.cells #[.slice none 0 0, .int .i64 (0 : Int), .int .i8 (0 : Int)] 73 (0, 0)) → 
  Calls Tryd.prog 35 #[(.pointer (some ⟨g8, 0, none⟩)), (.slice A0 n1 n2)] w3 fun r w4 => ∃ i9 : Int, ∃ v10 : Value, ∃ A11 : Option Addr, ∃ n12 : Nat, ∃ n13 : Nat, ∃ i14 : Int, ∃ i15 : Int, r = .returned (.tuple #[.int .i64 i9, v10]) ∧ (Go.Sx.Fr S w0 w4 ∧ Go.Sx.Mild [g6] w3 w4) ∧ w4.heap[g8]? = some (.cells #[.slice A11 n12 n13, .int .i64 i14, .int .i8 i15] 73 (0, 0)) ∧ 
  (w4.heap[g8]? = some (.cells #[.slice A11 n12 n13, .int .i64 i14, .int .i8 i15] 73 (0, 0)) → 
  Calls Tryd.prog 36 #[(.pointer (some ⟨g8, 0, none⟩)), (.int .u8 (IntKind.u8.wrap (n4 : Int)))] w4 fun r w5 => ∃ v16 : Value, ∃ A17 : Option Addr, ∃ n18 : Nat, ∃ n19 : Nat, ∃ i20 : Int, ∃ i21 : Int, r = .returned (v16) ∧ (Go.Sx.Fr S w0 w5 ∧ Go.Sx.Mild [g6] w4 w5) ∧ w5.heap[g8]? = some (.cells #[.slice A17 n18 n19, .int .i64 i20, .int .i8 i21] 73 (0, 0)) ∧ 
  (∃ (I0 : Int → Option Addr → Nat → Nat → Int → Int → World → Prop) (M0 : Int → Option Addr → Nat → Nat → Int → Int → World → Nat), (I0 (0 : Int) A17 n18 n19 i20 i21 w5) ∧
  ∀ i22 : Int, ∀ A23 : Option Addr, ∀ n24 : Nat, ∀ n25 : Nat, ∀ i26 : Int, ∀ i27 : Int, ∀ w6 : World, Go.Sx.Fr S w0 w6 → I0 i22 A23 n24 n25 i26 i27 w6 → w6.heap[g8]? = some (.cells #[.slice A23 n24 n25, .int .i64 i26, .int .i8 i27] 73 (0, 0)) → 
   ((i22 < (n4 : Int) →
   ((0 : Int) ≤ i22 ∧ i22 < (n4 : Int) ∧ ∃ p28 : Nat, ∃ o29 : Nat, A3 = some ⟨p28, o29, none⟩ ∧
    (∃ i30 : Int, ∃ i31 : Int, ∃ i32 : Int, ∃ i33 : Int, ∃ i34 : Int, ∃ i35 : Int, ∃ i36 : Int, ∃ i37 : Int, ∃ i38 : Int, ∃ i39 : Int, ∃ i40 : Int, ∃ i41 : Int, ∃ i42 : Int, ∃ i43 : Int, ∃ i44 : Int, ∃ i45 : Int, ∃ i46 : Int, ∃ b47 : Bool, ∃ s48 : ByteArray, ∃ i49 : Int, Go.Sx.CellsAt w6 p28 (o29 + (i22).toNat * 20 + 0) [.int .i64 i30, .int .i64 i31, .int .i64 i32, .int .i64 i33, .int .i64 i34, .int .i64 i35, .int .i64 i36, .int .i64 i37, .int .i64 i38, .int .i64 i39, .int .i64 i40, .int .i64 i41, .int .i64 i42, .int .i64 i43, .int .i64 i44, .int .i64 i45, .int .i64 i46, .bool b47, .string s48, .int .i64 i49] ∧ 
    ∀ g50 : Nat, w0.heap.size ≤ g50 → (∀ w7 : World, Go.Sx.Fr S w0 w7 → Below w6.heap.size w6 w7 → w6.heap.size ≤ g50 → w7.heap[g50]? = some (.cells #[.int .i64 i30, .int .i64 i31, .int .i64 i32, .int .i64 i33, .int .i64 i34, .int .i64 i35, .int .i64 i36, .int .i64 i37, .int .i64 i38, .int .i64 i39, .int .i64 i40, .int .i64 i41, .int .i64 i42, .int .i64 i43, .int .i64 i44, .int .i64 i45, .int .i64 i46, .bool b47, .string s48, .int .i64 i49] 39 (0, 0)) → w7.heap[g8]? = some (.cells #[.slice A23 n24 n25, .int .i64 i26, .int .i8 i27] 73 (0, 0)) → 
    Calls Tryd.prog 37 #[(.pointer (some ⟨g8, 0, none⟩)), (.agg #[.int .i64 i30, .int .i64 i31, .int .i64 i32, .int .i64 i33, .int .i64 i34, .int .i64 i35, .int .i64 i36, .int .i64 i37, .int .i64 i38, .int .i64 i39, .int .i64 i40, .int .i64 i41, .int .i64 i42, .int .i64 i43, .int .i64 i44, .int .i64 i45, .int .i64 i46, .bool b47, .string s48, .int .i64 i49])] w7 fun r w8 => ∃ A51 : Option Addr, ∃ n52 : Nat, ∃ n53 : Nat, ∃ i54 : Int, ∃ i55 : Int, r = .returned (.tuple #[]) ∧ (Go.Sx.Fr S w0 w8 ∧ Go.Sx.Mild [g50, g6] w7 w8) ∧ w8.heap[g8]? = some (.cells #[.slice A51 n52 n53, .int .i64 i54, .int .i8 i55] 73 (0, 0)) ∧ 
    (I0 (IntKind.i64.wrap (i22 + (1 : Int))) A51 n52 n53 i54 i55 w8 ∧ M0 (IntKind.i64.wrap (i22 + (1 : Int))) A51 n52 n53 i54 i55 w8 < M0 i22 A23 n24 n25 i26 i27 w6))))) ∧
   ((n4 : Int) ≤ i22 →
   (w6.heap[g8]? = some (.cells #[.slice A23 n24 n25, .int .i64 i26, .int .i8 i27] 73 (0, 0)) → 
    Calls Tryd.prog 38 #[(.pointer (some ⟨g8, 0, none⟩))] w6 fun r w7 => ∃ A28 : Option Addr, ∃ n29 : Nat, ∃ n30 : Nat, r = .returned (.slice A28 n29 n30) ∧ (Go.Sx.Fr S w0 w7 ∧ Go.Sx.Mild [g8, g6] w6 w7) ∧ 
    (R (.returned (.tuple #[.slice A28 n29 n30, .int .i64 (0 : Int)])) w7))))))))))) :
    Calls Tryd.prog 15 #[(.slice A0 n1 n2), (.agg #[.slice A3 n4 n5])] w0 R :=
  Go.Sx.fn_sound0 (P := Tryd.prog) (S := S) (w0 := w0) (R := R) (ws := [35, 36, 37]) (an := [⟨999999, [], [], 0⟩, ⟨8, [], [(7, 0), (7, 1), (7, 2)], 0⟩]) (f := 15) (n := 6) (xs := [.one (.slice (.var 0) (.var 1) (.var 2)), .agg [.slice (.var 3) (.var 4) (.var 5)]]) (e := [.a A0, .n n1, .n n2, .a A3, .n n4, .n n5]) rfl (by kernel_rfl) (Eq.mp (by kernel_rfl) h)


end Go.Proofs.YtfjenamomipmdaaDoor


/- Opcode: what is left of the first statements. -/
set_option linter.unusedVariables false
namespace Go.Proofs.YtfjenamomipmdaaDoor
open Go Go.RowKit Go.Proofs Go.Trc
set_option maxRecDepth 100000
/-- tracery/tracerylaw10.few: what is left of it. -/
theorem few10_sx (R : Ending → World → Prop) (S : Nat → Prop) (w0 : World) (A0 : Option Addr) (n1 : Nat) (n2 : Nat) (h :
 ∀ g3 : Nat, w0.heap.size ≤ g3 → ∀ g4 : Nat, w0.heap.size ≤ g4 → ∀ g5 : Nat, w0.heap.size ≤ g5 → (∃ (I0 : Int → Option Addr → Nat → Nat → World → Prop) (M0 : Int → Option Addr → Nat → Nat → World → Nat), (∀ w1 : World, Go.Sx.Fr S w0 w1 → Below w0.heap.size w0 w1 → w0.heap.size ≤ g5 → w1.heap[g5]? = some (.cells #[.slice none 0 0] 25 (0, 0)) → w0.heap.size ≤ g4 → w1.heap[g4]? = some (.cells #[.slice none 0 0] 25 (0, 0)) → w0.heap.size ≤ g3 → w1.heap[g3]? = some (.cells #[.slice A0 n1 n2] 25 (0, 0)) → I0 (0 : Int) none 0 0 w1) ∧
 ∀ i6 : Int, ∀ A7 : Option Addr, ∀ n8 : Nat, ∀ n9 : Nat, ∀ w2 : World, Go.Sx.Fr S w0 w2 → I0 i6 A7 n8 n9 w2 → w2.heap[g5]? = some (.cells #[.slice A7 n8 n9] 25 (0, 0)) → 
  ((i6 < (n1 : Int) →
  ((i6 < (10 : Int) →
   ((0 : Int) ≤ i6 ∧ i6 < (n1 : Int) ∧ ∃ p10 : Nat, ∃ o11 : Nat, A0 = some ⟨p10, o11, none⟩ ∧
    (∃ i12 : Int, ∃ i13 : Int, ∃ i14 : Int, ∃ i15 : Int, ∃ i16 : Int, ∃ i17 : Int, ∃ i18 : Int, ∃ i19 : Int, ∃ i20 : Int, ∃ i21 : Int, ∃ i22 : Int, ∃ i23 : Int, ∃ i24 : Int, ∃ i25 : Int, ∃ i26 : Int, ∃ i27 : Int, ∃ i28 : Int, ∃ b29 : Bool, ∃ s30 : ByteArray, ∃ i31 : Int, Go.Sx.CellsAt w2 p10 (o11 + (i6).toNat * 20 + 0) [.int .i64 i12, .int .i64 i13, .int .i64 i14, .int .i64 i15, .int .i64 i16, .int .i64 i17, .int .i64 i18, .int .i64 i19, .int .i64 i20, .int .i64 i21, .int .i64 i22, .int .i64 i23, .int .i64 i24, .int .i64 i25, .int .i64 i26, .int .i64 i27, .int .i64 i28, .bool b29, .string s30, .int .i64 i31] ∧ 
    ∀ g32 : Nat, w0.heap.size ≤ g32 → (((100 : Int) < ((s30).size : Int) →
    (∀ w3 : World, Go.Sx.Fr S w0 w3 → Below w2.heap.size w2 w3 → w2.heap.size ≤ g32 → w3.heap[g32]? = some (.cells #[.int .i64 i12, .int .i64 i13, .int .i64 i14, .int .i64 i15, .int .i64 i16, .int .i64 i17, .int .i64 i18, .int .i64 i19, .int .i64 i20, .int .i64 i21, .int .i64 i22, .int .i64 i23, .int .i64 i24, .int .i64 i25, .int .i64 i26, .int .i64 i27, .int .i64 i28, .bool b29, .string s30, .int .i64 i31] 39 (0, 0)) → ∃ s33 : ByteArray, (Instr.sliceAt 9 (.string s30) none (some (.int .i64 (100 : Int))) none).run Tryd.prog w3 = .ok (.string s33) w3 ∧
     ∀ g34 : Nat, w0.heap.size ≤ g34 → (∀ w4 : World, Go.Sx.Fr S w0 w4 → Go.Sx.Fr (fun b => b ∈ [g32]) w3 w4 → w3.heap.size ≤ g34 → w4.heap[g34]? = some (.cells #[.int .i64 i12, .int .i64 i13, .int .i64 i14, .int .i64 i15, .int .i64 i16, .int .i64 i17, .int .i64 i18, .int .i64 i19, .int .i64 i20, .int .i64 i21, .int .i64 i22, .int .i64 i23, .int .i64 i24, .int .i64 i25, .int .i64 i26, .int .i64 i27, .int .i64 i28, .bool b29, .string s33, .int .i64 i31] 39 (0, 0)) → 
     ∃ w5 : World, ∃ A35 : Option Addr, ∃ n36 : Nat, ∃ n37 : Nat, (Builtin.append_ #[23, 23] 23 #[(.slice A7 n8 n9), (.slice (some ⟨g34, 0, none⟩) 1 1)]).run Tryd.prog w4 = .ok (.slice A35 n36 n37) w5 ∧ (Go.Sx.Fr S w0 w5 ∧ Go.Sx.Mild [g34, g32, g5, g4, g3] w4 w5) ∧ 
     (∀ w6 : World, Go.Sx.Fr S w0 w6 → Go.Sx.Fr (fun b => b ∈ [g5]) w5 w6 → I0 (IntKind.i64.wrap (i6 + (1 : Int))) A35 n36 n37 w6 ∧ M0 (IntKind.i64.wrap (i6 + (1 : Int))) A35 n36 n37 w6 < M0 i6 A7 n8 n9 w2)))) ∧
    (((s30).size : Int) ≤ (100 : Int) →
    ∀ g33 : Nat, w0.heap.size ≤ g33 → (∀ w3 : World, Go.Sx.Fr S w0 w3 → Below w2.heap.size w2 w3 → w2.heap.size ≤ g33 → w3.heap[g33]? = some (.cells #[.int .i64 i12, .int .i64 i13, .int .i64 i14, .int .i64 i15, .int .i64 i16, .int .i64 i17, .int .i64 i18, .int .i64 i19, .int .i64 i20, .int .i64 i21, .int .i64 i22, .int .i64 i23, .int .i64 i24, .int .i64 i25, .int .i64 i26, .int .i64 i27, .int .i64 i28, .bool b29, .string s30, .int .i64 i31] 39 (0, 0)) → w2.heap.size ≤ g32 → w3.heap[g32]? = some (.cells #[.int .i64 i12, .int .i64 i13, .int .i64 i14, .int .i64 i15, .int .i64 i16, .int .i64 i17, .int .i64 i18, .int .i64 i19, .int .i64 i20, .int .i64 i21, .int .i64 i22, .int .i64 i23, .int .i64 i24, .int .i64 i25, .int .i64 i26, .int .i64 i27, .int .i64 i28, .bool b29, .string s30, .int .i64 i31] 39 (0, 0)) → 
     ∃ w4 : World, ∃ A34 : Option Addr, ∃ n35 : Nat, ∃ n36 : Nat, (Builtin.append_ #[23, 23] 23 #[(.slice A7 n8 n9), (.slice (some ⟨g33, 0, none⟩) 1 1)]).run Tryd.prog w3 = .ok (.slice A34 n35 n36) w4 ∧ (Go.Sx.Fr S w0 w4 ∧ Go.Sx.Mild [g33, g32, g5, g4, g3] w3 w4) ∧ 
     (∀ w5 : World, Go.Sx.Fr S w0 w5 → Go.Sx.Fr (fun b => b ∈ [g5]) w4 w5 → I0 (IntKind.i64.wrap (i6 + (1 : Int))) A34 n35 n36 w5 ∧ M0 (IntKind.i64.wrap (i6 + (1 : Int))) A34 n35 n36 w5 < M0 i6 A7 n8 n9 w2))))))) ∧
   ((10 : Int) ≤ i6 →
   (∀ w3 : World, Go.Sx.Fr S w0 w3 → Go.Sx.Fr (fun b => b ∈ [g4]) w2 w3 → R (.returned (.agg #[.slice A7 n8 n9])) w3)))) ∧
  ((n1 : Int) ≤ i6 →
  (∀ w3 : World, Go.Sx.Fr S w0 w3 → Go.Sx.Fr (fun b => b ∈ [g4]) w2 w3 → R (.returned (.agg #[.slice A7 n8 n9])) w3))))) :
    Calls Tryd.prog 16 #[(.agg #[.slice A0 n1 n2])] w0 R :=
  Go.Sx.fn_sound0 (P := Tryd.prog) (S := S) (w0 := w0) (R := R) (ws := []) (an := [⟨999999, [], [], 0⟩, ⟨3, [], [(3, 0)], 0⟩]) (f := 16) (n := 3) (xs := [.agg [.slice (.var 0) (.var 1) (.var 2)]]) (e := [.a A0, .n n1, .n n2]) rfl (by kernel_rfl) (Eq.mp (by kernel_rfl) h)


/-- tracery/tracerylaw10.shown: what is left of it. -/
theorem shown10_sx (R : Ending → World → Prop) (S : Nat → Prop) (w0 : World) (h :
 ∀ g0 : Nat, w0.heap.size ≤ g0 → (∀ w1 : World, Go.Sx.Fr S w0 w1 → Below w0.heap.size w0 w1 → w0.heap.size ≤ g0 → w1.heap[g0]? = some (.cells #[.int .i64 (1 : Int), .int .i64 (2 : Int), .int .i64 (258 : Int), .int .i64 (0 : Int), .int .i64 (0 : Int), .int .i64 (0 : Int), .int .i64 (0 : Int), .int .i64 (0 : Int), .int .i64 (0 : Int), .int .i64 (0 : Int), .int .i64 (0 : Int), .int .i64 (0 : Int), .int .i64 (0 : Int), .int .i64 (0 : Int), .int .i64 (0 : Int), .int .i64 (0 : Int), .int .i64 (0 : Int), .bool false, .string (⟨#[]⟩ : ByteArray), .int .i64 (0 : Int)] 39 (0, 0)) → 
 Calls Tryd.prog 15 #[(.slice none 0 0), (.agg #[.slice (some ⟨g0, 0, none⟩) 1 1])] w1 fun r w2 => ∃ A1 : Option Addr, ∃ n2 : Nat, ∃ n3 : Nat, ∃ i4 : Int, r = .returned (.tuple #[.slice A1 n2 n3, .int .i64 i4]) ∧ (Go.Sx.Fr S w0 w2 ∧ Go.Sx.Mild [g0] w1 w2) ∧ 
 (∃ s5 : ByteArray, (convert 22 9 (.slice A1 n2 n3)).run Tryd.prog w2 = .ok (.string s5) w2 ∧
 (((s5).toList = ((⟨#[1, 1, 2, 0, 1, 2]⟩ : ByteArray)).toList →
 (R (.returned (.bool (i4 == (0 : Int)))) w2)) ∧
 (¬ (s5).toList = ((⟨#[1, 1, 2, 0, 1, 2]⟩ : ByteArray)).toList →
 (R (.returned (.bool false)) w2)))))) :
    Calls Tryd.prog 14 #[] w0 R :=
  Go.Sx.fn_sound0 (P := Tryd.prog) (S := S) (w0 := w0) (R := R) (ws := []) (an := [⟨999999, [], [], 0⟩]) (f := 14) (n := 0) (xs := []) (e := []) rfl (by kernel_rfl) (Eq.mp (by kernel_rfl) h)


/-- tracery/tracerylaw10.OpcodePuts: what is left of it. -/
theorem opcodePuts_sx (R : Ending → World → Prop) (S : Nat → Prop) (w0 : World) (A0 : Option Addr) (n1 : Nat) (n2 : Nat) (A3 : Option Addr) (n4 : Nat) (n5 : Nat) (h :
 ∀ g6 : Nat, w0.heap.size ≤ g6 → (∀ w1 : World, Go.Sx.Fr S w0 w1 → Below w0.heap.size w0 w1 → w0.heap.size ≤ g6 → w1.heap[g6]? = some (.cells #[.slice A3 n4 n5] 25 (0, 0)) → 
 Calls Tryd.prog 14 #[] w1 fun r w2 => ∃ b7 : Bool, r = .returned (.bool b7) ∧ (Go.Sx.Fr S w0 w2 ∧ Go.Sx.Mild [g6] w1 w2) ∧ 
 (((50 : Int) < (n1 : Int) →
 (∃ A8 : Option Addr, ∃ n9 : Nat, ∃ n10 : Nat, (Instr.sliceAt 22 (.slice A0 n1 n2) none (some (.int .i64 (50 : Int))) none).run Tryd.prog w2 = .ok (.slice A8 n9 n10) w2 ∧
  (∃ T11 : List Nat, (∀ b ∈ T11, b < w2.heap.size ∧ b ∉ [g6]) ∧
  ∀ g12 : Nat, w0.heap.size ≤ g12 → (∀ w3 : World, Go.Sx.Fr S w0 w3 → Below w2.heap.size w2 w3 → w2.heap.size ≤ g12 → w3.heap[g12]? = some (.cells #[] 5 (0, 0)) → 
  ∃ w4 : World, ∃ A13 : Option Addr, ∃ n14 : Nat, ∃ n15 : Nat, (Builtin.append_ #[22, 22] 22 #[(.slice (some ⟨g12, 0, none⟩) 0 0), (.slice A8 n9 n10)]).run Tryd.prog w3 = .ok (.slice A13 n14 n15) w4 ∧ (Go.Sx.Fr S w0 w4 ∧ Go.Sx.Mild [g12, g6] w3 w4) ∧ Go.Sx.Keep w2.heap.size (T11 ++ []) w3 w4 ∧ 
  (
  Calls Tryd.prog 16 #[(.agg #[.slice A3 n4 n5])] w4 fun r w5 => ∃ A16 : Option Addr, ∃ n17 : Nat, ∃ n18 : Nat, r = .returned (.agg #[.slice A16 n17 n18]) ∧ (Go.Sx.Fr S w0 w5 ∧ Go.Sx.Mild [g12, g6] w4 w5) ∧ 
  (
  Calls Tryd.prog 15 #[(.slice A13 n14 n15), (.agg #[.slice A16 n17 n18])] w5 fun r w6 => ∃ A19 : Option Addr, ∃ n20 : Nat, ∃ n21 : Nat, ∃ i22 : Int, r = .returned (.tuple #[.slice A19 n20 n21, .int .i64 i22]) ∧ (Go.Sx.Fr S w0 w6 ∧ Go.Sx.Mild [g12, g6] w5 w6) ∧ 
  (
  Calls Tryd.prog 16 #[(.agg #[.slice A3 n4 n5])] w6 fun r w7 => ∃ A23 : Option Addr, ∃ n24 : Nat, ∃ n25 : Nat, r = .returned (.agg #[.slice A23 n24 n25]) ∧ (Go.Sx.Fr S w0 w7 ∧ Go.Sx.Mild [g12, g6] w6 w7) ∧ 
  (
  Calls Tryd.prog 17 #[(.slice A8 n9 n10), (.agg #[.slice A23 n24 n25])] w7 fun r w8 => ∃ A26 : Option Addr, ∃ n27 : Nat, ∃ n28 : Nat, ∃ i29 : Int, r = .returned (.tuple #[.slice A26 n27 n28, .int .i64 i29]) ∧ (Go.Sx.Fr S w0 w8 ∧ Go.Sx.Mild [g12, g6] w7 w8) ∧ 
  ((b7 = true →
  (∃ s30 : ByteArray, (convert 22 9 (.slice A19 n20 n21)).run Tryd.prog w8 = .ok (.string s30) w8 ∧
   (∃ s31 : ByteArray, (convert 22 9 (.slice A26 n27 n28)).run Tryd.prog w8 = .ok (.string s31) w8 ∧
   (((s30).toList = (s31).toList →
   (R (.returned (.bool (i22 == i29))) w8)) ∧
   (¬ (s30).toList = (s31).toList →
   (R (.returned (.bool false)) w8)))))) ∧
  (b7 = false →
  (R (.returned (.bool false)) w8))))))))))) ∧
 ((n1 : Int) ≤ (50 : Int) →
 (∃ T8 : List Nat, (∀ b ∈ T8, b < w2.heap.size ∧ b ∉ [g6]) ∧
  ∀ g9 : Nat, w0.heap.size ≤ g9 → (∀ w3 : World, Go.Sx.Fr S w0 w3 → Below w2.heap.size w2 w3 → w2.heap.size ≤ g9 → w3.heap[g9]? = some (.cells #[] 5 (0, 0)) → 
  ∃ w4 : World, ∃ A10 : Option Addr, ∃ n11 : Nat, ∃ n12 : Nat, (Builtin.append_ #[22, 22] 22 #[(.slice (some ⟨g9, 0, none⟩) 0 0), (.slice A0 n1 n2)]).run Tryd.prog w3 = .ok (.slice A10 n11 n12) w4 ∧ (Go.Sx.Fr S w0 w4 ∧ Go.Sx.Mild [g9, g6] w3 w4) ∧ Go.Sx.Keep w2.heap.size (T8 ++ []) w3 w4 ∧ 
  (
  Calls Tryd.prog 16 #[(.agg #[.slice A3 n4 n5])] w4 fun r w5 => ∃ A13 : Option Addr, ∃ n14 : Nat, ∃ n15 : Nat, r = .returned (.agg #[.slice A13 n14 n15]) ∧ (Go.Sx.Fr S w0 w5 ∧ Go.Sx.Mild [g9, g6] w4 w5) ∧ 
  (
  Calls Tryd.prog 15 #[(.slice A10 n11 n12), (.agg #[.slice A13 n14 n15])] w5 fun r w6 => ∃ A16 : Option Addr, ∃ n17 : Nat, ∃ n18 : Nat, ∃ i19 : Int, r = .returned (.tuple #[.slice A16 n17 n18, .int .i64 i19]) ∧ (Go.Sx.Fr S w0 w6 ∧ Go.Sx.Mild [g9, g6] w5 w6) ∧ 
  (
  Calls Tryd.prog 16 #[(.agg #[.slice A3 n4 n5])] w6 fun r w7 => ∃ A20 : Option Addr, ∃ n21 : Nat, ∃ n22 : Nat, r = .returned (.agg #[.slice A20 n21 n22]) ∧ (Go.Sx.Fr S w0 w7 ∧ Go.Sx.Mild [g9, g6] w6 w7) ∧ 
  (
  Calls Tryd.prog 17 #[(.slice A0 n1 n2), (.agg #[.slice A20 n21 n22])] w7 fun r w8 => ∃ A23 : Option Addr, ∃ n24 : Nat, ∃ n25 : Nat, ∃ i26 : Int, r = .returned (.tuple #[.slice A23 n24 n25, .int .i64 i26]) ∧ (Go.Sx.Fr S w0 w8 ∧ Go.Sx.Mild [g9, g6] w7 w8) ∧ 
  ((b7 = true →
  (∃ s27 : ByteArray, (convert 22 9 (.slice A16 n17 n18)).run Tryd.prog w8 = .ok (.string s27) w8 ∧
   (∃ s28 : ByteArray, (convert 22 9 (.slice A23 n24 n25)).run Tryd.prog w8 = .ok (.string s28) w8 ∧
   (((s27).toList = (s28).toList →
   (R (.returned (.bool (i19 == i26))) w8)) ∧
   (¬ (s27).toList = (s28).toList →
   (R (.returned (.bool false)) w8)))))) ∧
  (b7 = false →
  (R (.returned (.bool false)) w8))))))))))))) :
    Calls Tryd.prog 3 #[(.slice A0 n1 n2), (.agg #[.slice A3 n4 n5])] w0 R :=
  Go.Sx.fn_sound0 (P := Tryd.prog) (S := S) (w0 := w0) (R := R) (ws := []) (an := [⟨999998, [], [], 0⟩, ⟨999999, [], [], 0⟩]) (f := 3) (n := 6) (xs := [.one (.slice (.var 0) (.var 1) (.var 2)), .agg [.slice (.var 3) (.var 4) (.var 5)]]) (e := [.a A0, .n n1, .n n2, .a A3, .n n4, .n n5]) rfl (by kernel_rfl) (Eq.mp (by kernel_rfl) h)


/-- tracery/tracerylaw10.OpcodeSizes: what is left of it. -/
theorem opcodeSizes_sx (R : Ending → World → Prop) (S : Nat → Prop) (w0 : World) (A0 : Option Addr) (n1 : Nat) (n2 : Nat) (h :
 ∀ g3 : Nat, w0.heap.size ≤ g3 → (∀ w1 : World, Go.Sx.Fr S w0 w1 → Below w0.heap.size w0 w1 → w0.heap.size ≤ g3 → w1.heap[g3]? = some (.cells #[.slice A0 n1 n2] 25 (0, 0)) → 
 Calls Tryd.prog 14 #[] w1 fun r w2 => ∃ b4 : Bool, r = .returned (.bool b4) ∧ (Go.Sx.Fr S w0 w2 ∧ Go.Sx.Mild [g3] w1 w2) ∧ 
 (
 Calls Tryd.prog 16 #[(.agg #[.slice A0 n1 n2])] w2 fun r w3 => ∃ A5 : Option Addr, ∃ n6 : Nat, ∃ n7 : Nat, r = .returned (.agg #[.slice A5 n6 n7]) ∧ (Go.Sx.Fr S w0 w3 ∧ Go.Sx.Mild [g3] w2 w3) ∧ 
 (∀ w4 : World, Go.Sx.Fr S w0 w4 → Go.Sx.Fr (fun b => b ∈ [g3]) w3 w4 → 
 Calls Tryd.prog 15 #[(.slice none 0 0), (.agg #[.slice A5 n6 n7])] w4 fun r w5 => ∃ A8 : Option Addr, ∃ n9 : Nat, ∃ n10 : Nat, ∃ i11 : Int, r = .returned (.tuple #[.slice A8 n9 n10, .int .i64 i11]) ∧ (Go.Sx.Fr S w0 w5 ∧ Go.Sx.Mild [g3] w4 w5) ∧ 
 ((¬ i11 = (0 : Int) →
 ((b4 = true →
  (R (.returned (.bool ((n9 : Int) == (0 : Int)))) w5)) ∧
  (b4 = false →
  (R (.returned (.bool false)) w5)))) ∧
 (i11 = (0 : Int) →
 (∃ (I0 : Int → Int → World → Prop) (M0 : Int → Int → World → Nat), (I0 (1 : Int) (0 : Int) w5) ∧
  ∀ i12 : Int, ∀ i13 : Int, ∀ w6 : World, Go.Sx.Fr S w0 w6 → I0 i12 i13 w6 → 
   ((i13 < (n6 : Int) →
   ((0 : Int) ≤ i13 ∧ i13 < (n6 : Int) ∧ ∃ p14 : Nat, ∃ o15 : Nat, A5 = some ⟨p14, o15, none⟩ ∧
    (∃ i16 : Int, ∃ i17 : Int, ∃ i18 : Int, ∃ i19 : Int, ∃ i20 : Int, ∃ i21 : Int, ∃ i22 : Int, ∃ i23 : Int, ∃ i24 : Int, ∃ i25 : Int, ∃ i26 : Int, ∃ i27 : Int, ∃ i28 : Int, ∃ i29 : Int, ∃ i30 : Int, ∃ i31 : Int, ∃ i32 : Int, ∃ b33 : Bool, ∃ s34 : ByteArray, ∃ i35 : Int, Go.Sx.CellsAt w6 p14 (o15 + (i13).toNat * 20 + 0) [.int .i64 i16, .int .i64 i17, .int .i64 i18, .int .i64 i19, .int .i64 i20, .int .i64 i21, .int .i64 i22, .int .i64 i23, .int .i64 i24, .int .i64 i25, .int .i64 i26, .int .i64 i27, .int .i64 i28, .int .i64 i29, .int .i64 i30, .int .i64 i31, .int .i64 i32, .bool b33, .string s34, .int .i64 i35] ∧ 
    ∀ g36 : Nat, w0.heap.size ≤ g36 → ((i16 = (3 : Int) →
    (∀ w7 : World, Go.Sx.Fr S w0 w7 → Below w6.heap.size w6 w7 → w6.heap.size ≤ g36 → w7.heap[g36]? = some (.cells #[.int .i64 i16, .int .i64 i17, .int .i64 i18, .int .i64 i19, .int .i64 i20, .int .i64 i21, .int .i64 i22, .int .i64 i23, .int .i64 i24, .int .i64 i25, .int .i64 i26, .int .i64 i27, .int .i64 i28, .int .i64 i29, .int .i64 i30, .int .i64 i31, .int .i64 i32, .bool b33, .string s34, .int .i64 i35] 39 (0, 0)) → ∃ b37 : Bool, (binOp .neq 35 (.agg #[.int .i64 i25, .int .i64 i26, .int .i64 i27]) (.agg #[.int .i64 (0 : Int), .int .i64 (0 : Int), .int .i64 (0 : Int)])).run Tryd.prog w7 = .ok (.bool b37) w7 ∧
     ((b37 = true →
     (∃ b38 : Bool, (binOp .neq 35 (.agg #[.int .i64 i30, .int .i64 i31, .int .i64 i32]) (.agg #[.int .i64 (0 : Int), .int .i64 (0 : Int), .int .i64 (0 : Int)])).run Tryd.prog w7 = .ok (.bool b38) w7 ∧
      ((b38 = true →
      (I0 (IntKind.i64.wrap ((IntKind.i64.wrap ((IntKind.i64.wrap ((IntKind.i64.wrap (i12 + (5 : Int))) + (10 : Int))) + (4 : Int))) + (4 : Int))) (IntKind.i64.wrap (i13 + (1 : Int))) w7 ∧ M0 (IntKind.i64.wrap ((IntKind.i64.wrap ((IntKind.i64.wrap ((IntKind.i64.wrap (i12 + (5 : Int))) + (10 : Int))) + (4 : Int))) + (4 : Int))) (IntKind.i64.wrap (i13 + (1 : Int))) w7 < M0 i12 i13 w6)) ∧
      (b38 = false →
      (I0 (IntKind.i64.wrap ((IntKind.i64.wrap ((IntKind.i64.wrap (i12 + (5 : Int))) + (10 : Int))) + (4 : Int))) (IntKind.i64.wrap (i13 + (1 : Int))) w7 ∧ M0 (IntKind.i64.wrap ((IntKind.i64.wrap ((IntKind.i64.wrap (i12 + (5 : Int))) + (10 : Int))) + (4 : Int))) (IntKind.i64.wrap (i13 + (1 : Int))) w7 < M0 i12 i13 w6))))) ∧
     (b37 = false →
     (∃ b38 : Bool, (binOp .neq 35 (.agg #[.int .i64 i30, .int .i64 i31, .int .i64 i32]) (.agg #[.int .i64 (0 : Int), .int .i64 (0 : Int), .int .i64 (0 : Int)])).run Tryd.prog w7 = .ok (.bool b38) w7 ∧
      ((b38 = true →
      (I0 (IntKind.i64.wrap ((IntKind.i64.wrap ((IntKind.i64.wrap (i12 + (5 : Int))) + (10 : Int))) + (4 : Int))) (IntKind.i64.wrap (i13 + (1 : Int))) w7 ∧ M0 (IntKind.i64.wrap ((IntKind.i64.wrap ((IntKind.i64.wrap (i12 + (5 : Int))) + (10 : Int))) + (4 : Int))) (IntKind.i64.wrap (i13 + (1 : Int))) w7 < M0 i12 i13 w6)) ∧
      (b38 = false →
      (I0 (IntKind.i64.wrap ((IntKind.i64.wrap (i12 + (5 : Int))) + (10 : Int))) (IntKind.i64.wrap (i13 + (1 : Int))) w7 ∧ M0 (IntKind.i64.wrap ((IntKind.i64.wrap (i12 + (5 : Int))) + (10 : Int))) (IntKind.i64.wrap (i13 + (1 : Int))) w7 < M0 i12 i13 w6)))))))) ∧
    (¬ i16 = (3 : Int) →
    ((i16 = (5 : Int) →
     (∀ w7 : World, Go.Sx.Fr S w0 w7 → Below w6.heap.size w6 w7 → w6.heap.size ≤ g36 → w7.heap[g36]? = some (.cells #[.int .i64 i16, .int .i64 i17, .int .i64 i18, .int .i64 i19, .int .i64 i20, .int .i64 i21, .int .i64 i22, .int .i64 i23, .int .i64 i24, .int .i64 i25, .int .i64 i26, .int .i64 i27, .int .i64 i28, .int .i64 i29, .int .i64 i30, .int .i64 i31, .int .i64 i32, .bool b33, .string s34, .int .i64 i35] 39 (0, 0)) → I0 (IntKind.i64.wrap ((IntKind.i64.wrap (i12 + (5 : Int))) + (9 : Int))) (IntKind.i64.wrap (i13 + (1 : Int))) w7 ∧ M0 (IntKind.i64.wrap ((IntKind.i64.wrap (i12 + (5 : Int))) + (9 : Int))) (IntKind.i64.wrap (i13 + (1 : Int))) w7 < M0 i12 i13 w6)) ∧
     (¬ i16 = (5 : Int) →
     ((i16 = (6 : Int) →
      (∀ w7 : World, Go.Sx.Fr S w0 w7 → Below w6.heap.size w6 w7 → w6.heap.size ≤ g36 → w7.heap[g36]? = some (.cells #[.int .i64 i16, .int .i64 i17, .int .i64 i18, .int .i64 i19, .int .i64 i20, .int .i64 i21, .int .i64 i22, .int .i64 i23, .int .i64 i24, .int .i64 i25, .int .i64 i26, .int .i64 i27, .int .i64 i28, .int .i64 i29, .int .i64 i30, .int .i64 i31, .int .i64 i32, .bool b33, .string s34, .int .i64 i35] 39 (0, 0)) → I0 (IntKind.i64.wrap ((IntKind.i64.wrap (i12 + (5 : Int))) + (4 : Int))) (IntKind.i64.wrap (i13 + (1 : Int))) w7 ∧ M0 (IntKind.i64.wrap ((IntKind.i64.wrap (i12 + (5 : Int))) + (4 : Int))) (IntKind.i64.wrap (i13 + (1 : Int))) w7 < M0 i12 i13 w6)) ∧
      (¬ i16 = (6 : Int) →
      ((i16 = (7 : Int) →
       (∀ w7 : World, Go.Sx.Fr S w0 w7 → Below w6.heap.size w6 w7 → w6.heap.size ≤ g36 → w7.heap[g36]? = some (.cells #[.int .i64 i16, .int .i64 i17, .int .i64 i18, .int .i64 i19, .int .i64 i20, .int .i64 i21, .int .i64 i22, .int .i64 i23, .int .i64 i24, .int .i64 i25, .int .i64 i26, .int .i64 i27, .int .i64 i28, .int .i64 i29, .int .i64 i30, .int .i64 i31, .int .i64 i32, .bool b33, .string s34, .int .i64 i35] 39 (0, 0)) → I0 (IntKind.i64.wrap ((IntKind.i64.wrap ((IntKind.i64.wrap (i12 + (5 : Int))) + (2 : Int))) + ((s34).size : Int))) (IntKind.i64.wrap (i13 + (1 : Int))) w7 ∧ M0 (IntKind.i64.wrap ((IntKind.i64.wrap ((IntKind.i64.wrap (i12 + (5 : Int))) + (2 : Int))) + ((s34).size : Int))) (IntKind.i64.wrap (i13 + (1 : Int))) w7 < M0 i12 i13 w6)) ∧
       (¬ i16 = (7 : Int) →
       ((i16 = (8 : Int) →
        (∀ w7 : World, Go.Sx.Fr S w0 w7 → Below w6.heap.size w6 w7 → w6.heap.size ≤ g36 → w7.heap[g36]? = some (.cells #[.int .i64 i16, .int .i64 i17, .int .i64 i18, .int .i64 i19, .int .i64 i20, .int .i64 i21, .int .i64 i22, .int .i64 i23, .int .i64 i24, .int .i64 i25, .int .i64 i26, .int .i64 i27, .int .i64 i28, .int .i64 i29, .int .i64 i30, .int .i64 i31, .int .i64 i32, .bool b33, .string s34, .int .i64 i35] 39 (0, 0)) → I0 (IntKind.i64.wrap ((IntKind.i64.wrap (i12 + (5 : Int))) + (9 : Int))) (IntKind.i64.wrap (i13 + (1 : Int))) w7 ∧ M0 (IntKind.i64.wrap ((IntKind.i64.wrap (i12 + (5 : Int))) + (9 : Int))) (IntKind.i64.wrap (i13 + (1 : Int))) w7 < M0 i12 i13 w6)) ∧
        (¬ i16 = (8 : Int) →
        (∀ w7 : World, Go.Sx.Fr S w0 w7 → Below w6.heap.size w6 w7 → w6.heap.size ≤ g36 → w7.heap[g36]? = some (.cells #[.int .i64 i16, .int .i64 i17, .int .i64 i18, .int .i64 i19, .int .i64 i20, .int .i64 i21, .int .i64 i22, .int .i64 i23, .int .i64 i24, .int .i64 i25, .int .i64 i26, .int .i64 i27, .int .i64 i28, .int .i64 i29, .int .i64 i30, .int .i64 i31, .int .i64 i32, .bool b33, .string s34, .int .i64 i35] 39 (0, 0)) → I0 (IntKind.i64.wrap (i12 + (5 : Int))) (IntKind.i64.wrap (i13 + (1 : Int))) w7 ∧ M0 (IntKind.i64.wrap (i12 + (5 : Int))) (IntKind.i64.wrap (i13 + (1 : Int))) w7 < M0 i12 i13 w6)))))))))))))) ∧
   ((n6 : Int) ≤ i13 →
   ((b4 = true →
    (R (.returned (.bool ((n9 : Int) == i12))) w6)) ∧
    (b4 = false →
    (R (.returned (.bool false)) w6)))))))))))) :
    Calls Tryd.prog 4 #[(.agg #[.slice A0 n1 n2])] w0 R :=
  Go.Sx.fn_sound0 (P := Tryd.prog) (S := S) (w0 := w0) (R := R) (ws := []) (an := [⟨999998, [], [], 0⟩, ⟨999999, [], [], 0⟩]) (f := 4) (n := 3) (xs := [.agg [.slice (.var 0) (.var 1) (.var 2)]]) (e := [.a A0, .n n1, .n n2]) rfl (by kernel_rfl) (Eq.mp (by kernel_rfl) h)


end Go.Proofs.YtfjenamomipmdaaDoor
