/- Net: what is left of the functions. -/
import Derived.Test.YtdjjfpcfclheiaaProg
import Derived.Test.YtdjjfpcfclheiaaSs
import Derived.KernelRfl
set_option linter.unusedVariables false
namespace Go.Proofs.Ytdjjfpcfclheiaa
open Go Go.RowKit Go.Proofs Go.Trc
set_option maxRecDepth 100000
/-- tracery/net.New: what is left of it. -/
theorem netNew_sx (R : Ending → World → Prop) (S : Nat → Prop) (w0 : World) (h :
 (
 Calls Try.prog 13 #[(.int .i64 (6 : Int))] w0 fun r w1 => ∃ v0 : Value, r = .returned (v0) ∧ (Go.Sx.Fr S w0 w1 ∧ Go.Sx.Mild [] w0 w1) ∧ 
 ((v0).oneCell' = true ∧
 ((v0).oneCell' = true ∧
 ∀ g1 : Nat, w0.heap.size ≤ g1 → (∀ w2 : World, Go.Sx.Fr S w0 w2 → Below w1.heap.size w1 w2 → w1.heap.size ≤ g1 → w2.heap[g1]? = some (.cells #[.slice none 0 0, v0] 89 (0, 0)) → R (.returned (.pointer (some ⟨g1, 0, none⟩))) w2))))) :
    Calls Try.prog 25 #[] w0 R :=
  Go.Sx.fn_sound0 (P := Try.prog) (S := S) (w0 := w0) (R := R) (ws := []) (an := []) (f := 25) (n := 0) (xs := []) (e := []) rfl (by kernel_rfl) (Eq.mp (by kernel_rfl) h)


/-- (*tracery/net.Net).note: what is left of it. -/
theorem netNote_sx (R : Ending → World → Prop) (S : Nat → Prop) (w0 : World) (v0 : Value) (i1 : Int) (h :
 (∃ p2 : Nat, ∃ o3 : Nat, v0 = .pointer (some ⟨p2, o3, none⟩) ∧
 (∃ v4 : Value, Go.Sx.CellsAt w0 p2 (o3 + ((0 : Int)).toNat * 0 + 1) [v4] ∧ 
 (
 Calls Try.prog 14 #[(v4), (.int .i64 i1), (.int .i64 (1 : Int))] w0 fun r w1 => ∃ i5 : Int, r = .returned (.int .i64 i5) ∧ (Go.Sx.Fr S w0 w1 ∧ Go.Sx.Mild [] w0 w1) ∧ 
 (R (.returned (.tuple #[])) w1))))) :
    Calls Try.prog 44 #[(v0), (.int .i64 i1)] w0 R :=
  Go.Sx.fn_sound0 (P := Try.prog) (S := S) (w0 := w0) (R := R) (ws := []) (an := []) (f := 44) (n := 2) (xs := [.one (.val 0), .one (.int .i64 (.var 1))]) (e := [.v v0, .i i1]) rfl (by kernel_rfl) (Eq.mp (by kernel_rfl) h)


/-- (*tracery/net.Net).Send: what is left of it. -/
theorem netSend_sx (R : Ending → World → Prop) (S : Nat → Prop) (w0 : World) (v0 : Value) (A1 : Option Addr) (n2 : Nat) (n3 : Nat) (h :
 (∃ (I0 : Int → Int → World → Prop) (M0 : Int → Int → World → Nat), (I0 (0 : Int) (0 : Int) w0) ∧
 ∀ i4 : Int, ∀ i5 : Int, ∀ w1 : World, Go.Sx.Fr S w0 w1 → I0 i4 i5 w1 → 
  ((i5 < (n2 : Int) →
  ((0 : Int) ≤ i5 ∧ i5 < (n2 : Int) ∧ ∃ p6 : Nat, ∃ o7 : Nat, A1 = some ⟨p6, o7, none⟩ ∧
   (∃ i8 : Int, ∃ i9 : Int, ∃ i10 : Int, ∃ i11 : Int, ∃ i12 : Int, ∃ i13 : Int, ∃ A14 : Option Addr, ∃ n15 : Nat, ∃ n16 : Nat, Go.Sx.CellsAt w1 p6 (o7 + (i5).toNat * 7 + 0) [.int .i64 i8, .int .i64 i9, .int .i64 i10, .int .i64 i11, .int .i64 i12, .int .i64 i13, .slice A14 n15 n16] ∧ 
   ∀ g17 : Nat, w0.heap.size ≤ g17 → (∀ w2 : World, Go.Sx.Fr S w0 w2 → Below w1.heap.size w1 w2 → w1.heap.size ≤ g17 → w2.heap[g17]? = some (.cells #[.int .i64 i8, .int .i64 i9, .int .i64 i10, .int .i64 i11, .int .i64 i12, .int .i64 i13, .slice A14 n15 n16] 47 (0, 0)) → 
   Calls Try.prog 43 #[(.agg #[.int .i64 i8, .int .i64 i9, .int .i64 i10, .int .i64 i11, .int .i64 i12, .int .i64 i13, .slice A14 n15 n16])] w2 fun r w3 => ∃ A18 : Option Addr, ∃ n19 : Nat, ∃ n20 : Nat, ∃ i21 : Int, r = .returned (.tuple #[.slice A18 n19 n20, .int .i64 i21]) ∧ (Go.Sx.Fr S w0 w3 ∧ Go.Sx.Mild [g17] w2 w3) ∧ 
   ((¬ i21 = (0 : Int) →
   (I0 i4 (IntKind.i64.wrap (i5 + (1 : Int))) w3 ∧ M0 i4 (IntKind.i64.wrap (i5 + (1 : Int))) w3 < M0 i4 i5 w1)) ∧
   (i21 = (0 : Int) →
   (∃ p22 : Nat, ∃ o23 : Nat, v0 = .pointer (some ⟨p22, o23, none⟩) ∧
    (∃ A24 : Option Addr, ∃ n25 : Nat, ∃ n26 : Nat, Go.Sx.CellsAt w3 p22 (o23 + ((0 : Int)).toNat * 0 + 0) [.slice A24 n25 n26] ∧ 
    (((4096 : Int) ≤ (n25 : Int) →
    (
     Calls Try.prog 44 #[(v0), (.int .i64 (1 : Int))] w3 fun r w4 => r = .returned (.tuple #[]) ∧ (Go.Sx.Fr S w0 w4 ∧ Go.Sx.Mild [g17] w3 w4) ∧ 
     (I0 i4 (IntKind.i64.wrap (i5 + (1 : Int))) w4 ∧ M0 i4 (IntKind.i64.wrap (i5 + (1 : Int))) w4 < M0 i4 i5 w1))) ∧
    ((n25 : Int) < (4096 : Int) →
    (∃ p27 : Nat, ∃ o28 : Nat, v0 = .pointer (some ⟨p27, o28, none⟩) ∧
     (∃ A29 : Option Addr, ∃ n30 : Nat, ∃ n31 : Nat, Go.Sx.CellsAt w3 p27 (o28 + ((0 : Int)).toNat * 0 + 0) [.slice A29 n30 n31] ∧ 
     (
     Calls Try.prog 45 #[(.slice A29 n30 n31)] w3 fun r w4 => ∃ A32 : Option Addr, ∃ n33 : Nat, ∃ n34 : Nat, r = .returned (.slice A32 n33 n34) ∧ (Go.Sx.Fr S w0 w4 ∧ Go.Sx.Mild [g17] w3 w4) ∧ 
     ∀ g35 : Nat, w0.heap.size ≤ g35 → (∀ w5 : World, Go.Sx.Fr S w0 w5 → Below w4.heap.size w4 w5 → w4.heap.size ≤ g35 → w5.heap[g35]? = some (.cells #[.slice A18 n19 n20] 45 (0, 0)) → 
     ∃ w6 : World, ∃ A36 : Option Addr, ∃ n37 : Nat, ∃ n38 : Nat, (Builtin.append_ #[62, 62] 62 #[(.slice A32 n33 n34), (.slice (some ⟨g35, 0, none⟩) 1 1)]).run Try.prog w5 = .ok (.slice A36 n37 n38) w6 ∧ (Go.Sx.Fr S w0 w6 ∧ Go.Sx.Mild [g35, g17] w5 w6) ∧ 
     (∃ p39 : Nat, ∃ o40 : Nat, v0 = .pointer (some ⟨p39, o40, none⟩) ∧
     (
     ∃ w7 : World, (Instr.storeAt 62 (.pointer (some ⟨p39, o40 + ((0 : Int)).toNat * 0 + 0, none⟩)) (.slice A36 n37 n38)).run Try.prog w6 = .ok () w7 ∧ (Go.Sx.Fr S w0 w7 ∧ Go.Sx.Mild [g35, g17] w6 w7) ∧ 
     (
     Calls Try.prog 44 #[(v0), (.int .i64 (0 : Int))] w7 fun r w8 => r = .returned (.tuple #[]) ∧ (Go.Sx.Fr S w0 w8 ∧ Go.Sx.Mild [g35, g17] w7 w8) ∧ 
     (I0 (IntKind.i64.wrap (i4 + (1 : Int))) (IntKind.i64.wrap (i5 + (1 : Int))) w8 ∧ M0 (IntKind.i64.wrap (i4 + (1 : Int))) (IntKind.i64.wrap (i5 + (1 : Int))) w8 < M0 i4 i5 w1)))))))))))))))))) ∧
  ((n2 : Int) ≤ i5 →
  (R (.returned (.int .i64 i4)) w1))))) :
    Calls Try.prog 27 #[(v0), (.slice A1 n2 n3)] w0 R :=
  Go.Sx.fn_sound0 (P := Try.prog) (S := S) (w0 := w0) (R := R) (ws := []) (an := [⟨999999, [], [], 0⟩]) (f := 27) (n := 4) (xs := [.one (.val 0), .one (.slice (.var 1) (.var 2) (.var 3))]) (e := [.v v0, .a A1, .n n2, .n n3]) rfl (by kernel_rfl) (Eq.mp (by kernel_rfl) h)


/-- (*tracery/net.Net).Len: what is left of it. -/
theorem netLen_sx (R : Ending → World → Prop) (S : Nat → Prop) (w0 : World) (v0 : Value) (h :
 (∃ p1 : Nat, ∃ o2 : Nat, v0 = .pointer (some ⟨p1, o2, none⟩) ∧
 (∃ A3 : Option Addr, ∃ n4 : Nat, ∃ n5 : Nat, Go.Sx.CellsAt w0 p1 (o2 + ((0 : Int)).toNat * 0 + 0) [.slice A3 n4 n5] ∧ 
 (R (.returned (.int .i64 (n4 : Int))) w0)))) :
    Calls Try.prog 29 #[(v0)] w0 R :=
  Go.Sx.fn_sound0 (P := Try.prog) (S := S) (w0 := w0) (R := R) (ws := []) (an := []) (f := 29) (n := 1) (xs := [.one (.val 0)]) (e := [.v v0]) rfl (by kernel_rfl) (Eq.mp (by kernel_rfl) h)


/-- (*tracery/net.Net).there: what is left of it. -/
theorem netThere_sx (R : Ending → World → Prop) (S : Nat → Prop) (w0 : World) (v0 : Value) (i1 : Int) (h :
 (((0 : Int) ≤ i1 →
 (∃ p2 : Nat, ∃ o3 : Nat, v0 = .pointer (some ⟨p2, o3, none⟩) ∧
  (∃ A4 : Option Addr, ∃ n5 : Nat, ∃ n6 : Nat, Go.Sx.CellsAt w0 p2 (o3 + ((0 : Int)).toNat * 0 + 0) [.slice A4 n5 n6] ∧ 
  (R (.returned (.bool (decide (i1 < (n5 : Int))))) w0)))) ∧
 (i1 < (0 : Int) →
 (R (.returned (.bool false)) w0)))) :
    Calls Try.prog 47 #[(v0), (.int .i64 i1)] w0 R :=
  Go.Sx.fn_sound0 (P := Try.prog) (S := S) (w0 := w0) (R := R) (ws := []) (an := []) (f := 47) (n := 2) (xs := [.one (.val 0), .one (.int .i64 (.var 1))]) (e := [.v v0, .i i1]) rfl (by kernel_rfl) (Eq.mp (by kernel_rfl) h)


/-- (*tracery/net.Net).off: what is left of it. -/
theorem netOff_sx (R : Ending → World → Prop) (S : Nat → Prop) (w0 : World) (v0 : Value) (i1 : Int) (h :
 (
 (∃ p3 : Nat, ∃ o4 : Nat, v0 = .pointer (some ⟨p3, o4, none⟩) ∧
 (∀ w1 : World, Go.Sx.Fr S w0 w1 → Below w0.heap.size w0 w1 → ∃ A5 : Option Addr, ∃ n6 : Nat, ∃ n7 : Nat, Go.Sx.CellsAt w1 p3 (o4 + ((0 : Int)).toNat * 0 + 0) [.slice A5 n6 n7] ∧ (p3 < w0.heap.size ∧ p3 ∉ []) ∧ 
 (∃ A8 : Option Addr, ∃ n9 : Nat, ∃ n10 : Nat, (∀ w', Go.Sx.Keep w0.heap.size [] w1 w' → (Instr.sliceAt 62 (.slice A5 n6 n7) none (some (.int .i64 i1)) none).run Try.prog w' = .ok (.slice A8 n9 n10) w') ∧
 (∃ p11 : Nat, ∃ o12 : Nat, v0 = .pointer (some ⟨p11, o12, none⟩) ∧
 (∃ A13 : Option Addr, ∃ n14 : Nat, ∃ n15 : Nat, Go.Sx.CellsAt w1 p11 (o12 + ((0 : Int)).toNat * 0 + 0) [.slice A13 n14 n15] ∧ (p11 < w0.heap.size ∧ p11 ∉ []) ∧ 
 (∃ A16 : Option Addr, ∃ n17 : Nat, ∃ n18 : Nat, (∀ w', Go.Sx.Keep w0.heap.size [] w1 w' → (Instr.sliceAt 62 (.slice A13 n14 n15) (some (.int .i64 (IntKind.i64.wrap (i1 + (1 : Int))))) none none).run Try.prog w' = .ok (.slice A16 n17 n18) w') ∧
 ∀ g19 : Nat, w0.heap.size ≤ g19 → (∀ w2 : World, Go.Sx.Fr S w0 w2 → Below w1.heap.size w1 w2 → w1.heap.size ≤ g19 → w2.heap[g19]? = some (.cells #[.slice A8 n9 n10, .slice A16 n17 n18] 62 (0, 0)) → 
 Calls Try.prog 67 #[(.slice (some ⟨g19, 0, none⟩) 2 2)] w2 fun r w3 => ∃ A20 : Option Addr, ∃ n21 : Nat, ∃ n22 : Nat, r = .returned (.slice A20 n21 n22) ∧ (Go.Sx.Fr S w0 w3 ∧ Go.Sx.Mild [g19] w2 w3) ∧ 
 (∃ p23 : Nat, ∃ o24 : Nat, v0 = .pointer (some ⟨p23, o24, none⟩) ∧
 (
 ∃ w4 : World, (Instr.storeAt 62 (.pointer (some ⟨p23, o24 + ((0 : Int)).toNat * 0 + 0, none⟩)) (.slice A20 n21 n22)).run Try.prog w3 = .ok () w4 ∧ (Go.Sx.Fr S w0 w4 ∧ Go.Sx.Mild [g19] w3 w4) ∧ 
 (R (.returned (.tuple #[])) w4)))))))))))) :
    Calls Try.prog 48 #[(v0), (.int .i64 i1)] w0 R :=
  Go.Sx.fn_sound0 (P := Try.prog) (S := S) (w0 := w0) (R := R) (ws := []) (an := []) (f := 48) (n := 2) (xs := [.one (.val 0), .one (.int .i64 (.var 1))]) (e := [.v v0, .i i1]) rfl (by kernel_rfl) (Eq.mp (by kernel_rfl) h)


/-- (*tracery/net.Net).At: what is left of it. -/
theorem netAt_sx (R : Ending → World → Prop) (S : Nat → Prop) (w0 : World) (v0 : Value) (i1 : Int) (h :
 ∀ g2 : Nat, w0.heap.size ≤ g2 → (∀ w1 : World, Go.Sx.Fr S w0 w1 → Below w0.heap.size w0 w1 → w0.heap.size ≤ g2 → w1.heap[g2]? = some (.cells #[.int .i64 (0 : Int), .int .i64 (0 : Int), .int .i64 (0 : Int), .int .i64 (0 : Int), .int .i64 (0 : Int), .int .i64 (0 : Int), .slice none 0 0] 47 (0, 0)) → 
 Calls Try.prog 47 #[(v0), (.int .i64 i1)] w1 fun r w2 => ∃ b3 : Bool, r = .returned (.bool b3) ∧ (Go.Sx.Fr S w0 w2 ∧ Go.Sx.Mild [g2] w1 w2) ∧ 
 ((b3 = false →
 (∀ w3 : World, Go.Sx.Fr S w0 w3 → Go.Sx.Fr (fun b => b ∈ [g2]) w2 w3 → R (.returned (.tuple #[.agg #[.int .i64 (0 : Int), .int .i64 (0 : Int), .int .i64 (0 : Int), .int .i64 (0 : Int), .int .i64 (0 : Int), .int .i64 (0 : Int), .slice none 0 0], .int .i64 (1 : Int)])) w3)) ∧
 (b3 = true →
 (∃ p4 : Nat, ∃ o5 : Nat, v0 = .pointer (some ⟨p4, o5, none⟩) ∧
  (∃ A6 : Option Addr, ∃ n7 : Nat, ∃ n8 : Nat, Go.Sx.CellsAt w2 p4 (o5 + ((0 : Int)).toNat * 0 + 0) [.slice A6 n7 n8] ∧ 
  ((0 : Int) ≤ i1 ∧ i1 < (n7 : Int) ∧ ∃ p9 : Nat, ∃ o10 : Nat, A6 = some ⟨p9, o10, none⟩ ∧
  (∃ A11 : Option Addr, ∃ n12 : Nat, ∃ n13 : Nat, Go.Sx.CellsAt w2 p9 (o10 + (i1).toNat * 1 + 0) [.slice A11 n12 n13] ∧ 
  (
  Calls Try.prog 49 #[(.slice A11 n12 n13)] w2 fun r w3 => ∃ i14 : Int, ∃ i15 : Int, ∃ i16 : Int, ∃ i17 : Int, ∃ i18 : Int, ∃ i19 : Int, ∃ A20 : Option Addr, ∃ n21 : Nat, ∃ n22 : Nat, ∃ i23 : Int, r = .returned (.tuple #[.agg #[.int .i64 i14, .int .i64 i15, .int .i64 i16, .int .i64 i17, .int .i64 i18, .int .i64 i19, .slice A20 n21 n22], .int .i64 i23]) ∧ (Go.Sx.Fr S w0 w3 ∧ Go.Sx.Mild [g2] w2 w3) ∧ 
  (∀ w4 : World, Go.Sx.Fr S w0 w4 → Go.Sx.Fr (fun b => b ∈ [g2]) w3 w4 → R (.returned (.tuple #[.agg #[.int .i64 i14, .int .i64 i15, .int .i64 i16, .int .i64 i17, .int .i64 i18, .int .i64 i19, .slice A20 n21 n22], .int .i64 i23])) w4)))))))))) :
    Calls Try.prog 31 #[(v0), (.int .i64 i1)] w0 R :=
  Go.Sx.fn_sound0 (P := Try.prog) (S := S) (w0 := w0) (R := R) (ws := []) (an := [⟨999999, [], [], 0⟩]) (f := 31) (n := 2) (xs := [.one (.val 0), .one (.int .i64 (.var 1))]) (e := [.v v0, .i i1]) rfl (by kernel_rfl) (Eq.mp (by kernel_rfl) h)


/-- (*tracery/net.Net).Deliver: what is left of it. -/
theorem netDeliver_sx (R : Ending → World → Prop) (S : Nat → Prop) (w0 : World) (v0 : Value) (i1 : Int) (h :
 ∀ g2 : Nat, w0.heap.size ≤ g2 → (∀ w1 : World, Go.Sx.Fr S w0 w1 → Below w0.heap.size w0 w1 → w0.heap.size ≤ g2 → w1.heap[g2]? = some (.cells #[.int .i64 (0 : Int), .int .i64 (0 : Int), .int .i64 (0 : Int), .int .i64 (0 : Int), .int .i64 (0 : Int), .int .i64 (0 : Int), .slice none 0 0] 47 (0, 0)) → 
 Calls Try.prog 31 #[(v0), (.int .i64 i1)] w1 fun r w2 => ∃ i3 : Int, ∃ i4 : Int, ∃ i5 : Int, ∃ i6 : Int, ∃ i7 : Int, ∃ i8 : Int, ∃ A9 : Option Addr, ∃ n10 : Nat, ∃ n11 : Nat, ∃ i12 : Int, r = .returned (.tuple #[.agg #[.int .i64 i3, .int .i64 i4, .int .i64 i5, .int .i64 i6, .int .i64 i7, .int .i64 i8, .slice A9 n10 n11], .int .i64 i12]) ∧ (Go.Sx.Fr S w0 w2 ∧ Go.Sx.Mild [g2] w1 w2) ∧ 
 ∀ g13 : Nat, w0.heap.size ≤ g13 → ((i12 = (1 : Int) →
 (∀ w3 : World, Go.Sx.Fr S w0 w3 → Go.Sx.Fr (fun b => b ∈ [g2]) w2 w3 → w2.heap.size ≤ g13 → w3.heap[g13]? = some (.cells #[.int .i64 i3, .int .i64 i4, .int .i64 i5, .int .i64 i6, .int .i64 i7, .int .i64 i8, .slice A9 n10 n11] 47 (0, 0)) → R (.returned (.tuple #[.agg #[.int .i64 i3, .int .i64 i4, .int .i64 i5, .int .i64 i6, .int .i64 i7, .int .i64 i8, .slice A9 n10 n11], .int .i64 i12])) w3)) ∧
 (¬ i12 = (1 : Int) →
 ((i12 = (2 : Int) →
  (∀ w3 : World, Go.Sx.Fr S w0 w3 → Below w2.heap.size w2 w3 → w2.heap.size ≤ g13 → w3.heap[g13]? = some (.cells #[.int .i64 i3, .int .i64 i4, .int .i64 i5, .int .i64 i6, .int .i64 i7, .int .i64 i8, .slice A9 n10 n11] 47 (0, 0)) → 
   Calls Try.prog 48 #[(v0), (.int .i64 i1)] w3 fun r w4 => r = .returned (.tuple #[]) ∧ (Go.Sx.Fr S w0 w4 ∧ Go.Sx.Mild [g13, g2] w3 w4) ∧ 
   (
   Calls Try.prog 44 #[(v0), (.int .i64 (3 : Int))] w4 fun r w5 => r = .returned (.tuple #[]) ∧ (Go.Sx.Fr S w0 w5 ∧ Go.Sx.Mild [g13, g2] w4 w5) ∧ 
   (∀ w6 : World, Go.Sx.Fr S w0 w6 → Go.Sx.Fr (fun b => b ∈ [g2]) w5 w6 → R (.returned (.tuple #[.agg #[.int .i64 i3, .int .i64 i4, .int .i64 i5, .int .i64 i6, .int .i64 i7, .int .i64 i8, .slice A9 n10 n11], .int .i64 i12])) w6)))) ∧
  (¬ i12 = (2 : Int) →
  (∀ w3 : World, Go.Sx.Fr S w0 w3 → Below w2.heap.size w2 w3 → w2.heap.size ≤ g13 → w3.heap[g13]? = some (.cells #[.int .i64 i3, .int .i64 i4, .int .i64 i5, .int .i64 i6, .int .i64 i7, .int .i64 i8, .slice A9 n10 n11] 47 (0, 0)) → 
   Calls Try.prog 48 #[(v0), (.int .i64 i1)] w3 fun r w4 => r = .returned (.tuple #[]) ∧ (Go.Sx.Fr S w0 w4 ∧ Go.Sx.Mild [g13, g2] w3 w4) ∧ 
   (
   Calls Try.prog 44 #[(v0), (.int .i64 (2 : Int))] w4 fun r w5 => r = .returned (.tuple #[]) ∧ (Go.Sx.Fr S w0 w5 ∧ Go.Sx.Mild [g13, g2] w4 w5) ∧ 
   (∀ w6 : World, Go.Sx.Fr S w0 w6 → Go.Sx.Fr (fun b => b ∈ [g2]) w5 w6 → R (.returned (.tuple #[.agg #[.int .i64 i3, .int .i64 i4, .int .i64 i5, .int .i64 i6, .int .i64 i7, .int .i64 i8, .slice A9 n10 n11], .int .i64 i12])) w6))))))))) :
    Calls Try.prog 33 #[(v0), (.int .i64 i1)] w0 R :=
  Go.Sx.fn_sound0 (P := Try.prog) (S := S) (w0 := w0) (R := R) (ws := []) (an := [⟨999999, [], [], 0⟩]) (f := 33) (n := 2) (xs := [.one (.val 0), .one (.int .i64 (.var 1))]) (e := [.v v0, .i i1]) rfl (by kernel_rfl) (Eq.mp (by kernel_rfl) h)


/-- (*tracery/net.Net).Drop: what is left of it. -/
theorem netDrop_sx (R : Ending → World → Prop) (S : Nat → Prop) (w0 : World) (v0 : Value) (i1 : Int) (h :
 (
 Calls Try.prog 47 #[(v0), (.int .i64 i1)] w0 fun r w1 => ∃ b2 : Bool, r = .returned (.bool b2) ∧ (Go.Sx.Fr S w0 w1 ∧ Go.Sx.Mild [] w0 w1) ∧ 
 ((b2 = false →
 (R (.returned (.int .i64 (1 : Int))) w1)) ∧
 (b2 = true →
 (
  Calls Try.prog 48 #[(v0), (.int .i64 i1)] w1 fun r w2 => r = .returned (.tuple #[]) ∧ (Go.Sx.Fr S w0 w2 ∧ Go.Sx.Mild [] w1 w2) ∧ 
  (
  Calls Try.prog 44 #[(v0), (.int .i64 (4 : Int))] w2 fun r w3 => r = .returned (.tuple #[]) ∧ (Go.Sx.Fr S w0 w3 ∧ Go.Sx.Mild [] w2 w3) ∧ 
  (R (.returned (.int .i64 (0 : Int))) w3))))))) :
    Calls Try.prog 30 #[(v0), (.int .i64 i1)] w0 R :=
  Go.Sx.fn_sound0 (P := Try.prog) (S := S) (w0 := w0) (R := R) (ws := []) (an := []) (f := 30) (n := 2) (xs := [.one (.val 0), .one (.int .i64 (.var 1))]) (e := [.v v0, .i i1]) rfl (by kernel_rfl) (Eq.mp (by kernel_rfl) h)


/-- (*tracery/net.Net).Double: what is left of it. -/
theorem netDouble_sx (R : Ending → World → Prop) (S : Nat → Prop) (w0 : World) (v0 : Value) (i1 : Int) (h :
 (
 Calls Try.prog 47 #[(v0), (.int .i64 i1)] w0 fun r w1 => ∃ b2 : Bool, r = .returned (.bool b2) ∧ (Go.Sx.Fr S w0 w1 ∧ Go.Sx.Mild [] w0 w1) ∧ 
 ((b2 = false →
 (R (.returned (.int .i64 (1 : Int))) w1)) ∧
 (b2 = true →
 (∃ p3 : Nat, ∃ o4 : Nat, v0 = .pointer (some ⟨p3, o4, none⟩) ∧
  (∃ A5 : Option Addr, ∃ n6 : Nat, ∃ n7 : Nat, Go.Sx.CellsAt w1 p3 (o4 + ((0 : Int)).toNat * 0 + 0) [.slice A5 n6 n7] ∧ 
  (((4096 : Int) ≤ (n6 : Int) →
  (R (.returned (.int .i64 (20 : Int))) w1)) ∧
  ((n6 : Int) < (4096 : Int) →
  (∃ T8 : List Nat, (∀ b ∈ T8, b < w1.heap.size ∧ b ∉ []) ∧
   (∃ p9 : Nat, ∃ o10 : Nat, v0 = .pointer (some ⟨p9, o10, none⟩) ∧
   (∀ w2 : World, Go.Sx.Fr S w0 w2 → Below w1.heap.size w1 w2 → ∃ A11 : Option Addr, ∃ n12 : Nat, ∃ n13 : Nat, Go.Sx.CellsAt w2 p9 (o10 + ((0 : Int)).toNat * 0 + 0) [.slice A11 n12 n13] ∧ (p9 < w1.heap.size ∧ p9 ∉ (T8 ++ [])) ∧ 
   (∃ p14 : Nat, ∃ o15 : Nat, v0 = .pointer (some ⟨p14, o15, none⟩) ∧
   (∃ A16 : Option Addr, ∃ n17 : Nat, ∃ n18 : Nat, Go.Sx.CellsAt w2 p14 (o15 + ((0 : Int)).toNat * 0 + 0) [.slice A16 n17 n18] ∧ (p14 < w1.heap.size ∧ p14 ∉ (T8 ++ [])) ∧ 
   ((0 : Int) ≤ i1 ∧ i1 < (n17 : Int) ∧ ∃ p19 : Nat, ∃ o20 : Nat, A16 = some ⟨p19, o20, none⟩ ∧
   (∃ A21 : Option Addr, ∃ n22 : Nat, ∃ n23 : Nat, Go.Sx.CellsAt w2 p19 (o20 + (i1).toNat * 1 + 0) [.slice A21 n22 n23] ∧ (p19 < w1.heap.size ∧ p19 ∉ (T8 ++ [])) ∧ 
   (((
   Calls Try.prog 45 #[(.slice A11 n12 n13)] w2 fun r w3 => ∃ A24 : Option Addr, ∃ n25 : Nat, ∃ n26 : Nat, r = .returned (.slice A24 n25 n26) ∧ (Go.Sx.Fr S w0 w3 ∧ Go.Sx.Mild [] w2 w3) ∧ Go.Sx.Keep w1.heap.size (T8 ++ []) w2 w3 ∧ 
   ∀ g27 : Nat, w0.heap.size ≤ g27 → (∀ w4 : World, Go.Sx.Fr S w0 w4 → Below w3.heap.size w3 w4 → w3.heap.size ≤ g27 → w4.heap[g27]? = some (.cells #[.slice A21 n22 n23] 45 (0, 0)) → 
   ∃ w5 : World, ∃ A28 : Option Addr, ∃ n29 : Nat, ∃ n30 : Nat, (Builtin.append_ #[62, 62] 62 #[(.slice A24 n25 n26), (.slice (some ⟨g27, 0, none⟩) 1 1)]).run Try.prog w4 = .ok (.slice A28 n29 n30) w5 ∧ (Go.Sx.Fr S w0 w5 ∧ Go.Sx.Mild [g27] w4 w5) ∧ 
   (∃ p31 : Nat, ∃ o32 : Nat, v0 = .pointer (some ⟨p31, o32, none⟩) ∧
   (
   ∃ w6 : World, (Instr.storeAt 62 (.pointer (some ⟨p31, o32 + ((0 : Int)).toNat * 0 + 0, none⟩)) (.slice A28 n29 n30)).run Try.prog w5 = .ok () w6 ∧ (Go.Sx.Fr S w0 w6 ∧ Go.Sx.Mild [g27] w5 w6) ∧ 
   (
   Calls Try.prog 44 #[(v0), (.int .i64 (5 : Int))] w6 fun r w7 => r = .returned (.tuple #[]) ∧ (Go.Sx.Fr S w0 w7 ∧ Go.Sx.Mild [g27] w6 w7) ∧ 
   (R (.returned (.int .i64 (0 : Int))) w7))))))) ∧
   (∀ g24 : Nat, w0.heap.size ≤ g24 → (∀ w3 : World, Go.Sx.Fr S w0 w3 → Below w2.heap.size w2 w3 → 
   Calls Try.prog 45 #[(.slice A11 n12 n13)] w3 fun r w4 => ∃ A25 : Option Addr, ∃ n26 : Nat, ∃ n27 : Nat, r = .returned (.slice A25 n26 n27) ∧ (Go.Sx.Fr S w0 w4 ∧ Go.Sx.Mild [g24] w3 w4) ∧ Go.Sx.Keep w1.heap.size (T8 ++ []) w3 w4 ∧ 
   (w4.heap[g24]? = some (.cells #[.slice A21 n22 n23] 45 (0, 0)) → 
   ∃ w5 : World, ∃ A28 : Option Addr, ∃ n29 : Nat, ∃ n30 : Nat, (Builtin.append_ #[62, 62] 62 #[(.slice A25 n26 n27), (.slice (some ⟨g24, 0, none⟩) 1 1)]).run Try.prog w4 = .ok (.slice A28 n29 n30) w5 ∧ (Go.Sx.Fr S w0 w5 ∧ Go.Sx.Mild [g24] w4 w5) ∧ 
   (∃ p31 : Nat, ∃ o32 : Nat, v0 = .pointer (some ⟨p31, o32, none⟩) ∧
   (
   ∃ w6 : World, (Instr.storeAt 62 (.pointer (some ⟨p31, o32 + ((0 : Int)).toNat * 0 + 0, none⟩)) (.slice A28 n29 n30)).run Try.prog w5 = .ok () w6 ∧ (Go.Sx.Fr S w0 w6 ∧ Go.Sx.Mild [g24] w5 w6) ∧ 
   (
   Calls Try.prog 44 #[(v0), (.int .i64 (5 : Int))] w6 fun r w7 => r = .returned (.tuple #[]) ∧ (Go.Sx.Fr S w0 w7 ∧ Go.Sx.Mild [g24] w6 w7) ∧ 
   (R (.returned (.int .i64 (0 : Int))) w7))))))))))))))))))))))) :
    Calls Try.prog 34 #[(v0), (.int .i64 i1)] w0 R :=
  Go.Sx.fn_sound0 (P := Try.prog) (S := S) (w0 := w0) (R := R) (ws := []) (an := [⟨999998, [], [], 0⟩]) (f := 34) (n := 2) (xs := [.one (.val 0), .one (.int .i64 (.var 1))]) (e := [.v v0, .i i1]) rfl (by kernel_rfl) (Eq.mp (by kernel_rfl) h)


/-- (*tracery/net.Net).Turn: what is left of it. -/
theorem netTurn_sx (R : Ending → World → Prop) (S : Nat → Prop) (w0 : World) (v0 : Value) (i1 : Int) (i2 : Int) (h :
 (
 Calls Try.prog 47 #[(v0), (.int .i64 i1)] w0 fun r w1 => ∃ b3 : Bool, r = .returned (.bool b3) ∧ (Go.Sx.Fr S w0 w1 ∧ Go.Sx.Mild [] w0 w1) ∧ 
 ((b3 = false →
 (R (.returned (.int .i64 (1 : Int))) w1)) ∧
 (b3 = true →
 ((i2 < (0 : Int) →
  (R (.returned (.int .i64 (1 : Int))) w1)) ∧
  ((0 : Int) ≤ i2 →
  (∃ p4 : Nat, ∃ o5 : Nat, v0 = .pointer (some ⟨p4, o5, none⟩) ∧
   (∃ A6 : Option Addr, ∃ n7 : Nat, ∃ n8 : Nat, Go.Sx.CellsAt w1 p4 (o5 + ((0 : Int)).toNat * 0 + 0) [.slice A6 n7 n8] ∧ 
   ((0 : Int) ≤ i1 ∧ i1 < (n7 : Int) ∧ ∃ p9 : Nat, ∃ o10 : Nat, A6 = some ⟨p9, o10, none⟩ ∧
   (∃ A11 : Option Addr, ∃ n12 : Nat, ∃ n13 : Nat, Go.Sx.CellsAt w1 p9 (o10 + (i1).toNat * 1 + 0) [.slice A11 n12 n13] ∧ 
   (((n12 : Int) ≤ i2 →
   (R (.returned (.int .i64 (1 : Int))) w1)) ∧
   (i2 < (n12 : Int) →
   (∃ p14 : Nat, ∃ o15 : Nat, v0 = .pointer (some ⟨p14, o15, none⟩) ∧
    (∃ A16 : Option Addr, ∃ n17 : Nat, ∃ n18 : Nat, Go.Sx.CellsAt w1 p14 (o15 + ((0 : Int)).toNat * 0 + 0) [.slice A16 n17 n18] ∧ 
    (
    Calls Try.prog 50 #[(.slice A16 n17 n18)] w1 fun r w2 => ∃ A19 : Option Addr, ∃ n20 : Nat, ∃ n21 : Nat, r = .returned (.slice A19 n20 n21) ∧ (Go.Sx.Fr S w0 w2 ∧ Go.Sx.Mild [] w1 w2) ∧ 
    (∃ p22 : Nat, ∃ o23 : Nat, v0 = .pointer (some ⟨p22, o23, none⟩) ∧
    (
    ∃ w3 : World, (Instr.storeAt 62 (.pointer (some ⟨p22, o23 + ((0 : Int)).toNat * 0 + 0, none⟩)) (.slice A19 n20 n21)).run Try.prog w2 = .ok () w3 ∧ (Go.Sx.Fr S w0 w3 ∧ Go.Sx.Mild [] w2 w3) ∧ 
    (∃ T24 : List Nat, (∀ b ∈ T24, b < w3.heap.size ∧ b ∉ []) ∧
    (∃ p25 : Nat, ∃ o26 : Nat, v0 = .pointer (some ⟨p25, o26, none⟩) ∧
    (∀ w4 : World, Go.Sx.Fr S w0 w4 → Below w3.heap.size w3 w4 → ∃ A27 : Option Addr, ∃ n28 : Nat, ∃ n29 : Nat, Go.Sx.CellsAt w4 p25 (o26 + ((0 : Int)).toNat * 0 + 0) [.slice A27 n28 n29] ∧ (p25 < w3.heap.size ∧ p25 ∉ (T24 ++ [])) ∧ 
    (∃ p30 : Nat, ∃ o31 : Nat, v0 = .pointer (some ⟨p30, o31, none⟩) ∧
    (∃ A32 : Option Addr, ∃ n33 : Nat, ∃ n34 : Nat, Go.Sx.CellsAt w4 p30 (o31 + ((0 : Int)).toNat * 0 + 0) [.slice A32 n33 n34] ∧ (p30 < w3.heap.size ∧ p30 ∉ (T24 ++ [])) ∧ 
    ((0 : Int) ≤ i1 ∧ i1 < (n33 : Int) ∧ ∃ p35 : Nat, ∃ o36 : Nat, A32 = some ⟨p35, o36, none⟩ ∧
    (∃ A37 : Option Addr, ∃ n38 : Nat, ∃ n39 : Nat, Go.Sx.CellsAt w4 p35 (o36 + (i1).toNat * 1 + 0) [.slice A37 n38 n39] ∧ (p35 < w3.heap.size ∧ p35 ∉ (T24 ++ [])) ∧ 
    (
    Calls Try.prog 51 #[(.slice A37 n38 n39)] w4 fun r w5 => ∃ A40 : Option Addr, ∃ n41 : Nat, ∃ n42 : Nat, r = .returned (.slice A40 n41 n42) ∧ (Go.Sx.Fr S w0 w5 ∧ Go.Sx.Mild [] w4 w5) ∧ Go.Sx.Keep w3.heap.size (T24 ++ []) w4 w5 ∧ 
    ((0 : Int) ≤ i1 ∧ i1 < (n28 : Int) ∧ ∃ p43 : Nat, ∃ o44 : Nat, A27 = some ⟨p43, o44, none⟩ ∧
    (
    ∃ w6 : World, (Instr.storeAt 45 (.pointer (some ⟨p43, o44 + (i1).toNat * 1 + 0, none⟩)) (.slice A40 n41 n42)).run Try.prog w5 = .ok () w6 ∧ (Go.Sx.Fr S w0 w6 ∧ Go.Sx.Mild [] w5 w6) ∧ 
    (∃ p45 : Nat, ∃ o46 : Nat, v0 = .pointer (some ⟨p45, o46, none⟩) ∧
    (∃ A47 : Option Addr, ∃ n48 : Nat, ∃ n49 : Nat, Go.Sx.CellsAt w6 p45 (o46 + ((0 : Int)).toNat * 0 + 0) [.slice A47 n48 n49] ∧ 
    ((0 : Int) ≤ i1 ∧ i1 < (n48 : Int) ∧ ∃ p50 : Nat, ∃ o51 : Nat, A47 = some ⟨p50, o51, none⟩ ∧
    (∃ A52 : Option Addr, ∃ n53 : Nat, ∃ n54 : Nat, Go.Sx.CellsAt w6 p50 (o51 + (i1).toNat * 1 + 0) [.slice A52 n53 n54] ∧ 
    ((0 : Int) ≤ i2 ∧ i2 < (n53 : Int) ∧ ∃ p55 : Nat, ∃ o56 : Nat, A52 = some ⟨p55, o56, none⟩ ∧
    (∃ i57 : Int, Go.Sx.CellsAt w6 p55 (o56 + (i2).toNat * 1 + 0) [.int .u8 i57] ∧ 
    ((0 : Int) ≤ i2 ∧ i2 < (n53 : Int) ∧ ∃ p58 : Nat, ∃ o59 : Nat, A52 = some ⟨p58, o59, none⟩ ∧
    (
    ∃ w7 : World, (Instr.storeAt 5 (.pointer (some ⟨p58, o59 + (i2).toNat * 1 + 0, none⟩)) (.int .u8 (bits .xor .u8 i57 (1 : Int)))).run Try.prog w6 = .ok () w7 ∧ (Go.Sx.Fr S w0 w7 ∧ Go.Sx.Mild [] w6 w7) ∧ 
    (R (.returned (.int .i64 (0 : Int))) w7)))))))))))))))))))))))))))))))))))) :
    Calls Try.prog 35 #[(v0), (.int .i64 i1), (.int .i64 i2)] w0 R :=
  Go.Sx.fn_sound0 (P := Try.prog) (S := S) (w0 := w0) (R := R) (ws := []) (an := [⟨999998, [], [], 0⟩]) (f := 35) (n := 3) (xs := [.one (.val 0), .one (.int .i64 (.var 1)), .one (.int .i64 (.var 2))]) (e := [.v v0, .i i1, .i i2]) rfl (by kernel_rfl) (Eq.mp (by kernel_rfl) h)


/-- (*tracery/net.Net).Tally: what is left of it. -/
theorem netTally_sx (R : Ending → World → Prop) (S : Nat → Prop) (w0 : World) (v0 : Value) (h :
 (∃ p1 : Nat, ∃ o2 : Nat, v0 = .pointer (some ⟨p1, o2, none⟩) ∧
 (∃ v3 : Value, Go.Sx.CellsAt w0 p1 (o2 + ((0 : Int)).toNat * 0 + 1) [v3] ∧ 
 (
 Calls Try.prog 16 #[(v3)] w0 fun r w1 => ∃ A4 : Option Addr, ∃ n5 : Nat, ∃ n6 : Nat, r = .returned (.slice A4 n5 n6) ∧ (Go.Sx.Fr S w0 w1 ∧ Go.Sx.Mild [] w0 w1) ∧ 
 (R (.returned (.slice A4 n5 n6)) w1))))) :
    Calls Try.prog 36 #[(v0)] w0 R :=
  Go.Sx.fn_sound0 (P := Try.prog) (S := S) (w0 := w0) (R := R) (ws := []) (an := []) (f := 36) (n := 1) (xs := [.one (.val 0)]) (e := [.v v0]) rfl (by kernel_rfl) (Eq.mp (by kernel_rfl) h)


/-- (*tracery/net.Net).Clone: what is left of it. -/
theorem netClone_sx (R : Ending → World → Prop) (S : Nat → Prop) (w0 : World) (v0 : Value) (h :
 (∃ T1 : List Nat, (∀ b ∈ T1, b < w0.heap.size ∧ b ∉ []) ∧
 (∃ p2 : Nat, ∃ o3 : Nat, v0 = .pointer (some ⟨p2, o3, none⟩) ∧
 (∀ w1 : World, Go.Sx.Fr S w0 w1 → Below w0.heap.size w0 w1 → ∃ A4 : Option Addr, ∃ n5 : Nat, ∃ n6 : Nat, Go.Sx.CellsAt w1 p2 (o3 + ((0 : Int)).toNat * 0 + 0) [.slice A4 n5 n6] ∧ (p2 < w0.heap.size ∧ p2 ∉ (T1 ++ [])) ∧ 
 (∃ p7 : Nat, ∃ o8 : Nat, v0 = .pointer (some ⟨p7, o8, none⟩) ∧
 (∃ v9 : Value, Go.Sx.CellsAt w1 p7 (o8 + ((0 : Int)).toNat * 0 + 1) [v9] ∧ (p7 < w0.heap.size ∧ p7 ∉ (T1 ++ [])) ∧ 
 (
 Calls Try.prog 50 #[(.slice A4 n5 n6)] w1 fun r w2 => ∃ A10 : Option Addr, ∃ n11 : Nat, ∃ n12 : Nat, r = .returned (.slice A10 n11 n12) ∧ (Go.Sx.Fr S w0 w2 ∧ Go.Sx.Mild [] w1 w2) ∧ Go.Sx.Keep w0.heap.size (T1 ++ []) w1 w2 ∧ 
 (
 Calls Try.prog 20 #[(v9)] w2 fun r w3 => ∃ v13 : Value, r = .returned (v13) ∧ (Go.Sx.Fr S w0 w3 ∧ Go.Sx.Mild [] w2 w3) ∧ 
 ((v13).oneCell' = true ∧
 ((v13).oneCell' = true ∧
 ∀ g14 : Nat, w0.heap.size ≤ g14 → (∀ w4 : World, Go.Sx.Fr S w0 w4 → Below w3.heap.size w3 w4 → w3.heap.size ≤ g14 → w4.heap[g14]? = some (.cells #[.slice A10 n11 n12, v13] 89 (0, 0)) → R (.returned (.pointer (some ⟨g14, 0, none⟩))) w4))))))))))) :
    Calls Try.prog 37 #[(v0)] w0 R :=
  Go.Sx.fn_sound0 (P := Try.prog) (S := S) (w0 := w0) (R := R) (ws := []) (an := [⟨999998, [], [], 0⟩]) (f := 37) (n := 1) (xs := [.one (.val 0)]) (e := [.v v0]) rfl (by kernel_rfl) (Eq.mp (by kernel_rfl) h)


/-- slices.Clip[[][]byte,[]byte]: what is left of it. -/
theorem clip_sx (R : Ending → World → Prop) (S : Nat → Prop) (w0 : World) (A0 : Option Addr) (n1 : Nat) (n2 : Nat) (h :
 (∃ A3 : Option Addr, ∃ n4 : Nat, ∃ n5 : Nat, (Instr.sliceAt 62 (.slice A0 n1 n2) none (some (.int .i64 (n1 : Int))) (some (.int .i64 (n1 : Int)))).run Try.prog w0 = .ok (.slice A3 n4 n5) w0 ∧
 (R (.returned (.slice A3 n4 n5)) w0))) :
    Calls Try.prog 45 #[(.slice A0 n1 n2)] w0 R :=
  Go.Sx.fn_sound0 (P := Try.prog) (S := S) (w0 := w0) (R := R) (ws := []) (an := []) (f := 45) (n := 3) (xs := [.one (.slice (.var 0) (.var 1) (.var 2))]) (e := [.a A0, .n n1, .n n2]) rfl (by kernel_rfl) (Eq.mp (by kernel_rfl) h)


/-- slices.Grow[[][]byte,[]byte]: what is left of it. -/
theorem grow_sx (R : Ending → World → Prop) (S : Nat → Prop) (w0 : World) (A0 : Option Addr) (n1 : Nat) (n2 : Nat) (i3 : Int) (h :
 ((i3 < (0 : Int) →
 False) ∧
 ((0 : Int) ≤ i3 →
 (∃ i4 : Int, (Builtin.cap_ #[62] 3 #[(.slice A0 n1 n2)]).run Try.prog w0 = .ok (.int .i64 i4) w0 ∧
  (((0 : Int) < (IntKind.i64.wrap (i3 - (IntKind.i64.wrap (i4 - (n1 : Int))))) →
  (∃ i5 : Int, (Builtin.cap_ #[62] 3 #[(.slice A0 n1 n2)]).run Try.prog w0 = .ok (.int .i64 i5) w0 ∧
   (∃ A6 : Option Addr, ∃ n7 : Nat, ∃ n8 : Nat, (Instr.sliceAt 62 (.slice A0 n1 n2) none (some (.int .i64 i5)) none).run Try.prog w0 = .ok (.slice A6 n7 n8) w0 ∧
   (
   ∃ w1 : World, ∃ A9 : Option Addr, ∃ n10 : Nat, ∃ n11 : Nat, (Builtin.append_ #[62, 3] 62 #[(.slice A6 n7 n8), (.int .i64 (IntKind.i64.wrap (i3 - (IntKind.i64.wrap (i4 - (n1 : Int))))))]).run Try.prog w0 = .ok (.slice A9 n10 n11) w1 ∧ (Go.Sx.Fr S w0 w1 ∧ Go.Sx.Mild [] w0 w1) ∧ 
   (∃ A12 : Option Addr, ∃ n13 : Nat, ∃ n14 : Nat, (Instr.sliceAt 62 (.slice A9 n10 n11) none (some (.int .i64 (n1 : Int))) none).run Try.prog w1 = .ok (.slice A12 n13 n14) w1 ∧
   (R (.returned (.slice A12 n13 n14)) w1)))))) ∧
  ((IntKind.i64.wrap (i3 - (IntKind.i64.wrap (i4 - (n1 : Int))))) ≤ (0 : Int) →
  (R (.returned (.slice A0 n1 n2)) w0))))))) :
    Calls Try.prog 78 #[(.slice A0 n1 n2), (.int .i64 i3)] w0 R :=
  Go.Sx.fn_sound0 (P := Try.prog) (S := S) (w0 := w0) (R := R) (ws := []) (an := []) (f := 78) (n := 4) (xs := [.one (.slice (.var 0) (.var 1) (.var 2)), .one (.int .i64 (.var 3))]) (e := [.a A0, .n n1, .n n2, .i i3]) rfl (by kernel_rfl) (Eq.mp (by kernel_rfl) h)


/-- slices.Concat[[][]byte,[]byte]: what is left of it. -/
theorem concat_sx (R : Ending → World → Prop) (S : Nat → Prop) (w0 : World) (A0 : Option Addr) (n1 : Nat) (n2 : Nat) (h :
 (∃ (I0 : Int → Int → World → Prop) (M0 : Int → Int → World → Nat), (I0 (0 : Int) (0 : Int) w0) ∧
 ∀ i3 : Int, ∀ i4 : Int, ∀ w1 : World, Go.Sx.Fr S w0 w1 → I0 i3 i4 w1 → 
  ((i4 < (n1 : Int) →
  ((0 : Int) ≤ i4 ∧ i4 < (n1 : Int) ∧ ∃ p5 : Nat, ∃ o6 : Nat, A0 = some ⟨p5, o6, none⟩ ∧
   (∃ A7 : Option Addr, ∃ n8 : Nat, ∃ n9 : Nat, Go.Sx.CellsAt w1 p5 (o6 + (i4).toNat * 1 + 0) [.slice A7 n8 n9] ∧ 
   (((IntKind.i64.wrap (i3 + (n8 : Int))) < (0 : Int) →
   False) ∧
   ((0 : Int) ≤ (IntKind.i64.wrap (i3 + (n8 : Int))) →
   (I0 (IntKind.i64.wrap (i3 + (n8 : Int))) (IntKind.i64.wrap (i4 + (1 : Int))) w1 ∧ M0 (IntKind.i64.wrap (i3 + (n8 : Int))) (IntKind.i64.wrap (i4 + (1 : Int))) w1 < M0 i3 i4 w1)))))) ∧
  ((n1 : Int) ≤ i4 →
  (
   Calls Try.prog 78 #[(.slice none 0 0), (.int .i64 i3)] w1 fun r w2 => ∃ A5 : Option Addr, ∃ n6 : Nat, ∃ n7 : Nat, r = .returned (.slice A5 n6 n7) ∧ (Go.Sx.Fr S w0 w2 ∧ Go.Sx.Mild [] w1 w2) ∧ 
   (∃ (I1 : Option Addr → Nat → Nat → Int → World → Prop) (M1 : Option Addr → Nat → Nat → Int → World → Nat), (I1 A5 n6 n7 (0 : Int) w2) ∧
   ∀ A8 : Option Addr, ∀ n9 : Nat, ∀ n10 : Nat, ∀ i11 : Int, ∀ w3 : World, Go.Sx.Fr S w0 w3 → I1 A8 n9 n10 i11 w3 → 
    ((i11 < (n1 : Int) →
    ((0 : Int) ≤ i11 ∧ i11 < (n1 : Int) ∧ ∃ p12 : Nat, ∃ o13 : Nat, A0 = some ⟨p12, o13, none⟩ ∧
     (∃ A14 : Option Addr, ∃ n15 : Nat, ∃ n16 : Nat, Go.Sx.CellsAt w3 p12 (o13 + (i11).toNat * 1 + 0) [.slice A14 n15 n16] ∧ 
     (
     ∃ w4 : World, ∃ A17 : Option Addr, ∃ n18 : Nat, ∃ n19 : Nat, (Builtin.append_ #[62, 62] 62 #[(.slice A8 n9 n10), (.slice A14 n15 n16)]).run Try.prog w3 = .ok (.slice A17 n18 n19) w4 ∧ (Go.Sx.Fr S w0 w4 ∧ Go.Sx.Mild [] w3 w4) ∧ 
     (I1 A17 n18 n19 (IntKind.i64.wrap (i11 + (1 : Int))) w4 ∧ M1 A17 n18 n19 (IntKind.i64.wrap (i11 + (1 : Int))) w4 < M1 A8 n9 n10 i11 w3))))) ∧
    ((n1 : Int) ≤ i11 →
    (R (.returned (.slice A8 n9 n10)) w3))))))))) :
    Calls Try.prog 67 #[(.slice A0 n1 n2)] w0 R :=
  Go.Sx.fn_sound0 (P := Try.prog) (S := S) (w0 := w0) (R := R) (ws := []) (an := []) (f := 67) (n := 3) (xs := [.one (.slice (.var 0) (.var 1) (.var 2))]) (e := [.a A0, .n n1, .n n2]) rfl (by kernel_rfl) (Eq.mp (by kernel_rfl) h)


/-- slices.Clone[[][]byte,[]byte]: what is left of it. -/
theorem clones_sx (R : Ending → World → Prop) (S : Nat → Prop) (w0 : World) (A0 : Option Addr) (n1 : Nat) (n2 : Nat) (h :
 (∃ b3 : Bool, (binOp .eql 62 (.slice A0 n1 n2) (.slice none 0 0)).run Try.prog w0 = .ok (.bool b3) w0 ∧
 ((b3 = true →
 (R (.returned (.slice none 0 0)) w0)) ∧
 (b3 = false →
 ∀ g4 : Nat, w0.heap.size ≤ g4 → (∀ w1 : World, Go.Sx.Fr S w0 w1 → Below w0.heap.size w0 w1 → w0.heap.size ≤ g4 → w1.heap[g4]? = some (.cells #[] 45 (0, 0)) → 
  ∃ w2 : World, ∃ A5 : Option Addr, ∃ n6 : Nat, ∃ n7 : Nat, (Builtin.append_ #[62, 62] 62 #[(.slice (some ⟨g4, 0, none⟩) 0 0), (.slice A0 n1 n2)]).run Try.prog w1 = .ok (.slice A5 n6 n7) w2 ∧ (Go.Sx.Fr S w0 w2 ∧ Go.Sx.Mild [g4] w1 w2) ∧ 
  (R (.returned (.slice A5 n6 n7)) w2)))))) :
    Calls Try.prog 50 #[(.slice A0 n1 n2)] w0 R :=
  Go.Sx.fn_sound0 (P := Try.prog) (S := S) (w0 := w0) (R := R) (ws := []) (an := []) (f := 50) (n := 3) (xs := [.one (.slice (.var 0) (.var 1) (.var 2))]) (e := [.a A0, .n n1, .n n2]) rfl (by kernel_rfl) (Eq.mp (by kernel_rfl) h)


/-- slices.Clone[[]byte,byte]: what is left of it. -/
theorem cloneb_sx (R : Ending → World → Prop) (S : Nat → Prop) (w0 : World) (A0 : Option Addr) (n1 : Nat) (n2 : Nat) (h :
 (∃ b3 : Bool, (binOp .eql 45 (.slice A0 n1 n2) (.slice none 0 0)).run Try.prog w0 = .ok (.bool b3) w0 ∧
 ((b3 = true →
 (R (.returned (.slice none 0 0)) w0)) ∧
 (b3 = false →
 ∀ g4 : Nat, w0.heap.size ≤ g4 → (∀ w1 : World, Go.Sx.Fr S w0 w1 → Below w0.heap.size w0 w1 → w0.heap.size ≤ g4 → w1.heap[g4]? = some (.cells #[] 5 (0, 0)) → 
  ∃ w2 : World, ∃ A5 : Option Addr, ∃ n6 : Nat, ∃ n7 : Nat, (Builtin.append_ #[45, 45] 45 #[(.slice (some ⟨g4, 0, none⟩) 0 0), (.slice A0 n1 n2)]).run Try.prog w1 = .ok (.slice A5 n6 n7) w2 ∧ (Go.Sx.Fr S w0 w2 ∧ Go.Sx.Mild [g4] w1 w2) ∧ 
  (R (.returned (.slice A5 n6 n7)) w2)))))) :
    Calls Try.prog 51 #[(.slice A0 n1 n2)] w0 R :=
  Go.Sx.fn_sound0 (P := Try.prog) (S := S) (w0 := w0) (R := R) (ws := []) (an := []) (f := 51) (n := 3) (xs := [.one (.slice (.var 0) (.var 1) (.var 2))]) (e := [.a A0, .n n1, .n n2]) rfl (by kernel_rfl) (Eq.mp (by kernel_rfl) h)


/-- (*tracery/traceryref21.Net).Send: what is left of it. -/
theorem rnSend_sx (R : Ending → World → Prop) (S : Nat → Prop) (w0 : World) (v0 : Value) (A1 : Option Addr) (n2 : Nat) (n3 : Nat) (h :
 (∃ (I0 : Int → Int → World → Prop) (M0 : Int → Int → World → Nat), (I0 (0 : Int) (0 : Int) w0) ∧
 ∀ i4 : Int, ∀ i5 : Int, ∀ w1 : World, Go.Sx.Fr S w0 w1 → I0 i4 i5 w1 → 
  ((i5 < (n2 : Int) →
  ((0 : Int) ≤ i5 ∧ i5 < (n2 : Int) ∧ ∃ p6 : Nat, ∃ o7 : Nat, A1 = some ⟨p6, o7, none⟩ ∧
   (∃ i8 : Int, ∃ i9 : Int, ∃ i10 : Int, ∃ i11 : Int, ∃ i12 : Int, ∃ i13 : Int, ∃ A14 : Option Addr, ∃ n15 : Nat, ∃ n16 : Nat, Go.Sx.CellsAt w1 p6 (o7 + (i5).toNat * 7 + 0) [.int .i64 i8, .int .i64 i9, .int .i64 i10, .int .i64 i11, .int .i64 i12, .int .i64 i13, .slice A14 n15 n16] ∧ 
   (
   Calls Try.prog 72 #[(.agg #[.int .i64 i8, .int .i64 i9, .int .i64 i10, .int .i64 i11, .int .i64 i12, .int .i64 i13, .slice A14 n15 n16])] w1 fun r w2 => ∃ A17 : Option Addr, ∃ n18 : Nat, ∃ n19 : Nat, ∃ i20 : Int, r = .returned (.tuple #[.slice A17 n18 n19, .int .i64 i20]) ∧ (Go.Sx.Fr S w0 w2 ∧ Go.Sx.Mild [] w1 w2) ∧ 
   ((¬ i20 = (0 : Int) →
   (I0 i4 (IntKind.i64.wrap (i5 + (1 : Int))) w2 ∧ M0 i4 (IntKind.i64.wrap (i5 + (1 : Int))) w2 < M0 i4 i5 w1)) ∧
   (i20 = (0 : Int) →
   (∃ p21 : Nat, ∃ o22 : Nat, v0 = .pointer (some ⟨p21, o22, none⟩) ∧
    (∃ A23 : Option Addr, ∃ n24 : Nat, ∃ n25 : Nat, Go.Sx.CellsAt w2 p21 (o22 + ((0 : Int)).toNat * 0 + 0) [.slice A23 n24 n25] ∧ 
    (((4096 : Int) ≤ (n24 : Int) →
    (
     (∃ p27 : Nat, ∃ o28 : Nat, v0 = .pointer (some ⟨p27, o28, none⟩) ∧
     (∀ w3 : World, Go.Sx.Fr S w0 w3 → Below w2.heap.size w2 w3 → ∃ i29 : Int, Go.Sx.CellsAt w3 p27 (o28 + ((0 : Int)).toNat * 0 + 2) [.int .i64 i29] ∧ (p27 < w2.heap.size ∧ p27 ∉ []) ∧ 
     (∃ p30 : Nat, ∃ o31 : Nat, v0 = .pointer (some ⟨p30, o31, none⟩) ∧
     (
     ∃ w4 : World, (Instr.storeAt 3 (.pointer (some ⟨p30, o31 + ((0 : Int)).toNat * 0 + 2, none⟩)) (.int .i64 (IntKind.i64.wrap (i29 + (1 : Int))))).run Try.prog w3 = .ok () w4 ∧ (Go.Sx.Fr S w0 w4 ∧ Go.Sx.Mild [] w3 w4) ∧ 
     (I0 i4 (IntKind.i64.wrap (i5 + (1 : Int))) w4 ∧ M0 i4 (IntKind.i64.wrap (i5 + (1 : Int))) w4 < M0 i4 i5 w1))))))) ∧
    ((n24 : Int) < (4096 : Int) →
    ∀ g26 : Nat, w0.heap.size ≤ g26 → (∃ p27 : Nat, ∃ o28 : Nat, v0 = .pointer (some ⟨p27, o28, none⟩) ∧
     (∀ w3 : World, Go.Sx.Fr S w0 w3 → Below w2.heap.size w2 w3 → w2.heap.size ≤ g26 → w3.heap[g26]? = some (.cells #[] 45 (0, 0)) → ∃ A29 : Option Addr, ∃ n30 : Nat, ∃ n31 : Nat, Go.Sx.CellsAt w3 p27 (o28 + ((0 : Int)).toNat * 0 + 0) [.slice A29 n30 n31] ∧ 
     (w3.heap[g26]? = some (.cells #[] 45 (0, 0)) → 
     ∃ w4 : World, ∃ A32 : Option Addr, ∃ n33 : Nat, ∃ n34 : Nat, (Builtin.append_ #[62, 62] 62 #[(.slice (some ⟨g26, 0, none⟩) 0 0), (.slice A29 n30 n31)]).run Try.prog w3 = .ok (.slice A32 n33 n34) w4 ∧ (Go.Sx.Fr S w0 w4 ∧ Go.Sx.Mild [g26] w3 w4) ∧ 
     ∀ g35 : Nat, w0.heap.size ≤ g35 → (∀ w5 : World, Go.Sx.Fr S w0 w5 → Below w4.heap.size w4 w5 → w4.heap.size ≤ g35 → w5.heap[g35]? = some (.cells #[.slice A17 n18 n19] 45 (0, 0)) → 
     ∃ w6 : World, ∃ A36 : Option Addr, ∃ n37 : Nat, ∃ n38 : Nat, (Builtin.append_ #[62, 62] 62 #[(.slice A32 n33 n34), (.slice (some ⟨g35, 0, none⟩) 1 1)]).run Try.prog w5 = .ok (.slice A36 n37 n38) w6 ∧ (Go.Sx.Fr S w0 w6 ∧ Go.Sx.Mild [g35, g26] w5 w6) ∧ 
     (∃ p39 : Nat, ∃ o40 : Nat, v0 = .pointer (some ⟨p39, o40, none⟩) ∧
     (
     ∃ w7 : World, (Instr.storeAt 62 (.pointer (some ⟨p39, o40 + ((0 : Int)).toNat * 0 + 0, none⟩)) (.slice A36 n37 n38)).run Try.prog w6 = .ok () w7 ∧ (Go.Sx.Fr S w0 w7 ∧ Go.Sx.Mild [g35, g26] w6 w7) ∧ 
     (
     (∃ p42 : Nat, ∃ o43 : Nat, v0 = .pointer (some ⟨p42, o43, none⟩) ∧
     (∀ w8 : World, Go.Sx.Fr S w0 w8 → Below w7.heap.size w7 w8 → ∃ i44 : Int, Go.Sx.CellsAt w8 p42 (o43 + ((0 : Int)).toNat * 0 + 1) [.int .i64 i44] ∧ (p42 < w7.heap.size ∧ p42 ∉ []) ∧ 
     (∃ p45 : Nat, ∃ o46 : Nat, v0 = .pointer (some ⟨p45, o46, none⟩) ∧
     (
     ∃ w9 : World, (Instr.storeAt 3 (.pointer (some ⟨p45, o46 + ((0 : Int)).toNat * 0 + 1, none⟩)) (.int .i64 (IntKind.i64.wrap (i44 + (1 : Int))))).run Try.prog w8 = .ok () w9 ∧ (Go.Sx.Fr S w0 w9 ∧ Go.Sx.Mild [g35, g26] w8 w9) ∧ 
     (I0 (IntKind.i64.wrap (i4 + (1 : Int))) (IntKind.i64.wrap (i5 + (1 : Int))) w9 ∧ M0 (IntKind.i64.wrap (i4 + (1 : Int))) (IntKind.i64.wrap (i5 + (1 : Int))) w9 < M0 i4 i5 w1)))))))))))))))))))))) ∧
  ((n2 : Int) ≤ i5 →
  (R (.returned (.int .i64 i4)) w1))))) :
    Calls Try.prog 57 #[(v0), (.slice A1 n2 n3)] w0 R :=
  Go.Sx.fn_sound0 (P := Try.prog) (S := S) (w0 := w0) (R := R) (ws := []) (an := [⟨999999, [], [], 0⟩]) (f := 57) (n := 4) (xs := [.one (.val 0), .one (.slice (.var 1) (.var 2) (.var 3))]) (e := [.v v0, .a A1, .n n2, .n n3]) rfl (by kernel_rfl) (Eq.mp (by kernel_rfl) h)


/-- (*tracery/traceryref21.Net).At: what is left of it. -/
theorem rnAt_sx (R : Ending → World → Prop) (S : Nat → Prop) (w0 : World) (v0 : Value) (i1 : Int) (h :
 ∀ g2 : Nat, w0.heap.size ≤ g2 → ((i1 < (0 : Int) →
 (∀ w1 : World, Go.Sx.Fr S w0 w1 → Below w0.heap.size w0 w1 → w0.heap.size ≤ g2 → w1.heap[g2]? = some (.cells #[.int .i64 (0 : Int), .int .i64 (0 : Int), .int .i64 (0 : Int), .int .i64 (0 : Int), .int .i64 (0 : Int), .int .i64 (0 : Int), .slice none 0 0] 47 (0, 0)) → R (.returned (.tuple #[.agg #[.int .i64 (0 : Int), .int .i64 (0 : Int), .int .i64 (0 : Int), .int .i64 (0 : Int), .int .i64 (0 : Int), .int .i64 (0 : Int), .slice none 0 0], .int .i64 (1 : Int)])) w1)) ∧
 ((0 : Int) ≤ i1 →
 (∃ p3 : Nat, ∃ o4 : Nat, v0 = .pointer (some ⟨p3, o4, none⟩) ∧
  (∀ w1 : World, Go.Sx.Fr S w0 w1 → Below w0.heap.size w0 w1 → w0.heap.size ≤ g2 → w1.heap[g2]? = some (.cells #[.int .i64 (0 : Int), .int .i64 (0 : Int), .int .i64 (0 : Int), .int .i64 (0 : Int), .int .i64 (0 : Int), .int .i64 (0 : Int), .slice none 0 0] 47 (0, 0)) → ∃ A5 : Option Addr, ∃ n6 : Nat, ∃ n7 : Nat, Go.Sx.CellsAt w1 p3 (o4 + ((0 : Int)).toNat * 0 + 0) [.slice A5 n6 n7] ∧ 
  (((n6 : Int) ≤ i1 →
  (∀ w2 : World, Go.Sx.Fr S w0 w2 → Go.Sx.Fr (fun b => b ∈ [g2]) w1 w2 → R (.returned (.tuple #[.agg #[.int .i64 (0 : Int), .int .i64 (0 : Int), .int .i64 (0 : Int), .int .i64 (0 : Int), .int .i64 (0 : Int), .int .i64 (0 : Int), .slice none 0 0], .int .i64 (1 : Int)])) w2)) ∧
  (i1 < (n6 : Int) →
  (∃ p8 : Nat, ∃ o9 : Nat, v0 = .pointer (some ⟨p8, o9, none⟩) ∧
   (∃ A10 : Option Addr, ∃ n11 : Nat, ∃ n12 : Nat, Go.Sx.CellsAt w1 p8 (o9 + ((0 : Int)).toNat * 0 + 0) [.slice A10 n11 n12] ∧ 
   ((0 : Int) ≤ i1 ∧ i1 < (n11 : Int) ∧ ∃ p13 : Nat, ∃ o14 : Nat, A10 = some ⟨p13, o14, none⟩ ∧
   (∃ A15 : Option Addr, ∃ n16 : Nat, ∃ n17 : Nat, Go.Sx.CellsAt w1 p13 (o14 + (i1).toNat * 1 + 0) [.slice A15 n16 n17] ∧ 
   (
   Calls Try.prog 71 #[(.slice A15 n16 n17)] w1 fun r w2 => ∃ i18 : Int, ∃ i19 : Int, ∃ i20 : Int, ∃ i21 : Int, ∃ i22 : Int, ∃ i23 : Int, ∃ A24 : Option Addr, ∃ n25 : Nat, ∃ n26 : Nat, ∃ i27 : Int, r = .returned (.tuple #[.agg #[.int .i64 i18, .int .i64 i19, .int .i64 i20, .int .i64 i21, .int .i64 i22, .int .i64 i23, .slice A24 n25 n26], .int .i64 i27]) ∧ (Go.Sx.Fr S w0 w2 ∧ Go.Sx.Mild [g2] w1 w2) ∧ 
   (∀ w3 : World, Go.Sx.Fr S w0 w3 → Go.Sx.Fr (fun b => b ∈ [g2]) w2 w3 → R (.returned (.tuple #[.agg #[.int .i64 i18, .int .i64 i19, .int .i64 i20, .int .i64 i21, .int .i64 i22, .int .i64 i23, .slice A24 n25 n26], .int .i64 i27])) w3))))))))))))) :
    Calls Try.prog 56 #[(v0), (.int .i64 i1)] w0 R :=
  Go.Sx.fn_sound0 (P := Try.prog) (S := S) (w0 := w0) (R := R) (ws := []) (an := [⟨999999, [], [], 0⟩]) (f := 56) (n := 2) (xs := [.one (.val 0), .one (.int .i64 (.var 1))]) (e := [.v v0, .i i1]) rfl (by kernel_rfl) (Eq.mp (by kernel_rfl) h)


/-- (*tracery/traceryref21.Net).gone: what is left of it. -/
theorem rnGone_sx (R : Ending → World → Prop) (S : Nat → Prop) (w0 : World) (v0 : Value) (i1 : Int) (h :
 (∃ T2 : List Nat, (∀ b ∈ T2, b < w0.heap.size ∧ b ∉ []) ∧
 (∃ p3 : Nat, ∃ o4 : Nat, v0 = .pointer (some ⟨p3, o4, none⟩) ∧
 (∀ w1 : World, Go.Sx.Fr S w0 w1 → Below w0.heap.size w0 w1 → ∃ A5 : Option Addr, ∃ n6 : Nat, ∃ n7 : Nat, Go.Sx.CellsAt w1 p3 (o4 + ((0 : Int)).toNat * 0 + 0) [.slice A5 n6 n7] ∧ (p3 < w0.heap.size ∧ p3 ∉ (T2 ++ [])) ∧ 
 (∃ A8 : Option Addr, ∃ n9 : Nat, ∃ n10 : Nat, (∀ w', Go.Sx.Keep w0.heap.size (T2 ++ []) w1 w' → (Instr.sliceAt 62 (.slice A5 n6 n7) none (some (.int .i64 i1)) none).run Try.prog w' = .ok (.slice A8 n9 n10) w') ∧
 (∃ p11 : Nat, ∃ o12 : Nat, v0 = .pointer (some ⟨p11, o12, none⟩) ∧
 (∃ A13 : Option Addr, ∃ n14 : Nat, ∃ n15 : Nat, Go.Sx.CellsAt w1 p11 (o12 + ((0 : Int)).toNat * 0 + 0) [.slice A13 n14 n15] ∧ (p11 < w0.heap.size ∧ p11 ∉ (T2 ++ [])) ∧ 
 (∃ A16 : Option Addr, ∃ n17 : Nat, ∃ n18 : Nat, (∀ w', Go.Sx.Keep w0.heap.size (T2 ++ []) w1 w' → (Instr.sliceAt 62 (.slice A13 n14 n15) (some (.int .i64 (IntKind.i64.wrap (i1 + (1 : Int))))) none none).run Try.prog w' = .ok (.slice A16 n17 n18) w') ∧
 ∀ g19 : Nat, w0.heap.size ≤ g19 → (∀ w2 : World, Go.Sx.Fr S w0 w2 → Below w1.heap.size w1 w2 → w1.heap.size ≤ g19 → w2.heap[g19]? = some (.cells #[] 45 (0, 0)) → 
 ∃ w3 : World, ∃ A20 : Option Addr, ∃ n21 : Nat, ∃ n22 : Nat, (Builtin.append_ #[62, 62] 62 #[(.slice (some ⟨g19, 0, none⟩) 0 0), (.slice A8 n9 n10)]).run Try.prog w2 = .ok (.slice A20 n21 n22) w3 ∧ (Go.Sx.Fr S w0 w3 ∧ Go.Sx.Mild [g19] w2 w3) ∧ Go.Sx.Keep w0.heap.size (T2 ++ []) w2 w3 ∧ 
 (
 ∃ w4 : World, ∃ A23 : Option Addr, ∃ n24 : Nat, ∃ n25 : Nat, (Builtin.append_ #[62, 62] 62 #[(.slice A20 n21 n22), (.slice A16 n17 n18)]).run Try.prog w3 = .ok (.slice A23 n24 n25) w4 ∧ (Go.Sx.Fr S w0 w4 ∧ Go.Sx.Mild [g19] w3 w4) ∧ 
 (∃ p26 : Nat, ∃ o27 : Nat, v0 = .pointer (some ⟨p26, o27, none⟩) ∧
 (
 ∃ w5 : World, (Instr.storeAt 62 (.pointer (some ⟨p26, o27 + ((0 : Int)).toNat * 0 + 0, none⟩)) (.slice A23 n24 n25)).run Try.prog w4 = .ok () w5 ∧ (Go.Sx.Fr S w0 w5 ∧ Go.Sx.Mild [g19] w4 w5) ∧ 
 (R (.returned (.tuple #[])) w5))))))))))))) :
    Calls Try.prog 70 #[(v0), (.int .i64 i1)] w0 R :=
  Go.Sx.fn_sound0 (P := Try.prog) (S := S) (w0 := w0) (R := R) (ws := []) (an := [⟨999998, [], [], 0⟩, ⟨999999, [], [], 0⟩]) (f := 70) (n := 2) (xs := [.one (.val 0), .one (.int .i64 (.var 1))]) (e := [.v v0, .i i1]) rfl (by kernel_rfl) (Eq.mp (by kernel_rfl) h)


/-- (*tracery/traceryref21.Net).Deliver: what is left of it. -/
theorem rnDeliver_sx (R : Ending → World → Prop) (S : Nat → Prop) (w0 : World) (v0 : Value) (i1 : Int) (h :
 ∀ g2 : Nat, w0.heap.size ≤ g2 → (∀ w1 : World, Go.Sx.Fr S w0 w1 → Below w0.heap.size w0 w1 → w0.heap.size ≤ g2 → w1.heap[g2]? = some (.cells #[.int .i64 (0 : Int), .int .i64 (0 : Int), .int .i64 (0 : Int), .int .i64 (0 : Int), .int .i64 (0 : Int), .int .i64 (0 : Int), .slice none 0 0] 47 (0, 0)) → 
 Calls Try.prog 56 #[(v0), (.int .i64 i1)] w1 fun r w2 => ∃ i3 : Int, ∃ i4 : Int, ∃ i5 : Int, ∃ i6 : Int, ∃ i7 : Int, ∃ i8 : Int, ∃ A9 : Option Addr, ∃ n10 : Nat, ∃ n11 : Nat, ∃ i12 : Int, r = .returned (.tuple #[.agg #[.int .i64 i3, .int .i64 i4, .int .i64 i5, .int .i64 i6, .int .i64 i7, .int .i64 i8, .slice A9 n10 n11], .int .i64 i12]) ∧ (Go.Sx.Fr S w0 w2 ∧ Go.Sx.Mild [g2] w1 w2) ∧ 
 ∀ g13 : Nat, w0.heap.size ≤ g13 → ((i12 = (1 : Int) →
 (∀ w3 : World, Go.Sx.Fr S w0 w3 → Go.Sx.Fr (fun b => b ∈ [g2]) w2 w3 → w2.heap.size ≤ g13 → w3.heap[g13]? = some (.cells #[.int .i64 i3, .int .i64 i4, .int .i64 i5, .int .i64 i6, .int .i64 i7, .int .i64 i8, .slice A9 n10 n11] 47 (0, 0)) → R (.returned (.tuple #[.agg #[.int .i64 i3, .int .i64 i4, .int .i64 i5, .int .i64 i6, .int .i64 i7, .int .i64 i8, .slice A9 n10 n11], .int .i64 i12])) w3)) ∧
 (¬ i12 = (1 : Int) →
 (∀ w3 : World, Go.Sx.Fr S w0 w3 → Below w2.heap.size w2 w3 → w2.heap.size ≤ g13 → w3.heap[g13]? = some (.cells #[.int .i64 i3, .int .i64 i4, .int .i64 i5, .int .i64 i6, .int .i64 i7, .int .i64 i8, .slice A9 n10 n11] 47 (0, 0)) → 
  Calls Try.prog 70 #[(v0), (.int .i64 i1)] w3 fun r w4 => r = .returned (.tuple #[]) ∧ (Go.Sx.Fr S w0 w4 ∧ Go.Sx.Mild [g13, g2] w3 w4) ∧ 
  ((i12 = (0 : Int) →
  (
   (∃ p15 : Nat, ∃ o16 : Nat, v0 = .pointer (some ⟨p15, o16, none⟩) ∧
   (∀ w5 : World, Go.Sx.Fr S w0 w5 → Below w4.heap.size w4 w5 → ∃ i17 : Int, Go.Sx.CellsAt w5 p15 (o16 + ((0 : Int)).toNat * 0 + 3) [.int .i64 i17] ∧ (p15 < w4.heap.size ∧ p15 ∉ []) ∧ 
   (∃ p18 : Nat, ∃ o19 : Nat, v0 = .pointer (some ⟨p18, o19, none⟩) ∧
   (
   ∃ w6 : World, (Instr.storeAt 3 (.pointer (some ⟨p18, o19 + ((0 : Int)).toNat * 0 + 3, none⟩)) (.int .i64 (IntKind.i64.wrap (i17 + (1 : Int))))).run Try.prog w5 = .ok () w6 ∧ (Go.Sx.Fr S w0 w6 ∧ Go.Sx.Mild [g13, g2] w5 w6) ∧ 
   (∀ w7 : World, Go.Sx.Fr S w0 w7 → Go.Sx.Fr (fun b => b ∈ [g2]) w6 w7 → R (.returned (.tuple #[.agg #[.int .i64 i3, .int .i64 i4, .int .i64 i5, .int .i64 i6, .int .i64 i7, .int .i64 i8, .slice A9 n10 n11], .int .i64 i12])) w7))))))) ∧
  (¬ i12 = (0 : Int) →
  (
   (∃ p15 : Nat, ∃ o16 : Nat, v0 = .pointer (some ⟨p15, o16, none⟩) ∧
   (∀ w5 : World, Go.Sx.Fr S w0 w5 → Below w4.heap.size w4 w5 → ∃ i17 : Int, Go.Sx.CellsAt w5 p15 (o16 + ((0 : Int)).toNat * 0 + 4) [.int .i64 i17] ∧ (p15 < w4.heap.size ∧ p15 ∉ []) ∧ 
   (∃ p18 : Nat, ∃ o19 : Nat, v0 = .pointer (some ⟨p18, o19, none⟩) ∧
   (
   ∃ w6 : World, (Instr.storeAt 3 (.pointer (some ⟨p18, o19 + ((0 : Int)).toNat * 0 + 4, none⟩)) (.int .i64 (IntKind.i64.wrap (i17 + (1 : Int))))).run Try.prog w5 = .ok () w6 ∧ (Go.Sx.Fr S w0 w6 ∧ Go.Sx.Mild [g13, g2] w5 w6) ∧ 
   (∀ w7 : World, Go.Sx.Fr S w0 w7 → Go.Sx.Fr (fun b => b ∈ [g2]) w6 w7 → R (.returned (.tuple #[.agg #[.int .i64 i3, .int .i64 i4, .int .i64 i5, .int .i64 i6, .int .i64 i7, .int .i64 i8, .slice A9 n10 n11], .int .i64 i12])) w7))))))))))))) :
    Calls Try.prog 52 #[(v0), (.int .i64 i1)] w0 R :=
  Go.Sx.fn_sound0 (P := Try.prog) (S := S) (w0 := w0) (R := R) (ws := []) (an := [⟨999999, [], [], 0⟩]) (f := 52) (n := 2) (xs := [.one (.val 0), .one (.int .i64 (.var 1))]) (e := [.v v0, .i i1]) rfl (by kernel_rfl) (Eq.mp (by kernel_rfl) h)


/-- (*tracery/traceryref21.Net).Drop: what is left of it. -/
theorem rnDrop_sx (R : Ending → World → Prop) (S : Nat → Prop) (w0 : World) (v0 : Value) (i1 : Int) (h :
 ((i1 < (0 : Int) →
 (R (.returned (.int .i64 (1 : Int))) w0)) ∧
 ((0 : Int) ≤ i1 →
 (∃ p2 : Nat, ∃ o3 : Nat, v0 = .pointer (some ⟨p2, o3, none⟩) ∧
  (∃ A4 : Option Addr, ∃ n5 : Nat, ∃ n6 : Nat, Go.Sx.CellsAt w0 p2 (o3 + ((0 : Int)).toNat * 0 + 0) [.slice A4 n5 n6] ∧ 
  (((n5 : Int) ≤ i1 →
  (R (.returned (.int .i64 (1 : Int))) w0)) ∧
  (i1 < (n5 : Int) →
  (
   Calls Try.prog 70 #[(v0), (.int .i64 i1)] w0 fun r w1 => r = .returned (.tuple #[]) ∧ (Go.Sx.Fr S w0 w1 ∧ Go.Sx.Mild [] w0 w1) ∧ 
   (
   (∃ p8 : Nat, ∃ o9 : Nat, v0 = .pointer (some ⟨p8, o9, none⟩) ∧
   (∀ w2 : World, Go.Sx.Fr S w0 w2 → Below w1.heap.size w1 w2 → ∃ i10 : Int, Go.Sx.CellsAt w2 p8 (o9 + ((0 : Int)).toNat * 0 + 5) [.int .i64 i10] ∧ (p8 < w1.heap.size ∧ p8 ∉ []) ∧ 
   (∃ p11 : Nat, ∃ o12 : Nat, v0 = .pointer (some ⟨p11, o12, none⟩) ∧
   (
   ∃ w3 : World, (Instr.storeAt 3 (.pointer (some ⟨p11, o12 + ((0 : Int)).toNat * 0 + 5, none⟩)) (.int .i64 (IntKind.i64.wrap (i10 + (1 : Int))))).run Try.prog w2 = .ok () w3 ∧ (Go.Sx.Fr S w0 w3 ∧ Go.Sx.Mild [] w2 w3) ∧ 
   (R (.returned (.int .i64 (0 : Int))) w3)))))))))))))) :
    Calls Try.prog 53 #[(v0), (.int .i64 i1)] w0 R :=
  Go.Sx.fn_sound0 (P := Try.prog) (S := S) (w0 := w0) (R := R) (ws := []) (an := []) (f := 53) (n := 2) (xs := [.one (.val 0), .one (.int .i64 (.var 1))]) (e := [.v v0, .i i1]) rfl (by kernel_rfl) (Eq.mp (by kernel_rfl) h)


/-- (*tracery/traceryref21.Net).Double: what is left of it. -/
theorem rnDouble_sx (R : Ending → World → Prop) (S : Nat → Prop) (w0 : World) (v0 : Value) (i1 : Int) (h :
 ((i1 < (0 : Int) →
 (R (.returned (.int .i64 (1 : Int))) w0)) ∧
 ((0 : Int) ≤ i1 →
 (∃ p2 : Nat, ∃ o3 : Nat, v0 = .pointer (some ⟨p2, o3, none⟩) ∧
  (∃ A4 : Option Addr, ∃ n5 : Nat, ∃ n6 : Nat, Go.Sx.CellsAt w0 p2 (o3 + ((0 : Int)).toNat * 0 + 0) [.slice A4 n5 n6] ∧ 
  (((n5 : Int) ≤ i1 →
  (R (.returned (.int .i64 (1 : Int))) w0)) ∧
  (i1 < (n5 : Int) →
  (∃ p7 : Nat, ∃ o8 : Nat, v0 = .pointer (some ⟨p7, o8, none⟩) ∧
   (∃ A9 : Option Addr, ∃ n10 : Nat, ∃ n11 : Nat, Go.Sx.CellsAt w0 p7 (o8 + ((0 : Int)).toNat * 0 + 0) [.slice A9 n10 n11] ∧ 
   (((4096 : Int) ≤ (n10 : Int) →
   (R (.returned (.int .i64 (20 : Int))) w0)) ∧
   ((n10 : Int) < (4096 : Int) →
   (∃ T12 : List Nat, (∀ b ∈ T12, b < w0.heap.size ∧ b ∉ []) ∧
    (∃ p13 : Nat, ∃ o14 : Nat, v0 = .pointer (some ⟨p13, o14, none⟩) ∧
    (∀ w1 : World, Go.Sx.Fr S w0 w1 → Below w0.heap.size w0 w1 → ∃ A15 : Option Addr, ∃ n16 : Nat, ∃ n17 : Nat, Go.Sx.CellsAt w1 p13 (o14 + ((0 : Int)).toNat * 0 + 0) [.slice A15 n16 n17] ∧ (p13 < w0.heap.size ∧ p13 ∉ (T12 ++ [])) ∧ 
    (∃ p18 : Nat, ∃ o19 : Nat, v0 = .pointer (some ⟨p18, o19, none⟩) ∧
    (∃ A20 : Option Addr, ∃ n21 : Nat, ∃ n22 : Nat, Go.Sx.CellsAt w1 p18 (o19 + ((0 : Int)).toNat * 0 + 0) [.slice A20 n21 n22] ∧ (p18 < w0.heap.size ∧ p18 ∉ (T12 ++ [])) ∧ 
    ((0 : Int) ≤ i1 ∧ i1 < (n21 : Int) ∧ ∃ p23 : Nat, ∃ o24 : Nat, A20 = some ⟨p23, o24, none⟩ ∧
    (∃ A25 : Option Addr, ∃ n26 : Nat, ∃ n27 : Nat, Go.Sx.CellsAt w1 p23 (o24 + (i1).toNat * 1 + 0) [.slice A25 n26 n27] ∧ (p23 < w0.heap.size ∧ p23 ∉ (T12 ++ [])) ∧ 
    ((∀ g28 : Nat, w0.heap.size ≤ g28 → (((∀ w2 : World, Go.Sx.Fr S w0 w2 → Below w1.heap.size w1 w2 → w1.heap.size ≤ g28 → w2.heap[g28]? = some (.cells #[] 45 (0, 0)) → 
    ∃ w3 : World, ∃ A29 : Option Addr, ∃ n30 : Nat, ∃ n31 : Nat, (Builtin.append_ #[62, 62] 62 #[(.slice (some ⟨g28, 0, none⟩) 0 0), (.slice A15 n16 n17)]).run Try.prog w2 = .ok (.slice A29 n30 n31) w3 ∧ (Go.Sx.Fr S w0 w3 ∧ Go.Sx.Mild [g28] w2 w3) ∧ Go.Sx.Keep w0.heap.size (T12 ++ []) w2 w3 ∧ 
    ∀ g32 : Nat, w0.heap.size ≤ g32 → (∀ w4 : World, Go.Sx.Fr S w0 w4 → Below w3.heap.size w3 w4 → w3.heap.size ≤ g32 → w4.heap[g32]? = some (.cells #[.slice A25 n26 n27] 45 (0, 0)) → 
    ∃ w5 : World, ∃ A33 : Option Addr, ∃ n34 : Nat, ∃ n35 : Nat, (Builtin.append_ #[62, 62] 62 #[(.slice A29 n30 n31), (.slice (some ⟨g32, 0, none⟩) 1 1)]).run Try.prog w4 = .ok (.slice A33 n34 n35) w5 ∧ (Go.Sx.Fr S w0 w5 ∧ Go.Sx.Mild [g32, g28] w4 w5) ∧ 
    (∃ p36 : Nat, ∃ o37 : Nat, v0 = .pointer (some ⟨p36, o37, none⟩) ∧
    (
    ∃ w6 : World, (Instr.storeAt 62 (.pointer (some ⟨p36, o37 + ((0 : Int)).toNat * 0 + 0, none⟩)) (.slice A33 n34 n35)).run Try.prog w5 = .ok () w6 ∧ (Go.Sx.Fr S w0 w6 ∧ Go.Sx.Mild [g32, g28] w5 w6) ∧ 
    (∃ T38 : List Nat, (∀ b ∈ T38, b < w6.heap.size ∧ b ∉ [g32, g28]) ∧
    (∃ p39 : Nat, ∃ o40 : Nat, v0 = .pointer (some ⟨p39, o40, none⟩) ∧
    (∀ w7 : World, Go.Sx.Fr S w0 w7 → Below w6.heap.size w6 w7 → ∃ i41 : Int, Go.Sx.CellsAt w7 p39 (o40 + ((0 : Int)).toNat * 0 + 6) [.int .i64 i41] ∧ (p39 < w6.heap.size ∧ p39 ∉ (T38 ++ [])) ∧ 
    (∃ p42 : Nat, ∃ o43 : Nat, v0 = .pointer (some ⟨p42, o43, none⟩) ∧
    (
    ∃ w8 : World, (Instr.storeAt 3 (.pointer (some ⟨p42, o43 + ((0 : Int)).toNat * 0 + 6, none⟩)) (.int .i64 (IntKind.i64.wrap (i41 + (1 : Int))))).run Try.prog w7 = .ok () w8 ∧ (Go.Sx.Fr S w0 w8 ∧ Go.Sx.Mild [g32, g28] w7 w8) ∧ 
    (R (.returned (.int .i64 (0 : Int))) w8))))))))))) ∧
    (∀ g29 : Nat, w0.heap.size ≤ g29 → (∀ w2 : World, Go.Sx.Fr S w0 w2 → Below w1.heap.size w1 w2 → w1.heap.size ≤ g29 → w2.heap[g29]? = some (.cells #[.slice A25 n26 n27] 45 (0, 0)) → w1.heap.size ≤ g28 → w2.heap[g28]? = some (.cells #[] 45 (0, 0)) → 
    ∃ w3 : World, ∃ A30 : Option Addr, ∃ n31 : Nat, ∃ n32 : Nat, (Builtin.append_ #[62, 62] 62 #[(.slice (some ⟨g28, 0, none⟩) 0 0), (.slice A15 n16 n17)]).run Try.prog w2 = .ok (.slice A30 n31 n32) w3 ∧ (Go.Sx.Fr S w0 w3 ∧ Go.Sx.Mild [g29, g28] w2 w3) ∧ Go.Sx.Keep w0.heap.size (T12 ++ []) w2 w3 ∧ 
    (w3.heap[g29]? = some (.cells #[.slice A25 n26 n27] 45 (0, 0)) → 
    ∃ w4 : World, ∃ A33 : Option Addr, ∃ n34 : Nat, ∃ n35 : Nat, (Builtin.append_ #[62, 62] 62 #[(.slice A30 n31 n32), (.slice (some ⟨g29, 0, none⟩) 1 1)]).run Try.prog w3 = .ok (.slice A33 n34 n35) w4 ∧ (Go.Sx.Fr S w0 w4 ∧ Go.Sx.Mild [g29, g28] w3 w4) ∧ 
    (∃ p36 : Nat, ∃ o37 : Nat, v0 = .pointer (some ⟨p36, o37, none⟩) ∧
    (
    ∃ w5 : World, (Instr.storeAt 62 (.pointer (some ⟨p36, o37 + ((0 : Int)).toNat * 0 + 0, none⟩)) (.slice A33 n34 n35)).run Try.prog w4 = .ok () w5 ∧ (Go.Sx.Fr S w0 w5 ∧ Go.Sx.Mild [g29, g28] w4 w5) ∧ 
    (∃ T38 : List Nat, (∀ b ∈ T38, b < w5.heap.size ∧ b ∉ [g29, g28]) ∧
    (∃ p39 : Nat, ∃ o40 : Nat, v0 = .pointer (some ⟨p39, o40, none⟩) ∧
    (∀ w6 : World, Go.Sx.Fr S w0 w6 → Below w5.heap.size w5 w6 → ∃ i41 : Int, Go.Sx.CellsAt w6 p39 (o40 + ((0 : Int)).toNat * 0 + 6) [.int .i64 i41] ∧ (p39 < w5.heap.size ∧ p39 ∉ (T38 ++ [])) ∧ 
    (∃ p42 : Nat, ∃ o43 : Nat, v0 = .pointer (some ⟨p42, o43, none⟩) ∧
    (
    ∃ w7 : World, (Instr.storeAt 3 (.pointer (some ⟨p42, o43 + ((0 : Int)).toNat * 0 + 6, none⟩)) (.int .i64 (IntKind.i64.wrap (i41 + (1 : Int))))).run Try.prog w6 = .ok () w7 ∧ (Go.Sx.Fr S w0 w7 ∧ Go.Sx.Mild [g29, g28] w6 w7) ∧ 
    (R (.returned (.int .i64 (0 : Int))) w7))))))))))))) ∧
    (∀ g28 : Nat, w0.heap.size ≤ g28 → ∀ g29 : Nat, w0.heap.size ≤ g29 → (∀ w2 : World, Go.Sx.Fr S w0 w2 → Below w1.heap.size w1 w2 → w1.heap.size ≤ g29 → w2.heap[g29]? = some (.cells #[] 45 (0, 0)) → w1.heap.size ≤ g28 → w2.heap[g28]? = some (.cells #[.slice A25 n26 n27] 45 (0, 0)) → 
    ∃ w3 : World, ∃ A30 : Option Addr, ∃ n31 : Nat, ∃ n32 : Nat, (Builtin.append_ #[62, 62] 62 #[(.slice (some ⟨g29, 0, none⟩) 0 0), (.slice A15 n16 n17)]).run Try.prog w2 = .ok (.slice A30 n31 n32) w3 ∧ (Go.Sx.Fr S w0 w3 ∧ Go.Sx.Mild [g29, g28] w2 w3) ∧ Go.Sx.Keep w0.heap.size (T12 ++ []) w2 w3 ∧ 
    (w3.heap[g28]? = some (.cells #[.slice A25 n26 n27] 45 (0, 0)) → 
    ∃ w4 : World, ∃ A33 : Option Addr, ∃ n34 : Nat, ∃ n35 : Nat, (Builtin.append_ #[62, 62] 62 #[(.slice A30 n31 n32), (.slice (some ⟨g28, 0, none⟩) 1 1)]).run Try.prog w3 = .ok (.slice A33 n34 n35) w4 ∧ (Go.Sx.Fr S w0 w4 ∧ Go.Sx.Mild [g29, g28] w3 w4) ∧ 
    (∃ p36 : Nat, ∃ o37 : Nat, v0 = .pointer (some ⟨p36, o37, none⟩) ∧
    (
    ∃ w5 : World, (Instr.storeAt 62 (.pointer (some ⟨p36, o37 + ((0 : Int)).toNat * 0 + 0, none⟩)) (.slice A33 n34 n35)).run Try.prog w4 = .ok () w5 ∧ (Go.Sx.Fr S w0 w5 ∧ Go.Sx.Mild [g29, g28] w4 w5) ∧ 
    (∃ T38 : List Nat, (∀ b ∈ T38, b < w5.heap.size ∧ b ∉ [g29, g28]) ∧
    (∃ p39 : Nat, ∃ o40 : Nat, v0 = .pointer (some ⟨p39, o40, none⟩) ∧
    (∀ w6 : World, Go.Sx.Fr S w0 w6 → Below w5.heap.size w5 w6 → ∃ i41 : Int, Go.Sx.CellsAt w6 p39 (o40 + ((0 : Int)).toNat * 0 + 6) [.int .i64 i41] ∧ (p39 < w5.heap.size ∧ p39 ∉ (T38 ++ [])) ∧ 
    (∃ p42 : Nat, ∃ o43 : Nat, v0 = .pointer (some ⟨p42, o43, none⟩) ∧
    (
    ∃ w7 : World, (Instr.storeAt 3 (.pointer (some ⟨p42, o43 + ((0 : Int)).toNat * 0 + 6, none⟩)) (.int .i64 (IntKind.i64.wrap (i41 + (1 : Int))))).run Try.prog w6 = .ok () w7 ∧ (Go.Sx.Fr S w0 w7 ∧ Go.Sx.Mild [g29, g28] w6 w7) ∧ 
    (R (.returned (.int .i64 (0 : Int))) w7)))))))))))))))))))))))))))))) :
    Calls Try.prog 54 #[(v0), (.int .i64 i1)] w0 R :=
  Go.Sx.fn_sound0 (P := Try.prog) (S := S) (w0 := w0) (R := R) (ws := []) (an := [⟨999998, [], [], 0⟩, ⟨999999, [], [], 0⟩]) (f := 54) (n := 2) (xs := [.one (.val 0), .one (.int .i64 (.var 1))]) (e := [.v v0, .i i1]) rfl (by kernel_rfl) (Eq.mp (by kernel_rfl) h)


/-- (*tracery/traceryref21.Net).Turn: what is left of it. -/
theorem rnTurn_sx (R : Ending → World → Prop) (S : Nat → Prop) (w0 : World) (v0 : Value) (i1 : Int) (i2 : Int) (h :
 ((i1 < (0 : Int) →
 (R (.returned (.int .i64 (1 : Int))) w0)) ∧
 ((0 : Int) ≤ i1 →
 (∃ p3 : Nat, ∃ o4 : Nat, v0 = .pointer (some ⟨p3, o4, none⟩) ∧
  (∃ A5 : Option Addr, ∃ n6 : Nat, ∃ n7 : Nat, Go.Sx.CellsAt w0 p3 (o4 + ((0 : Int)).toNat * 0 + 0) [.slice A5 n6 n7] ∧ 
  (((n6 : Int) ≤ i1 →
  (R (.returned (.int .i64 (1 : Int))) w0)) ∧
  (i1 < (n6 : Int) →
  ((i2 < (0 : Int) →
   (R (.returned (.int .i64 (1 : Int))) w0)) ∧
   ((0 : Int) ≤ i2 →
   (∃ p8 : Nat, ∃ o9 : Nat, v0 = .pointer (some ⟨p8, o9, none⟩) ∧
    (∃ A10 : Option Addr, ∃ n11 : Nat, ∃ n12 : Nat, Go.Sx.CellsAt w0 p8 (o9 + ((0 : Int)).toNat * 0 + 0) [.slice A10 n11 n12] ∧ 
    ((0 : Int) ≤ i1 ∧ i1 < (n11 : Int) ∧ ∃ p13 : Nat, ∃ o14 : Nat, A10 = some ⟨p13, o14, none⟩ ∧
    (∃ A15 : Option Addr, ∃ n16 : Nat, ∃ n17 : Nat, Go.Sx.CellsAt w0 p13 (o14 + (i1).toNat * 1 + 0) [.slice A15 n16 n17] ∧ 
    (((n16 : Int) ≤ i2 →
    (R (.returned (.int .i64 (1 : Int))) w0)) ∧
    (i2 < (n16 : Int) →
    ∀ g18 : Nat, w0.heap.size ≤ g18 → (∃ p19 : Nat, ∃ o20 : Nat, v0 = .pointer (some ⟨p19, o20, none⟩) ∧
     (∀ w1 : World, Go.Sx.Fr S w0 w1 → Below w0.heap.size w0 w1 → w0.heap.size ≤ g18 → w1.heap[g18]? = some (.cells #[] 5 (0, 0)) → ∃ A21 : Option Addr, ∃ n22 : Nat, ∃ n23 : Nat, Go.Sx.CellsAt w1 p19 (o20 + ((0 : Int)).toNat * 0 + 0) [.slice A21 n22 n23] ∧ 
     ((0 : Int) ≤ i1 ∧ i1 < (n22 : Int) ∧ ∃ p24 : Nat, ∃ o25 : Nat, A21 = some ⟨p24, o25, none⟩ ∧
     (∃ A26 : Option Addr, ∃ n27 : Nat, ∃ n28 : Nat, Go.Sx.CellsAt w1 p24 (o25 + (i1).toNat * 1 + 0) [.slice A26 n27 n28] ∧ 
     (w1.heap[g18]? = some (.cells #[] 5 (0, 0)) → 
     ∃ w2 : World, ∃ A29 : Option Addr, ∃ n30 : Nat, ∃ n31 : Nat, (Builtin.append_ #[45, 45] 45 #[(.slice (some ⟨g18, 0, none⟩) 0 0), (.slice A26 n27 n28)]).run Try.prog w1 = .ok (.slice A29 n30 n31) w2 ∧ (Go.Sx.Fr S w0 w2 ∧ Go.Sx.Mild [g18] w1 w2) ∧ 
     ((0 : Int) ≤ i2 ∧ i2 < (n30 : Int) ∧ ∃ p32 : Nat, ∃ o33 : Nat, A29 = some ⟨p32, o33, none⟩ ∧
     (∃ i34 : Int, Go.Sx.CellsAt w2 p32 (o33 + (i2).toNat * 1 + 0) [.int .u8 i34] ∧ 
     ((0 : Int) ≤ i2 ∧ i2 < (n30 : Int) ∧ ∃ p35 : Nat, ∃ o36 : Nat, A29 = some ⟨p35, o36, none⟩ ∧
     (
     ∃ w3 : World, (Instr.storeAt 5 (.pointer (some ⟨p35, o36 + (i2).toNat * 1 + 0, none⟩)) (.int .u8 (bits .xor .u8 i34 (1 : Int)))).run Try.prog w2 = .ok () w3 ∧ (Go.Sx.Fr S w0 w3 ∧ Go.Sx.Mild [g18] w2 w3) ∧ 
     ∀ g37 : Nat, w0.heap.size ≤ g37 → (∃ p38 : Nat, ∃ o39 : Nat, v0 = .pointer (some ⟨p38, o39, none⟩) ∧
     (∀ w4 : World, Go.Sx.Fr S w0 w4 → Below w3.heap.size w3 w4 → w3.heap.size ≤ g37 → w4.heap[g37]? = some (.cells #[] 45 (0, 0)) → ∃ A40 : Option Addr, ∃ n41 : Nat, ∃ n42 : Nat, Go.Sx.CellsAt w4 p38 (o39 + ((0 : Int)).toNat * 0 + 0) [.slice A40 n41 n42] ∧ 
     (w4.heap[g37]? = some (.cells #[] 45 (0, 0)) → 
     ∃ w5 : World, ∃ A43 : Option Addr, ∃ n44 : Nat, ∃ n45 : Nat, (Builtin.append_ #[62, 62] 62 #[(.slice (some ⟨g37, 0, none⟩) 0 0), (.slice A40 n41 n42)]).run Try.prog w4 = .ok (.slice A43 n44 n45) w5 ∧ (Go.Sx.Fr S w0 w5 ∧ Go.Sx.Mild [g37, g18] w4 w5) ∧ 
     (∃ p46 : Nat, ∃ o47 : Nat, v0 = .pointer (some ⟨p46, o47, none⟩) ∧
     (
     ∃ w6 : World, (Instr.storeAt 62 (.pointer (some ⟨p46, o47 + ((0 : Int)).toNat * 0 + 0, none⟩)) (.slice A43 n44 n45)).run Try.prog w5 = .ok () w6 ∧ (Go.Sx.Fr S w0 w6 ∧ Go.Sx.Mild [g37, g18] w5 w6) ∧ 
     (∃ p48 : Nat, ∃ o49 : Nat, v0 = .pointer (some ⟨p48, o49, none⟩) ∧
     (∃ A50 : Option Addr, ∃ n51 : Nat, ∃ n52 : Nat, Go.Sx.CellsAt w6 p48 (o49 + ((0 : Int)).toNat * 0 + 0) [.slice A50 n51 n52] ∧ 
     ((0 : Int) ≤ i1 ∧ i1 < (n51 : Int) ∧ ∃ p53 : Nat, ∃ o54 : Nat, A50 = some ⟨p53, o54, none⟩ ∧
     (
     ∃ w7 : World, (Instr.storeAt 45 (.pointer (some ⟨p53, o54 + (i1).toNat * 1 + 0, none⟩)) (.slice A29 n30 n31)).run Try.prog w6 = .ok () w7 ∧ (Go.Sx.Fr S w0 w7 ∧ Go.Sx.Mild [g37, g18] w6 w7) ∧ 
     (R (.returned (.int .i64 (0 : Int))) w7)))))))))))))))))))))))))))))))))) :
    Calls Try.prog 55 #[(v0), (.int .i64 i1), (.int .i64 i2)] w0 R :=
  Go.Sx.fn_sound0 (P := Try.prog) (S := S) (w0 := w0) (R := R) (ws := []) (an := [⟨999998, [], [], 0⟩, ⟨999999, [], [], 0⟩]) (f := 55) (n := 3) (xs := [.one (.val 0), .one (.int .i64 (.var 1)), .one (.int .i64 (.var 2))]) (e := [.v v0, .i i1, .i i2]) rfl (by kernel_rfl) (Eq.mp (by kernel_rfl) h)


/-- tracery/tracerylaw21.shown: what is left of it. -/
theorem netShown_sx (R : Ending → World → Prop) (S : Nat → Prop) (w0 : World) (h :
 (
 Calls Try.prog 25 #[] w0 fun r w1 => ∃ v0 : Value, r = .returned (v0) ∧ (Go.Sx.Fr S w0 w1 ∧ Go.Sx.Mild [] w0 w1) ∧ 
 (∃ b1 : Bool, (binOp .eql 43 (v0) (.pointer none)).run Try.prog w1 = .ok (.bool b1) w1 ∧
 ((b1 = true →
 (R (.returned (.bool false)) w1)) ∧
 (b1 = false →
 ∀ g2 : Nat, w0.heap.size ≤ g2 → (∀ w2 : World, Go.Sx.Fr S w0 w2 → Below w1.heap.size w1 w2 → w1.heap.size ≤ g2 → w2.heap[g2]? = some (.cells #[.int .i64 (4 : Int), .int .i64 (0 : Int), .int .i64 (1 : Int), .int .i64 (0 : Int), .int .i64 (0 : Int), .int .i64 (0 : Int), .slice none 0 0] 47 (0, 0)) → 
  Calls Try.prog 27 #[(v0), (.slice (some ⟨g2, 0, none⟩) 1 1)] w2 fun r w3 => ∃ i3 : Int, r = .returned (.int .i64 i3) ∧ (Go.Sx.Fr S w0 w3 ∧ Go.Sx.Mild [g2] w2 w3) ∧ 
  (
  Calls Try.prog 35 #[(v0), (.int .i64 (0 : Int)), (.int .i64 (5 : Int))] w3 fun r w4 => ∃ i4 : Int, r = .returned (.int .i64 i4) ∧ (Go.Sx.Fr S w0 w4 ∧ Go.Sx.Mild [g2] w3 w4) ∧ 
  (
  Calls Try.prog 33 #[(v0), (.int .i64 (0 : Int))] w4 fun r w5 => ∃ i5 : Int, ∃ i6 : Int, ∃ i7 : Int, ∃ i8 : Int, ∃ i9 : Int, ∃ i10 : Int, ∃ A11 : Option Addr, ∃ n12 : Nat, ∃ n13 : Nat, ∃ i14 : Int, r = .returned (.tuple #[.agg #[.int .i64 i5, .int .i64 i6, .int .i64 i7, .int .i64 i8, .int .i64 i9, .int .i64 i10, .slice A11 n12 n13], .int .i64 i14]) ∧ (Go.Sx.Fr S w0 w5 ∧ Go.Sx.Mild [g2] w4 w5) ∧ 
  ∀ g15 : Nat, w0.heap.size ≤ g15 → ((i3 = (1 : Int) →
  ((i4 = (0 : Int) →
   ((i14 = (2 : Int) →
    (∀ w6 : World, Go.Sx.Fr S w0 w6 → Below w5.heap.size w5 w6 → w5.heap.size ≤ g15 → w6.heap[g15]? = some (.cells #[.int .i64 i5, .int .i64 i6, .int .i64 i7, .int .i64 i8, .int .i64 i9, .int .i64 i10, .slice A11 n12 n13] 47 (0, 0)) → 
     Calls Try.prog 29 #[(v0)] w6 fun r w7 => ∃ i16 : Int, r = .returned (.int .i64 i16) ∧ (Go.Sx.Fr S w0 w7 ∧ Go.Sx.Mild [g15, g2] w6 w7) ∧ 
     (R (.returned (.bool (i16 == (0 : Int)))) w7))) ∧
    (¬ i14 = (2 : Int) →
    (∀ w6 : World, Go.Sx.Fr S w0 w6 → Below w5.heap.size w5 w6 → w5.heap.size ≤ g15 → w6.heap[g15]? = some (.cells #[.int .i64 i5, .int .i64 i6, .int .i64 i7, .int .i64 i8, .int .i64 i9, .int .i64 i10, .slice A11 n12 n13] 47 (0, 0)) → R (.returned (.bool false)) w6)))) ∧
   (¬ i4 = (0 : Int) →
   (∀ w6 : World, Go.Sx.Fr S w0 w6 → Below w5.heap.size w5 w6 → w5.heap.size ≤ g15 → w6.heap[g15]? = some (.cells #[.int .i64 i5, .int .i64 i6, .int .i64 i7, .int .i64 i8, .int .i64 i9, .int .i64 i10, .slice A11 n12 n13] 47 (0, 0)) → R (.returned (.bool false)) w6)))) ∧
  (¬ i3 = (1 : Int) →
  (∀ w6 : World, Go.Sx.Fr S w0 w6 → Below w5.heap.size w5 w6 → w5.heap.size ≤ g15 → w6.heap[g15]? = some (.cells #[.int .i64 i5, .int .i64 i6, .int .i64 i7, .int .i64 i8, .int .i64 i9, .int .i64 i10, .slice A11 n12 n13] 47 (0, 0)) → R (.returned (.bool false)) w6))))))))))) :
    Calls Try.prog 24 #[] w0 R :=
  Go.Sx.fn_sound0 (P := Try.prog) (S := S) (w0 := w0) (R := R) (ws := []) (an := [⟨999999, [], [], 0⟩]) (f := 24) (n := 0) (xs := []) (e := []) rfl (by kernel_rfl) (Eq.mp (by kernel_rfl) h)


/-- tracery/tracerylaw21.few: what is left of it. -/
theorem netFew_sx (R : Ending → World → Prop) (S : Nat → Prop) (w0 : World) (A0 : Option Addr) (n1 : Nat) (n2 : Nat) (h :
 ∀ g3 : Nat, w0.heap.size ≤ g3 → (∃ (I0 : Option Addr → Nat → Nat → Int → World → Prop) (M0 : Option Addr → Nat → Nat → Int → World → Nat), (∀ w1 : World, Go.Sx.Fr S w0 w1 → Below w0.heap.size w0 w1 → w0.heap.size ≤ g3 → w1.heap[g3]? = some (.cells #[] 47 (0, 0)) → I0 (some ⟨g3, 0, none⟩) 0 0 (0 : Int) w1) ∧
 ∀ A4 : Option Addr, ∀ n5 : Nat, ∀ n6 : Nat, ∀ i7 : Int, ∀ w2 : World, Go.Sx.Fr S w0 w2 → I0 A4 n5 n6 i7 w2 → 
  ((i7 < (n1 : Int) →
  ((i7 < (6 : Int) →
   ((0 : Int) ≤ i7 ∧ i7 < (n1 : Int) ∧ ∃ p8 : Nat, ∃ o9 : Nat, A0 = some ⟨p8, o9, none⟩ ∧
    (∃ i10 : Int, ∃ i11 : Int, ∃ i12 : Int, ∃ i13 : Int, ∃ i14 : Int, ∃ i15 : Int, ∃ A16 : Option Addr, ∃ n17 : Nat, ∃ n18 : Nat, Go.Sx.CellsAt w2 p8 (o9 + (i7).toNat * 7 + 0) [.int .i64 i10, .int .i64 i11, .int .i64 i12, .int .i64 i13, .int .i64 i14, .int .i64 i15, .slice A16 n17 n18] ∧ 
    ∀ g19 : Nat, w0.heap.size ≤ g19 → (((100 : Int) < (n17 : Int) →
    (∀ w3 : World, Go.Sx.Fr S w0 w3 → Below w2.heap.size w2 w3 → w2.heap.size ≤ g19 → w3.heap[g19]? = some (.cells #[.int .i64 i10, .int .i64 i11, .int .i64 i12, .int .i64 i13, .int .i64 i14, .int .i64 i15, .slice A16 n17 n18] 47 (0, 0)) → ∃ A20 : Option Addr, ∃ n21 : Nat, ∃ n22 : Nat, (Instr.sliceAt 45 (.slice A16 n17 n18) none (some (.int .i64 (100 : Int))) none).run Try.prog w3 = .ok (.slice A20 n21 n22) w3 ∧
     ∀ g23 : Nat, w0.heap.size ≤ g23 → (∀ w4 : World, Go.Sx.Fr S w0 w4 → Go.Sx.Fr (fun b => b ∈ [g19]) w3 w4 → w3.heap.size ≤ g23 → w4.heap[g23]? = some (.cells #[.int .i64 i10, .int .i64 i11, .int .i64 i12, .int .i64 i13, .int .i64 i14, .int .i64 i15, .slice A20 n21 n22] 47 (0, 0)) → 
     ∃ w5 : World, ∃ A24 : Option Addr, ∃ n25 : Nat, ∃ n26 : Nat, (Builtin.append_ #[42, 42] 42 #[(.slice A4 n5 n6), (.slice (some ⟨g23, 0, none⟩) 1 1)]).run Try.prog w4 = .ok (.slice A24 n25 n26) w5 ∧ (Go.Sx.Fr S w0 w5 ∧ Go.Sx.Mild [g23, g19, g3] w4 w5) ∧ 
     (I0 A24 n25 n26 (IntKind.i64.wrap (i7 + (1 : Int))) w5 ∧ M0 A24 n25 n26 (IntKind.i64.wrap (i7 + (1 : Int))) w5 < M0 A4 n5 n6 i7 w2)))) ∧
    ((n17 : Int) ≤ (100 : Int) →
    ∀ g20 : Nat, w0.heap.size ≤ g20 → (∀ w3 : World, Go.Sx.Fr S w0 w3 → Below w2.heap.size w2 w3 → w2.heap.size ≤ g20 → w3.heap[g20]? = some (.cells #[.int .i64 i10, .int .i64 i11, .int .i64 i12, .int .i64 i13, .int .i64 i14, .int .i64 i15, .slice A16 n17 n18] 47 (0, 0)) → w2.heap.size ≤ g19 → w3.heap[g19]? = some (.cells #[.int .i64 i10, .int .i64 i11, .int .i64 i12, .int .i64 i13, .int .i64 i14, .int .i64 i15, .slice A16 n17 n18] 47 (0, 0)) → 
     ∃ w4 : World, ∃ A21 : Option Addr, ∃ n22 : Nat, ∃ n23 : Nat, (Builtin.append_ #[42, 42] 42 #[(.slice A4 n5 n6), (.slice (some ⟨g20, 0, none⟩) 1 1)]).run Try.prog w3 = .ok (.slice A21 n22 n23) w4 ∧ (Go.Sx.Fr S w0 w4 ∧ Go.Sx.Mild [g20, g19, g3] w3 w4) ∧ 
     (I0 A21 n22 n23 (IntKind.i64.wrap (i7 + (1 : Int))) w4 ∧ M0 A21 n22 n23 (IntKind.i64.wrap (i7 + (1 : Int))) w4 < M0 A4 n5 n6 i7 w2))))))) ∧
   ((6 : Int) ≤ i7 →
   (R (.returned (.slice A4 n5 n6)) w2)))) ∧
  ((n1 : Int) ≤ i7 →
  (R (.returned (.slice A4 n5 n6)) w2))))) :
    Calls Try.prog 26 #[(.slice A0 n1 n2)] w0 R :=
  Go.Sx.fn_sound0 (P := Try.prog) (S := S) (w0 := w0) (R := R) (ws := []) (an := [⟨999999, [], [], 0⟩]) (f := 26) (n := 3) (xs := [.one (.slice (.var 0) (.var 1) (.var 2))]) (e := [.a A0, .n n1, .n n2]) rfl (by kernel_rfl) (Eq.mp (by kernel_rfl) h)


/-- tracery/tracerylaw21.does: what is left of it. -/
theorem netDoes_sx (R : Ending → World → Prop) (S : Nat → Prop) (w0 : World) (v0 : Value) (v1 : Value) (i2 : Int) (i3 : Int) (i4 : Int) (A5 : Option Addr) (n6 : Nat) (n7 : Nat) (h :
 ∀ g8 : Nat, w0.heap.size ≤ g8 → (((bits .and .i64 i2 (7 : Int)) = (3 : Int) →
 (∀ w1 : World, Go.Sx.Fr S w0 w1 → Below w0.heap.size w0 w1 → w0.heap.size ≤ g8 → w1.heap[g8]? = some (.cells #[.int .i64 i2, .int .i64 i3, .int .i64 i4, .slice A5 n6 n7] 59 (0, 0)) → 
  Calls Try.prog 33 #[(v0), (.int .i64 i3)] w1 fun r w2 => ∃ i9 : Int, ∃ i10 : Int, ∃ i11 : Int, ∃ i12 : Int, ∃ i13 : Int, ∃ i14 : Int, ∃ A15 : Option Addr, ∃ n16 : Nat, ∃ n17 : Nat, ∃ i18 : Int, r = .returned (.tuple #[.agg #[.int .i64 i9, .int .i64 i10, .int .i64 i11, .int .i64 i12, .int .i64 i13, .int .i64 i14, .slice A15 n16 n17], .int .i64 i18]) ∧ (Go.Sx.Fr S w0 w2 ∧ Go.Sx.Mild [g8] w1 w2) ∧ 
  ∀ g19 : Nat, w0.heap.size ≤ g19 → (∀ w3 : World, Go.Sx.Fr S w0 w3 → Below w2.heap.size w2 w3 → w2.heap.size ≤ g19 → w3.heap[g19]? = some (.cells #[.int .i64 i9, .int .i64 i10, .int .i64 i11, .int .i64 i12, .int .i64 i13, .int .i64 i14, .slice A15 n16 n17] 47 (0, 0)) → 
  Calls Try.prog 52 #[(v1), (.int .i64 i3)] w3 fun r w4 => ∃ i20 : Int, ∃ i21 : Int, ∃ i22 : Int, ∃ i23 : Int, ∃ i24 : Int, ∃ i25 : Int, ∃ A26 : Option Addr, ∃ n27 : Nat, ∃ n28 : Nat, ∃ i29 : Int, r = .returned (.tuple #[.agg #[.int .i64 i20, .int .i64 i21, .int .i64 i22, .int .i64 i23, .int .i64 i24, .int .i64 i25, .slice A26 n27 n28], .int .i64 i29]) ∧ (Go.Sx.Fr S w0 w4 ∧ Go.Sx.Mild [g19, g8] w3 w4) ∧ 
  ∀ g30 : Nat, w0.heap.size ≤ g30 → (∀ w5 : World, Go.Sx.Fr S w0 w5 → Below w4.heap.size w4 w5 → w4.heap.size ≤ g30 → w5.heap[g30]? = some (.cells #[.int .i64 i20, .int .i64 i21, .int .i64 i22, .int .i64 i23, .int .i64 i24, .int .i64 i25, .slice A26 n27 n28] 47 (0, 0)) → 
  Calls Try.prog 32 #[(.agg #[.int .i64 i9, .int .i64 i10, .int .i64 i11, .int .i64 i12, .int .i64 i13, .int .i64 i14, .slice A15 n16 n17]), (.agg #[.int .i64 i20, .int .i64 i21, .int .i64 i22, .int .i64 i23, .int .i64 i24, .int .i64 i25, .slice A26 n27 n28])] w5 fun r w6 => ∃ b31 : Bool, r = .returned (.bool b31) ∧ (Go.Sx.Fr S w0 w6 ∧ Go.Sx.Mild [g30, g19, g8] w5 w6) ∧ 
  ((b31 = true →
  (R (.returned (.bool (i18 == i29))) w6)) ∧
  (b31 = false →
  (R (.returned (.bool false)) w6))))))) ∧
 (¬ (bits .and .i64 i2 (7 : Int)) = (3 : Int) →
 (((bits .and .i64 i2 (7 : Int)) = (4 : Int) →
  (∀ w1 : World, Go.Sx.Fr S w0 w1 → Below w0.heap.size w0 w1 → w0.heap.size ≤ g8 → w1.heap[g8]? = some (.cells #[.int .i64 i2, .int .i64 i3, .int .i64 i4, .slice A5 n6 n7] 59 (0, 0)) → ∃ T9 : List Nat, (∀ b ∈ T9, b < w1.heap.size ∧ b ∉ [g8]) ∧
   (∀ w2 : World, Go.Sx.Fr S w0 w2 → Below w1.heap.size w1 w2 → 
   Calls Try.prog 30 #[(v0), (.int .i64 i3)] w2 fun r w3 => ∃ i10 : Int, r = .returned (.int .i64 i10) ∧ (Go.Sx.Fr S w0 w3 ∧ Go.Sx.Mild [g8] w2 w3) ∧ Go.Sx.Keep w1.heap.size (T9 ++ []) w2 w3 ∧ 
   (
   Calls Try.prog 53 #[(v1), (.int .i64 i3)] w3 fun r w4 => ∃ i11 : Int, r = .returned (.int .i64 i11) ∧ (Go.Sx.Fr S w0 w4 ∧ Go.Sx.Mild [g8] w3 w4) ∧ 
   (R (.returned (.bool (i10 == i11))) w4))))) ∧
  (¬ (bits .and .i64 i2 (7 : Int)) = (4 : Int) →
  (((bits .and .i64 i2 (7 : Int)) = (5 : Int) →
   (∀ w1 : World, Go.Sx.Fr S w0 w1 → Below w0.heap.size w0 w1 → w0.heap.size ≤ g8 → w1.heap[g8]? = some (.cells #[.int .i64 i2, .int .i64 i3, .int .i64 i4, .slice A5 n6 n7] 59 (0, 0)) → ∃ T9 : List Nat, (∀ b ∈ T9, b < w1.heap.size ∧ b ∉ [g8]) ∧
    (∀ w2 : World, Go.Sx.Fr S w0 w2 → Below w1.heap.size w1 w2 → 
    Calls Try.prog 34 #[(v0), (.int .i64 i3)] w2 fun r w3 => ∃ i10 : Int, r = .returned (.int .i64 i10) ∧ (Go.Sx.Fr S w0 w3 ∧ Go.Sx.Mild [g8] w2 w3) ∧ Go.Sx.Keep w1.heap.size (T9 ++ []) w2 w3 ∧ 
    (
    Calls Try.prog 54 #[(v1), (.int .i64 i3)] w3 fun r w4 => ∃ i11 : Int, r = .returned (.int .i64 i11) ∧ (Go.Sx.Fr S w0 w4 ∧ Go.Sx.Mild [g8] w3 w4) ∧ 
    (R (.returned (.bool (i10 == i11))) w4))))) ∧
   (¬ (bits .and .i64 i2 (7 : Int)) = (5 : Int) →
   (((bits .and .i64 i2 (7 : Int)) = (6 : Int) →
    (∀ w1 : World, Go.Sx.Fr S w0 w1 → Below w0.heap.size w0 w1 → w0.heap.size ≤ g8 → w1.heap[g8]? = some (.cells #[.int .i64 i2, .int .i64 i3, .int .i64 i4, .slice A5 n6 n7] 59 (0, 0)) → ∃ T9 : List Nat, (∀ b ∈ T9, b < w1.heap.size ∧ b ∉ [g8]) ∧
     (∀ w2 : World, Go.Sx.Fr S w0 w2 → Below w1.heap.size w1 w2 → 
     Calls Try.prog 35 #[(v0), (.int .i64 i3), (.int .i64 i4)] w2 fun r w3 => ∃ i10 : Int, r = .returned (.int .i64 i10) ∧ (Go.Sx.Fr S w0 w3 ∧ Go.Sx.Mild [g8] w2 w3) ∧ Go.Sx.Keep w1.heap.size (T9 ++ []) w2 w3 ∧ 
     (
     Calls Try.prog 55 #[(v1), (.int .i64 i3), (.int .i64 i4)] w3 fun r w4 => ∃ i11 : Int, r = .returned (.int .i64 i11) ∧ (Go.Sx.Fr S w0 w4 ∧ Go.Sx.Mild [g8] w3 w4) ∧ 
     (R (.returned (.bool (i10 == i11))) w4))))) ∧
    (¬ (bits .and .i64 i2 (7 : Int)) = (6 : Int) →
    (((bits .and .i64 i2 (7 : Int)) = (7 : Int) →
     (∀ w1 : World, Go.Sx.Fr S w0 w1 → Below w0.heap.size w0 w1 → w0.heap.size ≤ g8 → w1.heap[g8]? = some (.cells #[.int .i64 i2, .int .i64 i3, .int .i64 i4, .slice A5 n6 n7] 59 (0, 0)) → 
      Calls Try.prog 31 #[(v0), (.int .i64 i3)] w1 fun r w2 => ∃ i9 : Int, ∃ i10 : Int, ∃ i11 : Int, ∃ i12 : Int, ∃ i13 : Int, ∃ i14 : Int, ∃ A15 : Option Addr, ∃ n16 : Nat, ∃ n17 : Nat, ∃ i18 : Int, r = .returned (.tuple #[.agg #[.int .i64 i9, .int .i64 i10, .int .i64 i11, .int .i64 i12, .int .i64 i13, .int .i64 i14, .slice A15 n16 n17], .int .i64 i18]) ∧ (Go.Sx.Fr S w0 w2 ∧ Go.Sx.Mild [g8] w1 w2) ∧ 
      ∀ g19 : Nat, w0.heap.size ≤ g19 → (∀ w3 : World, Go.Sx.Fr S w0 w3 → Below w2.heap.size w2 w3 → w2.heap.size ≤ g19 → w3.heap[g19]? = some (.cells #[.int .i64 i9, .int .i64 i10, .int .i64 i11, .int .i64 i12, .int .i64 i13, .int .i64 i14, .slice A15 n16 n17] 47 (0, 0)) → 
      Calls Try.prog 56 #[(v1), (.int .i64 i3)] w3 fun r w4 => ∃ i20 : Int, ∃ i21 : Int, ∃ i22 : Int, ∃ i23 : Int, ∃ i24 : Int, ∃ i25 : Int, ∃ A26 : Option Addr, ∃ n27 : Nat, ∃ n28 : Nat, ∃ i29 : Int, r = .returned (.tuple #[.agg #[.int .i64 i20, .int .i64 i21, .int .i64 i22, .int .i64 i23, .int .i64 i24, .int .i64 i25, .slice A26 n27 n28], .int .i64 i29]) ∧ (Go.Sx.Fr S w0 w4 ∧ Go.Sx.Mild [g19, g8] w3 w4) ∧ 
      ∀ g30 : Nat, w0.heap.size ≤ g30 → (∀ w5 : World, Go.Sx.Fr S w0 w5 → Below w4.heap.size w4 w5 → w4.heap.size ≤ g30 → w5.heap[g30]? = some (.cells #[.int .i64 i20, .int .i64 i21, .int .i64 i22, .int .i64 i23, .int .i64 i24, .int .i64 i25, .slice A26 n27 n28] 47 (0, 0)) → 
      Calls Try.prog 32 #[(.agg #[.int .i64 i9, .int .i64 i10, .int .i64 i11, .int .i64 i12, .int .i64 i13, .int .i64 i14, .slice A15 n16 n17]), (.agg #[.int .i64 i20, .int .i64 i21, .int .i64 i22, .int .i64 i23, .int .i64 i24, .int .i64 i25, .slice A26 n27 n28])] w5 fun r w6 => ∃ b31 : Bool, r = .returned (.bool b31) ∧ (Go.Sx.Fr S w0 w6 ∧ Go.Sx.Mild [g30, g19, g8] w5 w6) ∧ 
      ((b31 = true →
      (R (.returned (.bool (i18 == i29))) w6)) ∧
      (b31 = false →
      (R (.returned (.bool false)) w6))))))) ∧
     (¬ (bits .and .i64 i2 (7 : Int)) = (7 : Int) →
     (∀ w1 : World, Go.Sx.Fr S w0 w1 → Below w0.heap.size w0 w1 → w0.heap.size ≤ g8 → w1.heap[g8]? = some (.cells #[.int .i64 i2, .int .i64 i3, .int .i64 i4, .slice A5 n6 n7] 59 (0, 0)) → ∃ T9 : List Nat, (∀ b ∈ T9, b < w1.heap.size ∧ b ∉ [g8]) ∧
      (∀ w2 : World, Go.Sx.Fr S w0 w2 → Below w1.heap.size w1 w2 → 
      Calls Try.prog 26 #[(.slice A5 n6 n7)] w2 fun r w3 => ∃ A10 : Option Addr, ∃ n11 : Nat, ∃ n12 : Nat, r = .returned (.slice A10 n11 n12) ∧ (Go.Sx.Fr S w0 w3 ∧ Go.Sx.Mild [g8] w2 w3) ∧ Go.Sx.Keep w1.heap.size (T9 ++ []) w2 w3 ∧ 
      (
      Calls Try.prog 27 #[(v0), (.slice A10 n11 n12)] w3 fun r w4 => ∃ i13 : Int, r = .returned (.int .i64 i13) ∧ (Go.Sx.Fr S w0 w4 ∧ Go.Sx.Mild [g8] w3 w4) ∧ Go.Sx.Keep w1.heap.size (T9 ++ []) w3 w4 ∧ 
      (
      Calls Try.prog 26 #[(.slice A5 n6 n7)] w4 fun r w5 => ∃ A14 : Option Addr, ∃ n15 : Nat, ∃ n16 : Nat, r = .returned (.slice A14 n15 n16) ∧ (Go.Sx.Fr S w0 w5 ∧ Go.Sx.Mild [g8] w4 w5) ∧ 
      (
      Calls Try.prog 57 #[(v1), (.slice A14 n15 n16)] w5 fun r w6 => ∃ i17 : Int, r = .returned (.int .i64 i17) ∧ (Go.Sx.Fr S w0 w6 ∧ Go.Sx.Mild [g8] w5 w6) ∧ 
      (R (.returned (.bool (i13 == i17))) w6))))))))))))))))) :
    Calls Try.prog 38 #[(v0), (v1), (.agg #[.int .i64 i2, .int .i64 i3, .int .i64 i4, .slice A5 n6 n7])] w0 R :=
  Go.Sx.fn_sound0 (P := Try.prog) (S := S) (w0 := w0) (R := R) (ws := []) (an := [⟨999998, [], [], 0⟩, ⟨999999, [], [], 0⟩]) (f := 38) (n := 8) (xs := [.one (.val 0), .one (.val 1), .agg [.int .i64 (.var 2), .int .i64 (.var 3), .int .i64 (.var 4), .slice (.var 5) (.var 6) (.var 7)]]) (e := [.v v0, .v v1, .i i2, .i i3, .i i4, .a A5, .n n6, .n n7]) rfl (by kernel_rfl) (Eq.mp (by kernel_rfl) h)


end Go.Proofs.Ytdjjfpcfclheiaa
