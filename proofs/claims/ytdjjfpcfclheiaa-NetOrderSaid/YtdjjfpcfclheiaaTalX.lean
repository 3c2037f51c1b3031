/- What is left of the functions of tally and of its reference. -/
import Derived.Test.YtdjjfpcfclheiaaProg
import Derived.Test.YtdjjfpcfclheiaaSs
import Derived.KernelRfl
set_option linter.unusedVariables false
namespace Go.Proofs.Ytdjjfpcfclheiaa
open Go Go.RowKit Go.Proofs Go.Trc
set_option maxRecDepth 100000
/-- tracery/tally.New: what is left of it. -/
theorem tnew_sx (R : Ending → World → Prop) (S : Nat → Prop) (w0 : World) (i0 : Int) (h :
 (∃ i1 : Int, (Builtin.max_ #[3, 3] 3 #[(.int .i64 i0), (.int .i64 (0 : Int))]).run Try.prog w0 = .ok (.int .i64 i1) w0 ∧
 (∃ i2 : Int, (Builtin.min_ #[3, 3] 3 #[(.int .i64 i1), (.int .i64 (64 : Int))]).run Try.prog w0 = .ok (.int .i64 i2) w0 ∧
 ∀ g3 : Nat, w0.heap.size ≤ g3 → (∀ w1 : World, Go.Sx.Fr S w0 w1 → Below w0.heap.size w0 w1 → w0.heap.size ≤ g3 → w1.heap[g3]? = some (.cells #[.int .i64 i2, .int .u32 (0 : Int), .int .i32 (0 : Int), .int .u32 (0 : Int), .slice none 0 0] 82 (0, 0)) → R (.returned (.pointer (some ⟨g3, 0, none⟩))) w1)))) :
    Calls Try.prog 13 #[(.int .i64 i0)] w0 R :=
  Go.Sx.fn_sound0 (P := Try.prog) (S := S) (w0 := w0) (R := R) (ws := []) (an := []) (f := 13) (n := 1) (xs := [.one (.int .i64 (.var 0))]) (e := [.i i0]) rfl (by kernel_rfl) (Eq.mp (by kernel_rfl) h)


/-- (*tracery/tally.Tally).Add: what is left of it. -/
theorem tadd_sx (R : Ending → World → Prop) (S : Nat → Prop) (w0 : World) (v0 : Value) (i1 : Int) (i2 : Int) (h :
 (
 Calls Try.prog 39 #[(v0), (.int .i64 i1)] w0 fun r w1 => ∃ v3 : Value, r = .returned (v3) ∧ (Go.Sx.Fr S w0 w1 ∧ Go.Sx.Mild [] w0 w1) ∧ 
 (∃ b4 : Bool, (binOp .eql 83 (v3) (.pointer none)).run Try.prog w1 = .ok (.bool b4) w1 ∧
 ((b4 = true →
 (R (.returned (.int .i64 (1 : Int))) w1)) ∧
 (b4 = false →
 ((i2 < (0 : Int) →
  (R (.returned (.int .i64 (1 : Int))) w1)) ∧
  ((0 : Int) ≤ i2 →
  (
   Calls Try.prog 40 #[(v3)] w1 fun r w2 => ∃ i5 : Int, r = .returned (.int .i64 i5) ∧ (Go.Sx.Fr S w0 w2 ∧ Go.Sx.Mild [] w1 w2) ∧ 
   (((IntKind.i64.wrap ((1099511627776 : Int) - i5)) < i2 →
   (R (.returned (.int .i64 (3 : Int))) w2)) ∧
   (i2 ≤ (IntKind.i64.wrap ((1099511627776 : Int) - i5)) →
   (
    Calls Try.prog 41 #[(v3), (.int .i64 i2)] w2 fun r w3 => ∃ i6 : Int, r = .returned (.int .i64 i6) ∧ (Go.Sx.Fr S w0 w3 ∧ Go.Sx.Mild [] w2 w3) ∧ 
    (R (.returned (.int .i64 (0 : Int))) w3)))))))))))) :
    Calls Try.prog 14 #[(v0), (.int .i64 i1), (.int .i64 i2)] w0 R :=
  Go.Sx.fn_sound0 (P := Try.prog) (S := S) (w0 := w0) (R := R) (ws := []) (an := []) (f := 14) (n := 3) (xs := [.one (.val 0), .one (.int .i64 (.var 1)), .one (.int .i64 (.var 2))]) (e := [.v v0, .i i1, .i i2]) rfl (by kernel_rfl) (Eq.mp (by kernel_rfl) h)


/-- (*tracery/tally.Tally).All: what is left of it. -/
theorem tall_sx (R : Ending → World → Prop) (S : Nat → Prop) (w0 : World) (v0 : Value) (h :
 (∃ p1 : Nat, ∃ o2 : Nat, v0 = .pointer (some ⟨p1, o2, none⟩) ∧
 (∃ i3 : Int, Go.Sx.CellsAt w0 p1 (o2 + ((0 : Int)).toNat * 0 + 0) [.int .i64 i3] ∧ 
 (∃ (I0 : Option Addr → Nat → Nat → Int → World → Prop) (M0 : Option Addr → Nat → Nat → Int → World → Nat), (I0 none 0 0 (0 : Int) w0) ∧
 ∀ A4 : Option Addr, ∀ n5 : Nat, ∀ n6 : Nat, ∀ i7 : Int, ∀ w1 : World, Go.Sx.Fr S w0 w1 → I0 A4 n5 n6 i7 w1 → 
  ((i7 < i3 →
  (
   Calls Try.prog 18 #[(v0), (.int .i64 i7)] w1 fun r w2 => ∃ i8 : Int, r = .returned (.int .i64 i8) ∧ (Go.Sx.Fr S w0 w2 ∧ Go.Sx.Mild [] w1 w2) ∧ 
   ∀ g9 : Nat, w0.heap.size ≤ g9 → (∀ w3 : World, Go.Sx.Fr S w0 w3 → Below w2.heap.size w2 w3 → w2.heap.size ≤ g9 → w3.heap[g9]? = some (.cells #[.int .i64 i8] 3 (0, 0)) → 
   ∃ w4 : World, ∃ A10 : Option Addr, ∃ n11 : Nat, ∃ n12 : Nat, (Builtin.append_ #[30, 30] 30 #[(.slice A4 n5 n6), (.slice (some ⟨g9, 0, none⟩) 1 1)]).run Try.prog w3 = .ok (.slice A10 n11 n12) w4 ∧ (Go.Sx.Fr S w0 w4 ∧ Go.Sx.Mild [g9] w3 w4) ∧ 
   (I0 A10 n11 n12 (IntKind.i64.wrap (i7 + (1 : Int))) w4 ∧ M0 A10 n11 n12 (IntKind.i64.wrap (i7 + (1 : Int))) w4 < M0 A4 n5 n6 i7 w1)))) ∧
  (i3 ≤ i7 →
  (R (.returned (.slice A4 n5 n6)) w1))))))) :
    Calls Try.prog 16 #[(v0)] w0 R :=
  Go.Sx.fn_sound0 (P := Try.prog) (S := S) (w0 := w0) (R := R) (ws := []) (an := [⟨999999, [], [], 0⟩]) (f := 16) (n := 1) (xs := [.one (.val 0)]) (e := [.v v0]) rfl (by kernel_rfl) (Eq.mp (by kernel_rfl) h)


/-- (*tracery/tally.Tally).Sum: what is left of it. -/
theorem tsum_sx (R : Ending → World → Prop) (S : Nat → Prop) (w0 : World) (v0 : Value) (h :
 (
 Calls Try.prog 16 #[(v0)] w0 fun r w1 => ∃ A1 : Option Addr, ∃ n2 : Nat, ∃ n3 : Nat, r = .returned (.slice A1 n2 n3) ∧ (Go.Sx.Fr S w0 w1 ∧ Go.Sx.Mild [] w0 w1) ∧ 
 (∃ (I0 : Int → Int → World → Prop) (M0 : Int → Int → World → Nat), (I0 (0 : Int) (0 : Int) w1) ∧
 ∀ i4 : Int, ∀ i5 : Int, ∀ w2 : World, Go.Sx.Fr S w0 w2 → I0 i4 i5 w2 → 
  ((i5 < (n2 : Int) →
  ((0 : Int) ≤ i5 ∧ i5 < (n2 : Int) ∧ ∃ p6 : Nat, ∃ o7 : Nat, A1 = some ⟨p6, o7, none⟩ ∧
   (∃ i8 : Int, Go.Sx.CellsAt w2 p6 (o7 + (i5).toNat * 1 + 0) [.int .i64 i8] ∧ 
   (I0 (IntKind.i64.wrap (i4 + i8)) (IntKind.i64.wrap (i5 + (1 : Int))) w2 ∧ M0 (IntKind.i64.wrap (i4 + i8)) (IntKind.i64.wrap (i5 + (1 : Int))) w2 < M0 i4 i5 w2)))) ∧
  ((n2 : Int) ≤ i5 →
  (R (.returned (.int .i64 i4)) w2)))))) :
    Calls Try.prog 17 #[(v0)] w0 R :=
  Go.Sx.fn_sound0 (P := Try.prog) (S := S) (w0 := w0) (R := R) (ws := []) (an := []) (f := 17) (n := 1) (xs := [.one (.val 0)]) (e := [.v v0]) rfl (by kernel_rfl) (Eq.mp (by kernel_rfl) h)


/-- (*tracery/tally.Tally).Get: what is left of it. -/
theorem tget_sx (R : Ending → World → Prop) (S : Nat → Prop) (w0 : World) (v0 : Value) (i1 : Int) (h :
 (
 Calls Try.prog 39 #[(v0), (.int .i64 i1)] w0 fun r w1 => ∃ v2 : Value, r = .returned (v2) ∧ (Go.Sx.Fr S w0 w1 ∧ Go.Sx.Mild [] w0 w1) ∧ 
 (∃ b3 : Bool, (binOp .eql 83 (v2) (.pointer none)).run Try.prog w1 = .ok (.bool b3) w1 ∧
 ((b3 = true →
 (R (.returned (.int .i64 (0 : Int))) w1)) ∧
 (b3 = false →
 (
  Calls Try.prog 40 #[(v2)] w1 fun r w2 => ∃ i4 : Int, r = .returned (.int .i64 i4) ∧ (Go.Sx.Fr S w0 w2 ∧ Go.Sx.Mild [] w1 w2) ∧ 
  (R (.returned (.int .i64 i4)) w2))))))) :
    Calls Try.prog 18 #[(v0), (.int .i64 i1)] w0 R :=
  Go.Sx.fn_sound0 (P := Try.prog) (S := S) (w0 := w0) (R := R) (ws := []) (an := []) (f := 18) (n := 2) (xs := [.one (.val 0), .one (.int .i64 (.var 1))]) (e := [.v v0, .i i1]) rfl (by kernel_rfl) (Eq.mp (by kernel_rfl) h)


/-- (*tracery/tally.Tally).Clone: what is left of it. -/
theorem tclone_sx (R : Ending → World → Prop) (S : Nat → Prop) (w0 : World) (v0 : Value) (h :
 (∃ p1 : Nat, ∃ o2 : Nat, v0 = .pointer (some ⟨p1, o2, none⟩) ∧
 (∃ i3 : Int, Go.Sx.CellsAt w0 p1 (o2 + ((0 : Int)).toNat * 0 + 0) [.int .i64 i3] ∧ 
 (
 Calls Try.prog 13 #[(.int .i64 i3)] w0 fun r w1 => ∃ v4 : Value, r = .returned (v4) ∧ (Go.Sx.Fr S w0 w1 ∧ Go.Sx.Mild [] w0 w1) ∧ 
 (
 Calls Try.prog 16 #[(v0)] w1 fun r w2 => ∃ A5 : Option Addr, ∃ n6 : Nat, ∃ n7 : Nat, r = .returned (.slice A5 n6 n7) ∧ (Go.Sx.Fr S w0 w2 ∧ Go.Sx.Mild [] w1 w2) ∧ 
 (∃ (I0 : Int → World → Prop) (M0 : Int → World → Nat), (I0 (0 : Int) w2) ∧
 ∀ i8 : Int, ∀ w3 : World, Go.Sx.Fr S w0 w3 → I0 i8 w3 → 
  ((i8 < (n6 : Int) →
  ((0 : Int) ≤ i8 ∧ i8 < (n6 : Int) ∧ ∃ p9 : Nat, ∃ o10 : Nat, A5 = some ⟨p9, o10, none⟩ ∧
   (∃ i11 : Int, Go.Sx.CellsAt w3 p9 (o10 + (i8).toNat * 1 + 0) [.int .i64 i11] ∧ 
   (
   Calls Try.prog 39 #[(v4), (.int .i64 i8)] w3 fun r w4 => ∃ v12 : Value, r = .returned (v12) ∧ (Go.Sx.Fr S w0 w4 ∧ Go.Sx.Mild [] w3 w4) ∧ 
   (
   Calls Try.prog 42 #[(v12), (.int .i64 i11)] w4 fun r w5 => r = .returned (.tuple #[]) ∧ (Go.Sx.Fr S w0 w5 ∧ Go.Sx.Mild [] w4 w5) ∧ 
   (I0 (IntKind.i64.wrap (i8 + (1 : Int))) w5 ∧ M0 (IntKind.i64.wrap (i8 + (1 : Int))) w5 < M0 i8 w3)))))) ∧
  ((n6 : Int) ≤ i8 →
  (R (.returned (v4)) w3))))))))) :
    Calls Try.prog 20 #[(v0)] w0 R :=
  Go.Sx.fn_sound0 (P := Try.prog) (S := S) (w0 := w0) (R := R) (ws := []) (an := []) (f := 20) (n := 1) (xs := [.one (.val 0)]) (e := [.v v0]) rfl (by kernel_rfl) (Eq.mp (by kernel_rfl) h)


/-- (*tracery/tally.Tally).of: what is left of it. -/
theorem tof_sx (R : Ending → World → Prop) (S : Nat → Prop) (w0 : World) (v0 : Value) (i1 : Int) (h :
 ((v0).oneCell' = true ∧
 ∀ g2 : Nat, w0.heap.size ≤ g2 → (∃ p3 : Nat, ∃ o4 : Nat, v0 = .pointer (some ⟨p3, o4, none⟩) ∧
 (∀ w1 : World, Go.Sx.Fr S w0 w1 → Below w0.heap.size w0 w1 → w0.heap.size ≤ g2 → w1.heap[g2]? = some (.cells #[v0] 24 (0, 0)) → ∃ v5 : Value, (Instr.makeFunc (.func 59) #[] #[(.pointer (some ⟨g2, 0, none⟩))]).run Try.prog w1 = .ok (v5) w1 ∧
 (
 Calls Try.prog 58 #[(.pointer (some ⟨p3, o4 + ((0 : Int)).toNat * 0 + 1, none⟩)), (v5)] w1 fun r w2 => r = .returned (.tuple #[]) ∧ (Go.Sx.Fr S w0 w2 ∧ Go.Sx.Mild [g2] w1 w2) ∧ 
 ((i1 < (0 : Int) →
 (R (.returned (.pointer none)) w2)) ∧
 ((0 : Int) ≤ i1 →
 (∃ p6 : Nat, ∃ o7 : Nat, v0 = .pointer (some ⟨p6, o7, none⟩) ∧
  (∃ i8 : Int, Go.Sx.CellsAt w2 p6 (o7 + ((0 : Int)).toNat * 0 + 0) [.int .i64 i8] ∧ 
  ((i8 ≤ i1 →
  (R (.returned (.pointer none)) w2)) ∧
  (i1 < i8 →
  (∃ p9 : Nat, ∃ o10 : Nat, v0 = .pointer (some ⟨p9, o10, none⟩) ∧
   (∃ A11 : Option Addr, ∃ n12 : Nat, ∃ n13 : Nat, Go.Sx.CellsAt w2 p9 (o10 + ((0 : Int)).toNat * 0 + 4) [.slice A11 n12 n13] ∧ 
   ((0 : Int) ≤ i1 ∧ i1 < (n12 : Int) ∧ ∃ p14 : Nat, ∃ o15 : Nat, A11 = some ⟨p14, o15, none⟩ ∧
   (R (.returned (.pointer (some ⟨p14, o15 + (i1).toNat * 1 + 0, none⟩))) w2))))))))))))))) :
    Calls Try.prog 39 #[(v0), (.int .i64 i1)] w0 R :=
  Go.Sx.fn_sound0 (P := Try.prog) (S := S) (w0 := w0) (R := R) (ws := []) (an := [⟨999999, [], [], 0⟩]) (f := 39) (n := 2) (xs := [.one (.val 0), .one (.int .i64 (.var 1))]) (e := [.v v0, .i i1]) rfl (by kernel_rfl) (Eq.mp (by kernel_rfl) h)


/-- (*tracery/tally.Tally).of$1: what is left of it. -/
theorem tof1_sx (R : Ending → World → Prop) (S : Nat → Prop) (w0 : World) (v0 : Value) (h :
 (
 (∀ w1 : World, Go.Sx.Fr S w0 w1 → Below w0.heap.size w0 w1 → ∃ v2 : Value, (∀ w', Go.Sx.Keep w0.heap.size [] w1 w' → (Instr.loadAt 24 (v0)).run Try.prog w' = .ok (v2) w') ∧
 (∃ v3 : Value, (∀ w', Go.Sx.Keep w0.heap.size [] w1 w' → (Instr.loadAt 24 (v0)).run Try.prog w' = .ok (v3) w') ∧
 (∃ p4 : Nat, ∃ o5 : Nat, v3 = .pointer (some ⟨p4, o5, none⟩) ∧
 (∃ i6 : Int, Go.Sx.CellsAt w1 p4 (o5 + ((0 : Int)).toNat * 0 + 0) [.int .i64 i6] ∧ (p4 < w0.heap.size ∧ p4 ∉ []) ∧ 
 (
 ∃ w2 : World, ∃ A7 : Option Addr, ∃ n8 : Nat, ∃ n9 : Nat, (Instr.makeSlice 80 (.int .i64 i6) (.int .i64 i6)).run Try.prog w1 = .ok (.slice A7 n8 n9) w2 ∧ (Go.Sx.Fr S w0 w2 ∧ Go.Sx.Mild [] w1 w2) ∧ Go.Sx.Keep w0.heap.size [] w1 w2 ∧ 
 (∃ p10 : Nat, ∃ o11 : Nat, v2 = .pointer (some ⟨p10, o11, none⟩) ∧
 (
 ∃ w3 : World, (Instr.storeAt 80 (.pointer (some ⟨p10, o11 + ((0 : Int)).toNat * 0 + 4, none⟩)) (.slice A7 n8 n9)).run Try.prog w2 = .ok () w3 ∧ (Go.Sx.Fr S w0 w3 ∧ Go.Sx.Mild [] w2 w3) ∧ 
 (R (.returned (.tuple #[])) w3)))))))))) :
    Calls Try.prog 59 #[(v0)] w0 R :=
  Go.Sx.fn_sound0 (P := Try.prog) (S := S) (w0 := w0) (R := R) (ws := []) (an := []) (f := 59) (n := 1) (xs := [.one (.val 0)]) (e := [.v v0]) rfl (by kernel_rfl) (Eq.mp (by kernel_rfl) h)


/-- (*sync/atomic.Int64).Load: what is left of it. -/
theorem aload_sx (R : Ending → World → Prop) (S : Nat → Prop) (w0 : World) (v0 : Value) (h :
 (∃ p1 : Nat, ∃ o2 : Nat, v0 = .pointer (some ⟨p1, o2, none⟩) ∧
 (
 ∃ w1 : World, ∃ i3 : Int, (Go.Sx.extSem 60 #[(.pointer (some ⟨p1, o2 + ((0 : Int)).toNat * 0 + 0, none⟩))]).run Try.prog w0 = .ok (.int .i64 i3) w1 ∧ (Go.Sx.Fr S w0 w1 ∧ Go.Sx.Mild [] w0 w1) ∧ 
 (R (.returned (.int .i64 i3)) w1)))) :
    Calls Try.prog 40 #[(v0)] w0 R :=
  Go.Sx.fn_sound0 (P := Try.prog) (S := S) (w0 := w0) (R := R) (ws := []) (an := []) (f := 40) (n := 1) (xs := [.one (.val 0)]) (e := [.v v0]) rfl (by kernel_rfl) (Eq.mp (by kernel_rfl) h)


/-- (*sync/atomic.Int64).Add: what is left of it. -/
theorem aadd_sx (R : Ending → World → Prop) (S : Nat → Prop) (w0 : World) (v0 : Value) (i1 : Int) (h :
 (∃ p2 : Nat, ∃ o3 : Nat, v0 = .pointer (some ⟨p2, o3, none⟩) ∧
 (
 ∃ w1 : World, ∃ i4 : Int, (Go.Sx.extSem 61 #[(.pointer (some ⟨p2, o3 + ((0 : Int)).toNat * 0 + 0, none⟩)), (.int .i64 i1)]).run Try.prog w0 = .ok (.int .i64 i4) w1 ∧ (Go.Sx.Fr S w0 w1 ∧ Go.Sx.Mild [] w0 w1) ∧ 
 (R (.returned (.int .i64 i4)) w1)))) :
    Calls Try.prog 41 #[(v0), (.int .i64 i1)] w0 R :=
  Go.Sx.fn_sound0 (P := Try.prog) (S := S) (w0 := w0) (R := R) (ws := []) (an := []) (f := 41) (n := 2) (xs := [.one (.val 0), .one (.int .i64 (.var 1))]) (e := [.v v0, .i i1]) rfl (by kernel_rfl) (Eq.mp (by kernel_rfl) h)


/-- (*sync/atomic.Int64).Store: what is left of it. -/
theorem astore_sx (R : Ending → World → Prop) (S : Nat → Prop) (w0 : World) (v0 : Value) (i1 : Int) (h :
 (∃ p2 : Nat, ∃ o3 : Nat, v0 = .pointer (some ⟨p2, o3, none⟩) ∧
 (
 ∃ w1 : World, (Go.Sx.extSem 62 #[(.pointer (some ⟨p2, o3 + ((0 : Int)).toNat * 0 + 0, none⟩)), (.int .i64 i1)]).run Try.prog w0 = .ok (.tuple #[]) w1 ∧ (Go.Sx.Fr S w0 w1 ∧ Go.Sx.Mild [] w0 w1) ∧ 
 (R (.returned (.tuple #[])) w1)))) :
    Calls Try.prog 42 #[(v0), (.int .i64 i1)] w0 R :=
  Go.Sx.fn_sound0 (P := Try.prog) (S := S) (w0 := w0) (R := R) (ws := []) (an := []) (f := 42) (n := 2) (xs := [.one (.val 0), .one (.int .i64 (.var 1))]) (e := [.v v0, .i i1]) rfl (by kernel_rfl) (Eq.mp (by kernel_rfl) h)


/-- (*sync/atomic.Bool).Load: what is left of it. -/
theorem bload_sx (R : Ending → World → Prop) (S : Nat → Prop) (w0 : World) (v0 : Value) (h :
 (∃ p1 : Nat, ∃ o2 : Nat, v0 = .pointer (some ⟨p1, o2, none⟩) ∧
 (
 ∃ w1 : World, ∃ i3 : Int, (Go.Sx.extSem 82 #[(.pointer (some ⟨p1, o2 + ((0 : Int)).toNat * 0 + 0, none⟩))]).run Try.prog w0 = .ok (.int .u32 i3) w1 ∧ (Go.Sx.Fr S w0 w1 ∧ Go.Sx.Mild [] w0 w1) ∧ 
 (R (.returned (.bool (i3 != (0 : Int)))) w1)))) :
    Calls Try.prog 73 #[(v0)] w0 R :=
  Go.Sx.fn_sound0 (P := Try.prog) (S := S) (w0 := w0) (R := R) (ws := []) (an := []) (f := 73) (n := 1) (xs := [.one (.val 0)]) (e := [.v v0]) rfl (by kernel_rfl) (Eq.mp (by kernel_rfl) h)


/-- (*sync.Once).Do: what is left of it. -/
theorem do_sx (R : Ending → World → Prop) (S : Nat → Prop) (w0 : World) (v0 : Value) (v1 : Value) (h :
 (∃ p2 : Nat, ∃ o3 : Nat, v0 = .pointer (some ⟨p2, o3, none⟩) ∧
 (
 Calls Try.prog 73 #[(.pointer (some ⟨p2, o3 + ((0 : Int)).toNat * 0 + 0, none⟩))] w0 fun r w1 => ∃ b4 : Bool, r = .returned (.bool b4) ∧ (Go.Sx.Fr S w0 w1 ∧ Go.Sx.Mild [] w0 w1) ∧ 
 ((b4 = false →
 (
  Calls Try.prog 74 #[(v0), (v1)] w1 fun r w2 => r = .returned (.tuple #[]) ∧ (Go.Sx.Fr S w0 w2 ∧ Go.Sx.Mild [] w1 w2) ∧ 
  (R (.returned (.tuple #[])) w2))) ∧
 (b4 = true →
 (R (.returned (.tuple #[])) w1)))))) :
    Calls Try.prog 58 #[(v0), (v1)] w0 R :=
  Go.Sx.fn_sound0 (P := Try.prog) (S := S) (w0 := w0) (R := R) (ws := []) (an := []) (f := 58) (n := 2) (xs := [.one (.val 0), .one (.val 1)]) (e := [.v v0, .v v1]) rfl (by kernel_rfl) (Eq.mp (by kernel_rfl) h)


/-- tracery/traceryref02.Ints: what is left of it. -/
theorem ints_sx (R : Ending → World → Prop) (S : Nat → Prop) (w0 : World) (A0 : Option Addr) (n1 : Nat) (n2 : Nat) (A3 : Option Addr) (n4 : Nat) (n5 : Nat) (h :
 ((¬ (n1 : Int) = (n4 : Int) →
 (R (.returned (.bool false)) w0)) ∧
 ((n1 : Int) = (n4 : Int) →
 (∃ (I0 : Bool → Int → World → Prop) (M0 : Bool → Int → World → Nat), (I0 false (0 : Int) w0) ∧
  ∀ b6 : Bool, ∀ i7 : Int, ∀ w1 : World, Go.Sx.Fr S w0 w1 → I0 b6 i7 w1 → 
   ((i7 < (n1 : Int) →
   (
    ((0 : Int) ≤ i7 ∧ i7 < (n1 : Int) ∧ ∃ p9 : Nat, ∃ o10 : Nat, A0 = some ⟨p9, o10, none⟩ ∧
    (∀ w2 : World, Go.Sx.Fr S w0 w2 → Below w1.heap.size w1 w2 → ∃ i11 : Int, Go.Sx.CellsAt w2 p9 (o10 + (i7).toNat * 1 + 0) [.int .i64 i11] ∧ (p9 < w1.heap.size ∧ p9 ∉ []) ∧ 
    ((0 : Int) ≤ i7 ∧ i7 < (n4 : Int) ∧ ∃ p12 : Nat, ∃ o13 : Nat, A3 = some ⟨p12, o13, none⟩ ∧
    (∃ i14 : Int, Go.Sx.CellsAt w2 p12 (o13 + (i7).toNat * 1 + 0) [.int .i64 i14] ∧ (p12 < w1.heap.size ∧ p12 ∉ []) ∧ 
    ((¬ i11 = i14 →
    (R (.returned (.bool false)) w2)) ∧
    (i11 = i14 →
    (I0 b6 (IntKind.i64.wrap (i7 + (1 : Int))) w2 ∧ M0 b6 (IntKind.i64.wrap (i7 + (1 : Int))) w2 < M0 b6 i7 w1))))))))) ∧
   ((n1 : Int) ≤ i7 →
   (R (.returned (.bool true)) w1))))))) :
    Calls Try.prog 15 #[(.slice A0 n1 n2), (.slice A3 n4 n5)] w0 R :=
  Go.Sx.fn_sound0 (P := Try.prog) (S := S) (w0 := w0) (R := R) (ws := []) (an := []) (f := 15) (n := 6) (xs := [.one (.slice (.var 0) (.var 1) (.var 2)), .one (.slice (.var 3) (.var 4) (.var 5))]) (e := [.a A0, .n n1, .n n2, .a A3, .n n4, .n n5]) rfl (by kernel_rfl) (Eq.mp (by kernel_rfl) h)


/-- tracery/traceryref02.New: what is left of it. -/
theorem rnew_sx (R : Ending → World → Prop) (S : Nat → Prop) (w0 : World) (i0 : Int) (h :
 (∃ i1 : Int, (Builtin.max_ #[3, 3] 3 #[(.int .i64 i0), (.int .i64 (0 : Int))]).run Try.prog w0 = .ok (.int .i64 i1) w0 ∧
 (∃ i2 : Int, (Builtin.min_ #[3, 3] 3 #[(.int .i64 i1), (.int .i64 (64 : Int))]).run Try.prog w0 = .ok (.int .i64 i2) w0 ∧
 (
 ∃ w1 : World, ∃ A3 : Option Addr, ∃ n4 : Nat, ∃ n5 : Nat, (Instr.makeSlice 30 (.int .i64 i2) (.int .i64 i2)).run Try.prog w0 = .ok (.slice A3 n4 n5) w1 ∧ (Go.Sx.Fr S w0 w1 ∧ Go.Sx.Mild [] w0 w1) ∧ 
 ∀ g6 : Nat, w0.heap.size ≤ g6 → (∀ w2 : World, Go.Sx.Fr S w0 w2 → Below w1.heap.size w1 w2 → w1.heap.size ≤ g6 → w2.heap[g6]? = some (.cells #[.slice A3 n4 n5] 40 (0, 0)) → R (.returned (.pointer (some ⟨g6, 0, none⟩))) w2))))) :
    Calls Try.prog 19 #[(.int .i64 i0)] w0 R :=
  Go.Sx.fn_sound0 (P := Try.prog) (S := S) (w0 := w0) (R := R) (ws := []) (an := []) (f := 19) (n := 1) (xs := [.one (.int .i64 (.var 0))]) (e := [.i i0]) rfl (by kernel_rfl) (Eq.mp (by kernel_rfl) h)


/-- (*tracery/traceryref02.Tally).Add: what is left of it. -/
theorem radd_sx (R : Ending → World → Prop) (S : Nat → Prop) (w0 : World) (v0 : Value) (i1 : Int) (i2 : Int) (h :
 ((i1 < (0 : Int) →
 (R (.returned (.int .i64 (1 : Int))) w0)) ∧
 ((0 : Int) ≤ i1 →
 (∃ p3 : Nat, ∃ o4 : Nat, v0 = .pointer (some ⟨p3, o4, none⟩) ∧
  (∃ A5 : Option Addr, ∃ n6 : Nat, ∃ n7 : Nat, Go.Sx.CellsAt w0 p3 (o4 + ((0 : Int)).toNat * 0 + 0) [.slice A5 n6 n7] ∧ 
  (((n6 : Int) ≤ i1 →
  (R (.returned (.int .i64 (1 : Int))) w0)) ∧
  (i1 < (n6 : Int) →
  ((i2 < (0 : Int) →
   (R (.returned (.int .i64 (1 : Int))) w0)) ∧
   ((0 : Int) ≤ i2 →
   (∃ p8 : Nat, ∃ o9 : Nat, v0 = .pointer (some ⟨p8, o9, none⟩) ∧
    (∃ A10 : Option Addr, ∃ n11 : Nat, ∃ n12 : Nat, Go.Sx.CellsAt w0 p8 (o9 + ((0 : Int)).toNat * 0 + 0) [.slice A10 n11 n12] ∧ 
    ((0 : Int) ≤ i1 ∧ i1 < (n11 : Int) ∧ ∃ p13 : Nat, ∃ o14 : Nat, A10 = some ⟨p13, o14, none⟩ ∧
    (∃ i15 : Int, Go.Sx.CellsAt w0 p13 (o14 + (i1).toNat * 1 + 0) [.int .i64 i15] ∧ 
    (((IntKind.i64.wrap ((1099511627776 : Int) - i15)) < i2 →
    (R (.returned (.int .i64 (3 : Int))) w0)) ∧
    (i2 ≤ (IntKind.i64.wrap ((1099511627776 : Int) - i15)) →
    (
     (∃ p17 : Nat, ∃ o18 : Nat, v0 = .pointer (some ⟨p17, o18, none⟩) ∧
     (∀ w1 : World, Go.Sx.Fr S w0 w1 → Below w0.heap.size w0 w1 → ∃ A19 : Option Addr, ∃ n20 : Nat, ∃ n21 : Nat, Go.Sx.CellsAt w1 p17 (o18 + ((0 : Int)).toNat * 0 + 0) [.slice A19 n20 n21] ∧ (p17 < w0.heap.size ∧ p17 ∉ []) ∧ 
     (∃ p22 : Nat, ∃ o23 : Nat, v0 = .pointer (some ⟨p22, o23, none⟩) ∧
     (∃ A24 : Option Addr, ∃ n25 : Nat, ∃ n26 : Nat, Go.Sx.CellsAt w1 p22 (o23 + ((0 : Int)).toNat * 0 + 0) [.slice A24 n25 n26] ∧ (p22 < w0.heap.size ∧ p22 ∉ []) ∧ 
     ((0 : Int) ≤ i1 ∧ i1 < (n25 : Int) ∧ ∃ p27 : Nat, ∃ o28 : Nat, A24 = some ⟨p27, o28, none⟩ ∧
     (∃ i29 : Int, Go.Sx.CellsAt w1 p27 (o28 + (i1).toNat * 1 + 0) [.int .i64 i29] ∧ (p27 < w0.heap.size ∧ p27 ∉ []) ∧ 
     ((0 : Int) ≤ i1 ∧ i1 < (n20 : Int) ∧ ∃ p30 : Nat, ∃ o31 : Nat, A19 = some ⟨p30, o31, none⟩ ∧
     (
     ∃ w2 : World, (Instr.storeAt 3 (.pointer (some ⟨p30, o31 + (i1).toNat * 1 + 0, none⟩)) (.int .i64 (IntKind.i64.wrap (i29 + i2)))).run Try.prog w1 = .ok () w2 ∧ (Go.Sx.Fr S w0 w2 ∧ Go.Sx.Mild [] w1 w2) ∧ 
     (R (.returned (.int .i64 (0 : Int))) w2))))))))))))))))))))))))) :
    Calls Try.prog 21 #[(v0), (.int .i64 i1), (.int .i64 i2)] w0 R :=
  Go.Sx.fn_sound0 (P := Try.prog) (S := S) (w0 := w0) (R := R) (ws := []) (an := []) (f := 21) (n := 3) (xs := [.one (.val 0), .one (.int .i64 (.var 1)), .one (.int .i64 (.var 2))]) (e := [.v v0, .i i1, .i i2]) rfl (by kernel_rfl) (Eq.mp (by kernel_rfl) h)


/-- (*tracery/traceryref02.Tally).Get: what is left of it. -/
theorem rget_sx (R : Ending → World → Prop) (S : Nat → Prop) (w0 : World) (v0 : Value) (i1 : Int) (h :
 ((i1 < (0 : Int) →
 (R (.returned (.int .i64 (0 : Int))) w0)) ∧
 ((0 : Int) ≤ i1 →
 (∃ p2 : Nat, ∃ o3 : Nat, v0 = .pointer (some ⟨p2, o3, none⟩) ∧
  (∃ A4 : Option Addr, ∃ n5 : Nat, ∃ n6 : Nat, Go.Sx.CellsAt w0 p2 (o3 + ((0 : Int)).toNat * 0 + 0) [.slice A4 n5 n6] ∧ 
  (((n5 : Int) ≤ i1 →
  (R (.returned (.int .i64 (0 : Int))) w0)) ∧
  (i1 < (n5 : Int) →
  (∃ p7 : Nat, ∃ o8 : Nat, v0 = .pointer (some ⟨p7, o8, none⟩) ∧
   (∃ A9 : Option Addr, ∃ n10 : Nat, ∃ n11 : Nat, Go.Sx.CellsAt w0 p7 (o8 + ((0 : Int)).toNat * 0 + 0) [.slice A9 n10 n11] ∧ 
   ((0 : Int) ≤ i1 ∧ i1 < (n10 : Int) ∧ ∃ p12 : Nat, ∃ o13 : Nat, A9 = some ⟨p12, o13, none⟩ ∧
   (∃ i14 : Int, Go.Sx.CellsAt w0 p12 (o13 + (i1).toNat * 1 + 0) [.int .i64 i14] ∧ 
   (R (.returned (.int .i64 i14)) w0)))))))))))) :
    Calls Try.prog 22 #[(v0), (.int .i64 i1)] w0 R :=
  Go.Sx.fn_sound0 (P := Try.prog) (S := S) (w0 := w0) (R := R) (ws := []) (an := []) (f := 22) (n := 2) (xs := [.one (.val 0), .one (.int .i64 (.var 1))]) (e := [.v v0, .i i1]) rfl (by kernel_rfl) (Eq.mp (by kernel_rfl) h)


/-- (*tracery/traceryref02.Tally).Sum: what is left of it. -/
theorem rsum_sx (R : Ending → World → Prop) (S : Nat → Prop) (w0 : World) (v0 : Value) (h :
 (∃ (I0 : Int → Int → World → Prop) (M0 : Int → Int → World → Nat), (I0 (0 : Int) (0 : Int) w0) ∧
 ∀ i1 : Int, ∀ i2 : Int, ∀ w1 : World, Go.Sx.Fr S w0 w1 → I0 i1 i2 w1 → 
  (∃ p3 : Nat, ∃ o4 : Nat, v0 = .pointer (some ⟨p3, o4, none⟩) ∧
  (∃ A5 : Option Addr, ∃ n6 : Nat, ∃ n7 : Nat, Go.Sx.CellsAt w1 p3 (o4 + ((0 : Int)).toNat * 0 + 0) [.slice A5 n6 n7] ∧ 
  ((i2 < (n6 : Int) →
  (∃ p8 : Nat, ∃ o9 : Nat, v0 = .pointer (some ⟨p8, o9, none⟩) ∧
   (∃ A10 : Option Addr, ∃ n11 : Nat, ∃ n12 : Nat, Go.Sx.CellsAt w1 p8 (o9 + ((0 : Int)).toNat * 0 + 0) [.slice A10 n11 n12] ∧ 
   ((0 : Int) ≤ i2 ∧ i2 < (n11 : Int) ∧ ∃ p13 : Nat, ∃ o14 : Nat, A10 = some ⟨p13, o14, none⟩ ∧
   (∃ i15 : Int, Go.Sx.CellsAt w1 p13 (o14 + (i2).toNat * 1 + 0) [.int .i64 i15] ∧ 
   (I0 (IntKind.i64.wrap (i1 + i15)) (IntKind.i64.wrap (i2 + (1 : Int))) w1 ∧ M0 (IntKind.i64.wrap (i1 + i15)) (IntKind.i64.wrap (i2 + (1 : Int))) w1 < M0 i1 i2 w1)))))) ∧
  ((n6 : Int) ≤ i2 →
  (R (.returned (.int .i64 i1)) w1))))))) :
    Calls Try.prog 23 #[(v0)] w0 R :=
  Go.Sx.fn_sound0 (P := Try.prog) (S := S) (w0 := w0) (R := R) (ws := []) (an := []) (f := 23) (n := 1) (xs := [.one (.val 0)]) (e := [.v v0]) rfl (by kernel_rfl) (Eq.mp (by kernel_rfl) h)


/-- tracery/tracerylaw02.shown: what is left of it. -/
theorem tshown_sx (R : Ending → World → Prop) (S : Nat → Prop) (w0 : World) (h :
 (
 Calls Try.prog 13 #[(.int .i64 (2 : Int))] w0 fun r w1 => ∃ v0 : Value, r = .returned (v0) ∧ (Go.Sx.Fr S w0 w1 ∧ Go.Sx.Mild [] w0 w1) ∧ 
 (∃ b1 : Bool, (binOp .neq 24 (v0) (.pointer none)).run Try.prog w1 = .ok (.bool b1) w1 ∧
 ((b1 = true →
 (
  Calls Try.prog 14 #[(v0), (.int .i64 (1 : Int)), (.int .i64 (3 : Int))] w1 fun r w2 => ∃ i2 : Int, r = .returned (.int .i64 i2) ∧ (Go.Sx.Fr S w0 w2 ∧ Go.Sx.Mild [] w1 w2) ∧ 
  ((i2 = (0 : Int) →
  (
   Calls Try.prog 14 #[(v0), (.int .i64 (2 : Int)), (.int .i64 (1 : Int))] w2 fun r w3 => ∃ i3 : Int, r = .returned (.int .i64 i3) ∧ (Go.Sx.Fr S w0 w3 ∧ Go.Sx.Mild [] w2 w3) ∧ 
   ((i3 = (1 : Int) →
   (
    Calls Try.prog 17 #[(v0)] w3 fun r w4 => ∃ i4 : Int, r = .returned (.int .i64 i4) ∧ (Go.Sx.Fr S w0 w4 ∧ Go.Sx.Mild [] w3 w4) ∧ 
    ((i4 = (3 : Int) →
    (
     Calls Try.prog 18 #[(v0), (.int .i64 (1 : Int))] w4 fun r w5 => ∃ i5 : Int, r = .returned (.int .i64 i5) ∧ (Go.Sx.Fr S w0 w5 ∧ Go.Sx.Mild [] w4 w5) ∧ 
     (R (.returned (.bool (i5 == (3 : Int)))) w5))) ∧
    (¬ i4 = (3 : Int) →
    (R (.returned (.bool false)) w4))))) ∧
   (¬ i3 = (1 : Int) →
   (R (.returned (.bool false)) w3))))) ∧
  (¬ i2 = (0 : Int) →
  (R (.returned (.bool false)) w2))))) ∧
 (b1 = false →
 (R (.returned (.bool false)) w1)))))) :
    Calls Try.prog 12 #[] w0 R :=
  Go.Sx.fn_sound0 (P := Try.prog) (S := S) (w0 := w0) (R := R) (ws := []) (an := []) (f := 12) (n := 0) (xs := []) (e := []) rfl (by kernel_rfl) (Eq.mp (by kernel_rfl) h)


end Go.Proofs.Ytdjjfpcfclheiaa
