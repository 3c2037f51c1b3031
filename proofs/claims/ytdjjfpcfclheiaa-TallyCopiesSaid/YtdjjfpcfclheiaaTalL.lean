/- What is left of the laws on tallies. -/
import Derived.Test.YtdjjfpcfclheiaaProg
import Derived.Test.YtdjjfpcfclheiaaSs
import Derived.KernelRfl
set_option linter.unusedVariables false
namespace Go.Proofs.Ytdjjfpcfclheiaa
open Go Go.RowKit Go.Proofs Go.Trc
set_option maxRecDepth 100000
/-- tracery/tracerylaw02.TallyOrder: what is left of it. -/
theorem tallyOrder_sx (R : Ending → World → Prop) (S : Nat → Prop) (w0 : World) (A0 : Option Addr) (n1 : Nat) (n2 : Nat) (h :
 (
 Calls Try.prog 12 #[] w0 fun r w1 => ∃ b3 : Bool, r = .returned (.bool b3) ∧ (Go.Sx.Fr S w0 w1 ∧ Go.Sx.Mild [] w0 w1) ∧ 
 (
 Calls Try.prog 13 #[(.int .i64 (9 : Int))] w1 fun r w2 => ∃ v4 : Value, r = .returned (v4) ∧ (Go.Sx.Fr S w0 w2 ∧ Go.Sx.Mild [] w1 w2) ∧ 
 (
 Calls Try.prog 13 #[(.int .i64 (9 : Int))] w2 fun r w3 => ∃ v5 : Value, r = .returned (v5) ∧ (Go.Sx.Fr S w0 w3 ∧ Go.Sx.Mild [] w2 w3) ∧ 
 ((b3 = false →
 (R (.returned (.bool false)) w3)) ∧
 (b3 = true →
 (∃ b6 : Bool, (binOp .eql 24 (v4) (.pointer none)).run Try.prog w3 = .ok (.bool b6) w3 ∧
  ((b6 = true →
  (R (.returned (.bool false)) w3)) ∧
  (b6 = false →
  (∃ b7 : Bool, (binOp .eql 24 (v5) (.pointer none)).run Try.prog w3 = .ok (.bool b7) w3 ∧
   ((b7 = true →
   (R (.returned (.bool false)) w3)) ∧
   (b7 = false →
   (∃ i8 : Int, (Builtin.min_ #[3, 3] 3 #[(.int .i64 (n1 : Int)), (.int .i64 (60 : Int))]).run Try.prog w3 = .ok (.int .i64 i8) w3 ∧
    (∃ (I0 : Int → Int → World → Prop) (M0 : Int → Int → World → Nat), (I0 (0 : Int) (0 : Int) w3) ∧
    ∀ i9 : Int, ∀ i10 : Int, ∀ w4 : World, Go.Sx.Fr S w0 w4 → I0 i9 i10 w4 → 
     ((i10 < i8 →
     (
      ((0 : Int) ≤ i10 ∧ i10 < (n1 : Int) ∧ ∃ p12 : Nat, ∃ o13 : Nat, A0 = some ⟨p12, o13, none⟩ ∧
      (∀ w5 : World, Go.Sx.Fr S w0 w5 → Below w4.heap.size w4 w5 → ∃ i14 : Int, Go.Sx.CellsAt w5 p12 (o13 + (i10).toNat * 2 + 0) [.int .i64 i14] ∧ (p12 < w4.heap.size ∧ p12 ∉ []) ∧ 
      ((0 : Int) ≤ i10 ∧ i10 < (n1 : Int) ∧ ∃ p15 : Nat, ∃ o16 : Nat, A0 = some ⟨p15, o16, none⟩ ∧
      (∃ i17 : Int, Go.Sx.CellsAt w5 p15 (o16 + (i10).toNat * 2 + 1) [.int .i64 i17] ∧ (p15 < w4.heap.size ∧ p15 ∉ []) ∧ 
      (¬ (1000 : Int) = (0 : Int) ∧
      (
      Calls Try.prog 14 #[(v4), (.int .i64 i14), (.int .i64 (Int.tmod i17 (1000 : Int)))] w5 fun r w6 => ∃ i18 : Int, r = .returned (.int .i64 i18) ∧ (Go.Sx.Fr S w0 w6 ∧ Go.Sx.Mild [] w5 w6) ∧ 
      ((i18 = (0 : Int) →
      ((0 : Int) ≤ i10 ∧ i10 < (n1 : Int) ∧ ∃ p19 : Nat, ∃ o20 : Nat, A0 = some ⟨p19, o20, none⟩ ∧
       (∃ i21 : Int, Go.Sx.CellsAt w6 p19 (o20 + (i10).toNat * 2 + 1) [.int .i64 i21] ∧ 
       (¬ (1000 : Int) = (0 : Int) ∧
       (
       ((0 : Int) ≤ (IntKind.i64.wrap ((IntKind.i64.wrap (i8 - (1 : Int))) - i10)) ∧ (IntKind.i64.wrap ((IntKind.i64.wrap (i8 - (1 : Int))) - i10)) < (n1 : Int) ∧ ∃ p23 : Nat, ∃ o24 : Nat, A0 = some ⟨p23, o24, none⟩ ∧
       (∀ w7 : World, Go.Sx.Fr S w0 w7 → Below w6.heap.size w6 w7 → ∃ i25 : Int, Go.Sx.CellsAt w7 p23 (o24 + ((IntKind.i64.wrap ((IntKind.i64.wrap (i8 - (1 : Int))) - i10))).toNat * 2 + 0) [.int .i64 i25] ∧ (p23 < w6.heap.size ∧ p23 ∉ []) ∧ 
       ((0 : Int) ≤ (IntKind.i64.wrap ((IntKind.i64.wrap (i8 - (1 : Int))) - i10)) ∧ (IntKind.i64.wrap ((IntKind.i64.wrap (i8 - (1 : Int))) - i10)) < (n1 : Int) ∧ ∃ p26 : Nat, ∃ o27 : Nat, A0 = some ⟨p26, o27, none⟩ ∧
       (∃ i28 : Int, Go.Sx.CellsAt w7 p26 (o27 + ((IntKind.i64.wrap ((IntKind.i64.wrap (i8 - (1 : Int))) - i10))).toNat * 2 + 1) [.int .i64 i28] ∧ (p26 < w6.heap.size ∧ p26 ∉ []) ∧ 
       (¬ (1000 : Int) = (0 : Int) ∧
       (
       Calls Try.prog 14 #[(v5), (.int .i64 i25), (.int .i64 (Int.tmod i28 (1000 : Int)))] w7 fun r w8 => ∃ i29 : Int, r = .returned (.int .i64 i29) ∧ (Go.Sx.Fr S w0 w8 ∧ Go.Sx.Mild [] w7 w8) ∧ 
       (I0 (IntKind.i64.wrap (i9 + (Int.tmod i21 (1000 : Int)))) (IntKind.i64.wrap (i10 + (1 : Int))) w8 ∧ M0 (IntKind.i64.wrap (i9 + (Int.tmod i21 (1000 : Int)))) (IntKind.i64.wrap (i10 + (1 : Int))) w8 < M0 i9 i10 w4)))))))))))) ∧
      (¬ i18 = (0 : Int) →
      (
       ((0 : Int) ≤ (IntKind.i64.wrap ((IntKind.i64.wrap (i8 - (1 : Int))) - i10)) ∧ (IntKind.i64.wrap ((IntKind.i64.wrap (i8 - (1 : Int))) - i10)) < (n1 : Int) ∧ ∃ p20 : Nat, ∃ o21 : Nat, A0 = some ⟨p20, o21, none⟩ ∧
       (∀ w7 : World, Go.Sx.Fr S w0 w7 → Below w6.heap.size w6 w7 → ∃ i22 : Int, Go.Sx.CellsAt w7 p20 (o21 + ((IntKind.i64.wrap ((IntKind.i64.wrap (i8 - (1 : Int))) - i10))).toNat * 2 + 0) [.int .i64 i22] ∧ (p20 < w6.heap.size ∧ p20 ∉ []) ∧ 
       ((0 : Int) ≤ (IntKind.i64.wrap ((IntKind.i64.wrap (i8 - (1 : Int))) - i10)) ∧ (IntKind.i64.wrap ((IntKind.i64.wrap (i8 - (1 : Int))) - i10)) < (n1 : Int) ∧ ∃ p23 : Nat, ∃ o24 : Nat, A0 = some ⟨p23, o24, none⟩ ∧
       (∃ i25 : Int, Go.Sx.CellsAt w7 p23 (o24 + ((IntKind.i64.wrap ((IntKind.i64.wrap (i8 - (1 : Int))) - i10))).toNat * 2 + 1) [.int .i64 i25] ∧ (p23 < w6.heap.size ∧ p23 ∉ []) ∧ 
       (¬ (1000 : Int) = (0 : Int) ∧
       (
       Calls Try.prog 14 #[(v5), (.int .i64 i22), (.int .i64 (Int.tmod i25 (1000 : Int)))] w7 fun r w8 => ∃ i26 : Int, r = .returned (.int .i64 i26) ∧ (Go.Sx.Fr S w0 w8 ∧ Go.Sx.Mild [] w7 w8) ∧ 
       (I0 i9 (IntKind.i64.wrap (i10 + (1 : Int))) w8 ∧ M0 i9 (IntKind.i64.wrap (i10 + (1 : Int))) w8 < M0 i9 i10 w4)))))))))))))))))) ∧
     (i8 ≤ i10 →
     (
      Calls Try.prog 16 #[(v4)] w4 fun r w5 => ∃ A11 : Option Addr, ∃ n12 : Nat, ∃ n13 : Nat, r = .returned (.slice A11 n12 n13) ∧ (Go.Sx.Fr S w0 w5 ∧ Go.Sx.Mild [] w4 w5) ∧ 
      (
      Calls Try.prog 16 #[(v5)] w5 fun r w6 => ∃ A14 : Option Addr, ∃ n15 : Nat, ∃ n16 : Nat, r = .returned (.slice A14 n15 n16) ∧ (Go.Sx.Fr S w0 w6 ∧ Go.Sx.Mild [] w5 w6) ∧ 
      (
      Calls Try.prog 15 #[(.slice A11 n12 n13), (.slice A14 n15 n16)] w6 fun r w7 => ∃ b17 : Bool, r = .returned (.bool b17) ∧ (Go.Sx.Fr S w0 w7 ∧ Go.Sx.Mild [] w6 w7) ∧ 
      ((b17 = true →
      (
       Calls Try.prog 17 #[(v4)] w7 fun r w8 => ∃ i18 : Int, r = .returned (.int .i64 i18) ∧ (Go.Sx.Fr S w0 w8 ∧ Go.Sx.Mild [] w7 w8) ∧ 
       ((i18 = i9 →
       (
        Calls Try.prog 17 #[(v5)] w8 fun r w9 => ∃ i19 : Int, r = .returned (.int .i64 i19) ∧ (Go.Sx.Fr S w0 w9 ∧ Go.Sx.Mild [] w8 w9) ∧ 
        ((i19 = i9 →
        (
         Calls Try.prog 16 #[(v4)] w9 fun r w10 => ∃ A20 : Option Addr, ∃ n21 : Nat, ∃ n22 : Nat, r = .returned (.slice A20 n21 n22) ∧ (Go.Sx.Fr S w0 w10 ∧ Go.Sx.Mild [] w9 w10) ∧ 
         (R (.returned (.bool ((n21 : Int) == (9 : Int)))) w10))) ∧
        (¬ i19 = i9 →
        (R (.returned (.bool false)) w9))))) ∧
       (¬ i18 = i9 →
       (R (.returned (.bool false)) w8))))) ∧
      (b17 = false →
      (R (.returned (.bool false)) w7)))))))))))))))))))))) :
    Calls Try.prog 3 #[(.slice A0 n1 n2)] w0 R :=
  Go.Sx.fn_sound0 (P := Try.prog) (S := S) (w0 := w0) (R := R) (ws := []) (an := []) (f := 3) (n := 3) (xs := [.one (.slice (.var 0) (.var 1) (.var 2))]) (e := [.a A0, .n n1, .n n2]) rfl (by kernel_rfl) (Eq.mp (by kernel_rfl) h)


/-- tracery/tracerylaw02.TallySum: what is left of it. -/
theorem tallySum_sx (R : Ending → World → Prop) (S : Nat → Prop) (w0 : World) (i0 : Int) (A1 : Option Addr) (n2 : Nat) (n3 : Nat) (h :
 (
 Calls Try.prog 12 #[] w0 fun r w1 => ∃ b4 : Bool, r = .returned (.bool b4) ∧ (Go.Sx.Fr S w0 w1 ∧ Go.Sx.Mild [] w0 w1) ∧ 
 (
 Calls Try.prog 13 #[(.int .i64 i0)] w1 fun r w2 => ∃ v5 : Value, r = .returned (v5) ∧ (Go.Sx.Fr S w0 w2 ∧ Go.Sx.Mild [] w1 w2) ∧ 
 ((b4 = false →
 (R (.returned (.bool false)) w2)) ∧
 (b4 = true →
 (∃ b6 : Bool, (binOp .eql 24 (v5) (.pointer none)).run Try.prog w2 = .ok (.bool b6) w2 ∧
  ((b6 = true →
  (R (.returned (.bool false)) w2)) ∧
  (b6 = false →
  (∃ (I0 : Bool → Int → World → Prop) (M0 : Bool → Int → World → Nat), (I0 false (0 : Int) w2) ∧
   ∀ b7 : Bool, ∀ i8 : Int, ∀ w3 : World, Go.Sx.Fr S w0 w3 → I0 b7 i8 w3 → 
    ((i8 < (n2 : Int) →
    ((i8 < (60 : Int) →
     ((0 : Int) ≤ i8 ∧ i8 < (n2 : Int) ∧ ∃ p9 : Nat, ∃ o10 : Nat, A1 = some ⟨p9, o10, none⟩ ∧
      (∃ i11 : Int, Go.Sx.CellsAt w3 p9 (o10 + (i8).toNat * 2 + 0) [.int .i64 i11] ∧ 
      (
      Calls Try.prog 18 #[(v5), (.int .i64 i11)] w3 fun r w4 => ∃ i12 : Int, r = .returned (.int .i64 i12) ∧ (Go.Sx.Fr S w0 w4 ∧ Go.Sx.Mild [] w3 w4) ∧ 
      (
      Calls Try.prog 17 #[(v5)] w4 fun r w5 => ∃ i13 : Int, r = .returned (.int .i64 i13) ∧ (Go.Sx.Fr S w0 w5 ∧ Go.Sx.Mild [] w4 w5) ∧ 
      (
      ((0 : Int) ≤ i8 ∧ i8 < (n2 : Int) ∧ ∃ p15 : Nat, ∃ o16 : Nat, A1 = some ⟨p15, o16, none⟩ ∧
      (∀ w6 : World, Go.Sx.Fr S w0 w6 → Below w5.heap.size w5 w6 → ∃ i17 : Int, Go.Sx.CellsAt w6 p15 (o16 + (i8).toNat * 2 + 0) [.int .i64 i17] ∧ (p15 < w5.heap.size ∧ p15 ∉ []) ∧ 
      ((0 : Int) ≤ i8 ∧ i8 < (n2 : Int) ∧ ∃ p18 : Nat, ∃ o19 : Nat, A1 = some ⟨p18, o19, none⟩ ∧
      (∃ i20 : Int, Go.Sx.CellsAt w6 p18 (o19 + (i8).toNat * 2 + 1) [.int .i64 i20] ∧ (p18 < w5.heap.size ∧ p18 ∉ []) ∧ 
      (
      Calls Try.prog 14 #[(v5), (.int .i64 i17), (.int .i64 i20)] w6 fun r w7 => ∃ i21 : Int, r = .returned (.int .i64 i21) ∧ (Go.Sx.Fr S w0 w7 ∧ Go.Sx.Mild [] w6 w7) ∧ 
      ((0 : Int) ≤ i8 ∧ i8 < (n2 : Int) ∧ ∃ p22 : Nat, ∃ o23 : Nat, A1 = some ⟨p22, o23, none⟩ ∧
      (∃ i24 : Int, Go.Sx.CellsAt w7 p22 (o23 + (i8).toNat * 2 + 0) [.int .i64 i24] ∧ 
      (
      Calls Try.prog 18 #[(v5), (.int .i64 i24)] w7 fun r w8 => ∃ i25 : Int, r = .returned (.int .i64 i25) ∧ (Go.Sx.Fr S w0 w8 ∧ Go.Sx.Mild [] w7 w8) ∧ 
      (
      ((¬ i21 = (0 : Int) →
      ((¬ i25 = i12 →
       (∀ w9 : World, Go.Sx.Fr S w0 w9 → Below w8.heap.size w8 w9 → R (.returned (.bool false)) w9)) ∧
       (i25 = i12 →
       (∀ w9 : World, Go.Sx.Fr S w0 w9 → Below w8.heap.size w8 w9 → 
        Calls Try.prog 17 #[(v5)] w9 fun r w10 => ∃ i27 : Int, r = .returned (.int .i64 i27) ∧ (Go.Sx.Fr S w0 w10 ∧ Go.Sx.Mild [] w9 w10) ∧ Go.Sx.Keep w8.heap.size [] w9 w10 ∧ 
        ((¬ i27 = i13 →
        (R (.returned (.bool false)) w10)) ∧
        (i27 = i13 →
        (I0 b7 (IntKind.i64.wrap (i8 + (1 : Int))) w10 ∧ M0 b7 (IntKind.i64.wrap (i8 + (1 : Int))) w10 < M0 b7 i8 w3))))))) ∧
      (i21 = (0 : Int) →
      ((0 : Int) ≤ i8 ∧ i8 < (n2 : Int) ∧ ∃ p27 : Nat, ∃ o28 : Nat, A1 = some ⟨p27, o28, none⟩ ∧
       (∀ w9 : World, Go.Sx.Fr S w0 w9 → Below w8.heap.size w8 w9 → ∃ i29 : Int, Go.Sx.CellsAt w9 p27 (o28 + (i8).toNat * 2 + 1) [.int .i64 i29] ∧ (p27 < w8.heap.size ∧ p27 ∉ []) ∧ 
       ((¬ i25 = (IntKind.i64.wrap (i12 + i29)) →
       (R (.returned (.bool false)) w9)) ∧
       (i25 = (IntKind.i64.wrap (i12 + i29)) →
       ((0 : Int) ≤ i8 ∧ i8 < (n2 : Int) ∧ ∃ p30 : Nat, ∃ o31 : Nat, A1 = some ⟨p30, o31, none⟩ ∧
        (∃ i32 : Int, Go.Sx.CellsAt w9 p30 (o31 + (i8).toNat * 2 + 1) [.int .i64 i32] ∧ (p30 < w8.heap.size ∧ p30 ∉ []) ∧ 
        (
        Calls Try.prog 17 #[(v5)] w9 fun r w10 => ∃ i33 : Int, r = .returned (.int .i64 i33) ∧ (Go.Sx.Fr S w0 w10 ∧ Go.Sx.Mild [] w9 w10) ∧ Go.Sx.Keep w8.heap.size [] w9 w10 ∧ 
        ((¬ i33 = (IntKind.i64.wrap (i13 + i32)) →
        (R (.returned (.bool false)) w10)) ∧
        (i33 = (IntKind.i64.wrap (i13 + i32)) →
        (I0 b7 (IntKind.i64.wrap (i8 + (1 : Int))) w10 ∧ M0 b7 (IntKind.i64.wrap (i8 + (1 : Int))) w10 < M0 b7 i8 w3))))))))))))))))))))))))))) ∧
     ((60 : Int) ≤ i8 →
     (
      Calls Try.prog 16 #[(v5)] w3 fun r w4 => ∃ A9 : Option Addr, ∃ n10 : Nat, ∃ n11 : Nat, r = .returned (.slice A9 n10 n11) ∧ (Go.Sx.Fr S w0 w4 ∧ Go.Sx.Mild [] w3 w4) ∧ 
      (∃ (I1 : Int → Bool → Int → World → Prop) (M1 : Int → Bool → Int → World → Nat), (I1 (0 : Int) b7 (0 : Int) w4) ∧
      ∀ i12 : Int, ∀ b13 : Bool, ∀ i14 : Int, ∀ w5 : World, Go.Sx.Fr S w0 w5 → I1 i12 b13 i14 w5 → 
       ((i14 < (n10 : Int) →
       ((0 : Int) ≤ i14 ∧ i14 < (n10 : Int) ∧ ∃ p15 : Nat, ∃ o16 : Nat, A9 = some ⟨p15, o16, none⟩ ∧
        (∃ i17 : Int, Go.Sx.CellsAt w5 p15 (o16 + (i14).toNat * 1 + 0) [.int .i64 i17] ∧ 
        (
        ((0 : Int) ≤ i14 ∧ i14 < (n10 : Int) ∧ ∃ p19 : Nat, ∃ o20 : Nat, A9 = some ⟨p19, o20, none⟩ ∧
        (∀ w6 : World, Go.Sx.Fr S w0 w6 → Below w5.heap.size w5 w6 → ∃ i21 : Int, Go.Sx.CellsAt w6 p19 (o20 + (i14).toNat * 1 + 0) [.int .i64 i21] ∧ (p19 < w5.heap.size ∧ p19 ∉ []) ∧ 
        (
        Calls Try.prog 18 #[(v5), (.int .i64 i14)] w6 fun r w7 => ∃ i22 : Int, r = .returned (.int .i64 i22) ∧ (Go.Sx.Fr S w0 w7 ∧ Go.Sx.Mild [] w6 w7) ∧ Go.Sx.Keep w5.heap.size [] w6 w7 ∧ 
        ((¬ i21 = i22 →
        (R (.returned (.bool false)) w7)) ∧
        (i21 = i22 →
        ((0 : Int) ≤ i14 ∧ i14 < (n10 : Int) ∧ ∃ p23 : Nat, ∃ o24 : Nat, A9 = some ⟨p23, o24, none⟩ ∧
         (∃ i25 : Int, Go.Sx.CellsAt w7 p23 (o24 + (i14).toNat * 1 + 0) [.int .i64 i25] ∧ (p23 < w5.heap.size ∧ p23 ∉ []) ∧ 
         ((i25 < (0 : Int) →
         (R (.returned (.bool false)) w7)) ∧
         ((0 : Int) ≤ i25 →
         ((0 : Int) ≤ i14 ∧ i14 < (n10 : Int) ∧ ∃ p26 : Nat, ∃ o27 : Nat, A9 = some ⟨p26, o27, none⟩ ∧
          (∃ i28 : Int, Go.Sx.CellsAt w7 p26 (o27 + (i14).toNat * 1 + 0) [.int .i64 i28] ∧ (p26 < w5.heap.size ∧ p26 ∉ []) ∧ 
          (((1099511627776 : Int) < i28 →
          (R (.returned (.bool false)) w7)) ∧
          (i28 ≤ (1099511627776 : Int) →
          (I1 (IntKind.i64.wrap (i12 + i17)) b13 (IntKind.i64.wrap (i14 + (1 : Int))) w7 ∧ M1 (IntKind.i64.wrap (i12 + i17)) b13 (IntKind.i64.wrap (i14 + (1 : Int))) w7 < M1 i12 b13 i14 w5)))))))))))))))))) ∧
       ((n10 : Int) ≤ i14 →
       (
        Calls Try.prog 17 #[(v5)] w5 fun r w6 => ∃ i15 : Int, r = .returned (.int .i64 i15) ∧ (Go.Sx.Fr S w0 w6 ∧ Go.Sx.Mild [] w5 w6) ∧ 
        ((i12 = i15 →
        (R (.returned (.bool (decide ((n10 : Int) ≤ (64 : Int))))) w6)) ∧
        (¬ i12 = i15 →
        (R (.returned (.bool false)) w6))))))))))) ∧
    ((n2 : Int) ≤ i8 →
    (
     Calls Try.prog 16 #[(v5)] w3 fun r w4 => ∃ A9 : Option Addr, ∃ n10 : Nat, ∃ n11 : Nat, r = .returned (.slice A9 n10 n11) ∧ (Go.Sx.Fr S w0 w4 ∧ Go.Sx.Mild [] w3 w4) ∧ 
     (∃ (I1 : Int → Bool → Int → World → Prop) (M1 : Int → Bool → Int → World → Nat), (I1 (0 : Int) b7 (0 : Int) w4) ∧
     ∀ i12 : Int, ∀ b13 : Bool, ∀ i14 : Int, ∀ w5 : World, Go.Sx.Fr S w0 w5 → I1 i12 b13 i14 w5 → 
      ((i14 < (n10 : Int) →
      ((0 : Int) ≤ i14 ∧ i14 < (n10 : Int) ∧ ∃ p15 : Nat, ∃ o16 : Nat, A9 = some ⟨p15, o16, none⟩ ∧
       (∃ i17 : Int, Go.Sx.CellsAt w5 p15 (o16 + (i14).toNat * 1 + 0) [.int .i64 i17] ∧ 
       (
       ((0 : Int) ≤ i14 ∧ i14 < (n10 : Int) ∧ ∃ p19 : Nat, ∃ o20 : Nat, A9 = some ⟨p19, o20, none⟩ ∧
       (∀ w6 : World, Go.Sx.Fr S w0 w6 → Below w5.heap.size w5 w6 → ∃ i21 : Int, Go.Sx.CellsAt w6 p19 (o20 + (i14).toNat * 1 + 0) [.int .i64 i21] ∧ (p19 < w5.heap.size ∧ p19 ∉ []) ∧ 
       (
       Calls Try.prog 18 #[(v5), (.int .i64 i14)] w6 fun r w7 => ∃ i22 : Int, r = .returned (.int .i64 i22) ∧ (Go.Sx.Fr S w0 w7 ∧ Go.Sx.Mild [] w6 w7) ∧ Go.Sx.Keep w5.heap.size [] w6 w7 ∧ 
       ((¬ i21 = i22 →
       (R (.returned (.bool false)) w7)) ∧
       (i21 = i22 →
       ((0 : Int) ≤ i14 ∧ i14 < (n10 : Int) ∧ ∃ p23 : Nat, ∃ o24 : Nat, A9 = some ⟨p23, o24, none⟩ ∧
        (∃ i25 : Int, Go.Sx.CellsAt w7 p23 (o24 + (i14).toNat * 1 + 0) [.int .i64 i25] ∧ (p23 < w5.heap.size ∧ p23 ∉ []) ∧ 
        ((i25 < (0 : Int) →
        (R (.returned (.bool false)) w7)) ∧
        ((0 : Int) ≤ i25 →
        ((0 : Int) ≤ i14 ∧ i14 < (n10 : Int) ∧ ∃ p26 : Nat, ∃ o27 : Nat, A9 = some ⟨p26, o27, none⟩ ∧
         (∃ i28 : Int, Go.Sx.CellsAt w7 p26 (o27 + (i14).toNat * 1 + 0) [.int .i64 i28] ∧ (p26 < w5.heap.size ∧ p26 ∉ []) ∧ 
         (((1099511627776 : Int) < i28 →
         (R (.returned (.bool false)) w7)) ∧
         (i28 ≤ (1099511627776 : Int) →
         (I1 (IntKind.i64.wrap (i12 + i17)) b13 (IntKind.i64.wrap (i14 + (1 : Int))) w7 ∧ M1 (IntKind.i64.wrap (i12 + i17)) b13 (IntKind.i64.wrap (i14 + (1 : Int))) w7 < M1 i12 b13 i14 w5)))))))))))))))))) ∧
      ((n10 : Int) ≤ i14 →
      (
       Calls Try.prog 17 #[(v5)] w5 fun r w6 => ∃ i15 : Int, r = .returned (.int .i64 i15) ∧ (Go.Sx.Fr S w0 w6 ∧ Go.Sx.Mild [] w5 w6) ∧ 
       ((i12 = i15 →
       (R (.returned (.bool (decide ((n10 : Int) ≤ (64 : Int))))) w6)) ∧
       (¬ i12 = i15 →
       (R (.returned (.bool false)) w6))))))))))))))))))) :
    Calls Try.prog 4 #[(.int .i64 i0), (.slice A1 n2 n3)] w0 R :=
  Go.Sx.fn_sound0 (P := Try.prog) (S := S) (w0 := w0) (R := R) (ws := []) (an := []) (f := 4) (n := 4) (xs := [.one (.int .i64 (.var 0)), .one (.slice (.var 1) (.var 2) (.var 3))]) (e := [.i i0, .a A1, .n n2, .n n3]) rfl (by kernel_rfl) (Eq.mp (by kernel_rfl) h)


/-- tracery/tracerylaw02.TallyPlays: what is left of it. -/
theorem tallyPlays_sx (R : Ending → World → Prop) (S : Nat → Prop) (w0 : World) (i0 : Int) (A1 : Option Addr) (n2 : Nat) (n3 : Nat) (h :
 (
 Calls Try.prog 12 #[] w0 fun r w1 => ∃ b4 : Bool, r = .returned (.bool b4) ∧ (Go.Sx.Fr S w0 w1 ∧ Go.Sx.Mild [] w0 w1) ∧ 
 (
 Calls Try.prog 13 #[(.int .i64 i0)] w1 fun r w2 => ∃ v5 : Value, r = .returned (v5) ∧ (Go.Sx.Fr S w0 w2 ∧ Go.Sx.Mild [] w1 w2) ∧ 
 (
 Calls Try.prog 19 #[(.int .i64 i0)] w2 fun r w3 => ∃ v6 : Value, r = .returned (v6) ∧ (Go.Sx.Fr S w0 w3 ∧ Go.Sx.Mild [] w2 w3) ∧ 
 ((b4 = false →
 (R (.returned (.bool false)) w3)) ∧
 (b4 = true →
 (∃ b7 : Bool, (binOp .eql 24 (v5) (.pointer none)).run Try.prog w3 = .ok (.bool b7) w3 ∧
  ((b7 = true →
  (R (.returned (.bool false)) w3)) ∧
  (b7 = false →
  (∃ (I0 : Value → Bool → Int → World → Prop) (M0 : Value → Bool → Int → World → Nat), (I0 (v5) false (0 : Int) w3) ∧
   ∀ v8 : Value, ∀ b9 : Bool, ∀ i10 : Int, ∀ w4 : World, Go.Sx.Fr S w0 w4 → I0 v8 b9 i10 w4 → 
    ((i10 < (n2 : Int) →
    ((i10 < (100 : Int) →
     (¬ (9 : Int) = (0 : Int) ∧
      (((Int.tmod i10 (9 : Int)) = (8 : Int) →
      (
       Calls Try.prog 20 #[(v8)] w4 fun r w5 => ∃ v11 : Value, r = .returned (v11) ∧ (Go.Sx.Fr S w0 w5 ∧ Go.Sx.Mild [] w4 w5) ∧ 
       (∃ b12 : Bool, (binOp .eql 24 (v11) (.pointer none)).run Try.prog w5 = .ok (.bool b12) w5 ∧
       ((b12 = true →
       (R (.returned (.bool false)) w5)) ∧
       (b12 = false →
       (
        Calls Try.prog 14 #[(v8), (.int .i64 (0 : Int)), (.int .i64 (5 : Int))] w5 fun r w6 => ∃ i13 : Int, r = .returned (.int .i64 i13) ∧ (Go.Sx.Fr S w0 w6 ∧ Go.Sx.Mild [] w5 w6) ∧ 
        (∃ T14 : List Nat, (∀ b ∈ T14, b < w6.heap.size ∧ b ∉ []) ∧
        ((0 : Int) ≤ i10 ∧ i10 < (n2 : Int) ∧ ∃ p15 : Nat, ∃ o16 : Nat, A1 = some ⟨p15, o16, none⟩ ∧
        (∀ w7 : World, Go.Sx.Fr S w0 w7 → Below w6.heap.size w6 w7 → ∃ i17 : Int, Go.Sx.CellsAt w7 p15 (o16 + (i10).toNat * 2 + 0) [.int .i64 i17] ∧ (p15 < w6.heap.size ∧ p15 ∉ (T14 ++ [])) ∧ 
        ((0 : Int) ≤ i10 ∧ i10 < (n2 : Int) ∧ ∃ p18 : Nat, ∃ o19 : Nat, A1 = some ⟨p18, o19, none⟩ ∧
        (∃ i20 : Int, Go.Sx.CellsAt w7 p18 (o19 + (i10).toNat * 2 + 1) [.int .i64 i20] ∧ (p18 < w6.heap.size ∧ p18 ∉ (T14 ++ [])) ∧ 
        ((0 : Int) ≤ i10 ∧ i10 < (n2 : Int) ∧ ∃ p21 : Nat, ∃ o22 : Nat, A1 = some ⟨p21, o22, none⟩ ∧
        (∃ i23 : Int, Go.Sx.CellsAt w7 p21 (o22 + (i10).toNat * 2 + 0) [.int .i64 i23] ∧ (p21 < w6.heap.size ∧ p21 ∉ (T14 ++ [])) ∧ 
        ((0 : Int) ≤ i10 ∧ i10 < (n2 : Int) ∧ ∃ p24 : Nat, ∃ o25 : Nat, A1 = some ⟨p24, o25, none⟩ ∧
        (∃ i26 : Int, Go.Sx.CellsAt w7 p24 (o25 + (i10).toNat * 2 + 1) [.int .i64 i26] ∧ (p24 < w6.heap.size ∧ p24 ∉ (T14 ++ [])) ∧ 
        (
        Calls Try.prog 14 #[(v11), (.int .i64 i17), (.int .i64 i20)] w7 fun r w8 => ∃ i27 : Int, r = .returned (.int .i64 i27) ∧ (Go.Sx.Fr S w0 w8 ∧ Go.Sx.Mild [] w7 w8) ∧ Go.Sx.Keep w6.heap.size (T14 ++ []) w7 w8 ∧ 
        (
        Calls Try.prog 21 #[(v6), (.int .i64 i23), (.int .i64 i26)] w8 fun r w9 => ∃ i28 : Int, r = .returned (.int .i64 i28) ∧ (Go.Sx.Fr S w0 w9 ∧ Go.Sx.Mild [] w8 w9) ∧ Go.Sx.Keep w6.heap.size (T14 ++ []) w8 w9 ∧ 
        ((¬ i27 = i28 →
        (R (.returned (.bool false)) w9)) ∧
        (i27 = i28 →
        ((0 : Int) ≤ i10 ∧ i10 < (n2 : Int) ∧ ∃ p29 : Nat, ∃ o30 : Nat, A1 = some ⟨p29, o30, none⟩ ∧
         (∃ i31 : Int, Go.Sx.CellsAt w9 p29 (o30 + (i10).toNat * 2 + 0) [.int .i64 i31] ∧ (p29 < w6.heap.size ∧ p29 ∉ (T14 ++ [])) ∧ 
         ((0 : Int) ≤ i10 ∧ i10 < (n2 : Int) ∧ ∃ p32 : Nat, ∃ o33 : Nat, A1 = some ⟨p32, o33, none⟩ ∧
         (∃ i34 : Int, Go.Sx.CellsAt w9 p32 (o33 + (i10).toNat * 2 + 0) [.int .i64 i34] ∧ (p32 < w6.heap.size ∧ p32 ∉ (T14 ++ [])) ∧ 
         (
         Calls Try.prog 18 #[(v11), (.int .i64 i31)] w9 fun r w10 => ∃ i35 : Int, r = .returned (.int .i64 i35) ∧ (Go.Sx.Fr S w0 w10 ∧ Go.Sx.Mild [] w9 w10) ∧ Go.Sx.Keep w6.heap.size (T14 ++ []) w9 w10 ∧ 
         (
         Calls Try.prog 22 #[(v6), (.int .i64 i34)] w10 fun r w11 => ∃ i36 : Int, r = .returned (.int .i64 i36) ∧ (Go.Sx.Fr S w0 w11 ∧ Go.Sx.Mild [] w10 w11) ∧ 
         ((¬ i35 = i36 →
         (R (.returned (.bool false)) w11)) ∧
         (i35 = i36 →
         (I0 (v11) b9 (IntKind.i64.wrap (i10 + (1 : Int))) w11 ∧ M0 (v11) b9 (IntKind.i64.wrap (i10 + (1 : Int))) w11 < M0 v8 b9 i10 w4)))))))))))))))))))))))))))) ∧
      (¬ (Int.tmod i10 (9 : Int)) = (8 : Int) →
      (∃ T11 : List Nat, (∀ b ∈ T11, b < w4.heap.size ∧ b ∉ []) ∧
       ((0 : Int) ≤ i10 ∧ i10 < (n2 : Int) ∧ ∃ p12 : Nat, ∃ o13 : Nat, A1 = some ⟨p12, o13, none⟩ ∧
       (∀ w5 : World, Go.Sx.Fr S w0 w5 → Below w4.heap.size w4 w5 → ∃ i14 : Int, Go.Sx.CellsAt w5 p12 (o13 + (i10).toNat * 2 + 0) [.int .i64 i14] ∧ (p12 < w4.heap.size ∧ p12 ∉ (T11 ++ [])) ∧ 
       ((0 : Int) ≤ i10 ∧ i10 < (n2 : Int) ∧ ∃ p15 : Nat, ∃ o16 : Nat, A1 = some ⟨p15, o16, none⟩ ∧
       (∃ i17 : Int, Go.Sx.CellsAt w5 p15 (o16 + (i10).toNat * 2 + 1) [.int .i64 i17] ∧ (p15 < w4.heap.size ∧ p15 ∉ (T11 ++ [])) ∧ 
       ((0 : Int) ≤ i10 ∧ i10 < (n2 : Int) ∧ ∃ p18 : Nat, ∃ o19 : Nat, A1 = some ⟨p18, o19, none⟩ ∧
       (∃ i20 : Int, Go.Sx.CellsAt w5 p18 (o19 + (i10).toNat * 2 + 0) [.int .i64 i20] ∧ (p18 < w4.heap.size ∧ p18 ∉ (T11 ++ [])) ∧ 
       ((0 : Int) ≤ i10 ∧ i10 < (n2 : Int) ∧ ∃ p21 : Nat, ∃ o22 : Nat, A1 = some ⟨p21, o22, none⟩ ∧
       (∃ i23 : Int, Go.Sx.CellsAt w5 p21 (o22 + (i10).toNat * 2 + 1) [.int .i64 i23] ∧ (p21 < w4.heap.size ∧ p21 ∉ (T11 ++ [])) ∧ 
       (
       Calls Try.prog 14 #[(v8), (.int .i64 i14), (.int .i64 i17)] w5 fun r w6 => ∃ i24 : Int, r = .returned (.int .i64 i24) ∧ (Go.Sx.Fr S w0 w6 ∧ Go.Sx.Mild [] w5 w6) ∧ Go.Sx.Keep w4.heap.size (T11 ++ []) w5 w6 ∧ 
       (
       Calls Try.prog 21 #[(v6), (.int .i64 i20), (.int .i64 i23)] w6 fun r w7 => ∃ i25 : Int, r = .returned (.int .i64 i25) ∧ (Go.Sx.Fr S w0 w7 ∧ Go.Sx.Mild [] w6 w7) ∧ Go.Sx.Keep w4.heap.size (T11 ++ []) w6 w7 ∧ 
       ((¬ i24 = i25 →
       (R (.returned (.bool false)) w7)) ∧
       (i24 = i25 →
       ((0 : Int) ≤ i10 ∧ i10 < (n2 : Int) ∧ ∃ p26 : Nat, ∃ o27 : Nat, A1 = some ⟨p26, o27, none⟩ ∧
        (∃ i28 : Int, Go.Sx.CellsAt w7 p26 (o27 + (i10).toNat * 2 + 0) [.int .i64 i28] ∧ (p26 < w4.heap.size ∧ p26 ∉ (T11 ++ [])) ∧ 
        ((0 : Int) ≤ i10 ∧ i10 < (n2 : Int) ∧ ∃ p29 : Nat, ∃ o30 : Nat, A1 = some ⟨p29, o30, none⟩ ∧
        (∃ i31 : Int, Go.Sx.CellsAt w7 p29 (o30 + (i10).toNat * 2 + 0) [.int .i64 i31] ∧ (p29 < w4.heap.size ∧ p29 ∉ (T11 ++ [])) ∧ 
        (
        Calls Try.prog 18 #[(v8), (.int .i64 i28)] w7 fun r w8 => ∃ i32 : Int, r = .returned (.int .i64 i32) ∧ (Go.Sx.Fr S w0 w8 ∧ Go.Sx.Mild [] w7 w8) ∧ Go.Sx.Keep w4.heap.size (T11 ++ []) w7 w8 ∧ 
        (
        Calls Try.prog 22 #[(v6), (.int .i64 i31)] w8 fun r w9 => ∃ i33 : Int, r = .returned (.int .i64 i33) ∧ (Go.Sx.Fr S w0 w9 ∧ Go.Sx.Mild [] w8 w9) ∧ 
        ((¬ i32 = i33 →
        (R (.returned (.bool false)) w9)) ∧
        (i32 = i33 →
        (I0 (v8) b9 (IntKind.i64.wrap (i10 + (1 : Int))) w9 ∧ M0 (v8) b9 (IntKind.i64.wrap (i10 + (1 : Int))) w9 < M0 v8 b9 i10 w4)))))))))))))))))))))))))) ∧
     ((100 : Int) ≤ i10 →
     (∃ T11 : List Nat, (∀ b ∈ T11, b < w4.heap.size ∧ b ∉ []) ∧
      (∃ p12 : Nat, ∃ o13 : Nat, v6 = .pointer (some ⟨p12, o13, none⟩) ∧
      (∀ w5 : World, Go.Sx.Fr S w0 w5 → Below w4.heap.size w4 w5 → ∃ A14 : Option Addr, ∃ n15 : Nat, ∃ n16 : Nat, Go.Sx.CellsAt w5 p12 (o13 + ((0 : Int)).toNat * 0 + 0) [.slice A14 n15 n16] ∧ (p12 < w4.heap.size ∧ p12 ∉ (T11 ++ [])) ∧ 
      (
      Calls Try.prog 16 #[(v8)] w5 fun r w6 => ∃ A17 : Option Addr, ∃ n18 : Nat, ∃ n19 : Nat, r = .returned (.slice A17 n18 n19) ∧ (Go.Sx.Fr S w0 w6 ∧ Go.Sx.Mild [] w5 w6) ∧ Go.Sx.Keep w4.heap.size (T11 ++ []) w5 w6 ∧ 
      (
      Calls Try.prog 15 #[(.slice A17 n18 n19), (.slice A14 n15 n16)] w6 fun r w7 => ∃ b20 : Bool, r = .returned (.bool b20) ∧ (Go.Sx.Fr S w0 w7 ∧ Go.Sx.Mild [] w6 w7) ∧ 
      ((b20 = true →
      (
       Calls Try.prog 17 #[(v8)] w7 fun r w8 => ∃ i21 : Int, r = .returned (.int .i64 i21) ∧ (Go.Sx.Fr S w0 w8 ∧ Go.Sx.Mild [] w7 w8) ∧ 
       (
       Calls Try.prog 23 #[(v6)] w8 fun r w9 => ∃ i22 : Int, r = .returned (.int .i64 i22) ∧ (Go.Sx.Fr S w0 w9 ∧ Go.Sx.Mild [] w8 w9) ∧ 
       (R (.returned (.bool (i21 == i22))) w9)))) ∧
      (b20 = false →
      (R (.returned (.bool false)) w7))))))))))) ∧
    ((n2 : Int) ≤ i10 →
    (∃ T11 : List Nat, (∀ b ∈ T11, b < w4.heap.size ∧ b ∉ []) ∧
     (∃ p12 : Nat, ∃ o13 : Nat, v6 = .pointer (some ⟨p12, o13, none⟩) ∧
     (∀ w5 : World, Go.Sx.Fr S w0 w5 → Below w4.heap.size w4 w5 → ∃ A14 : Option Addr, ∃ n15 : Nat, ∃ n16 : Nat, Go.Sx.CellsAt w5 p12 (o13 + ((0 : Int)).toNat * 0 + 0) [.slice A14 n15 n16] ∧ (p12 < w4.heap.size ∧ p12 ∉ (T11 ++ [])) ∧ 
     (
     Calls Try.prog 16 #[(v8)] w5 fun r w6 => ∃ A17 : Option Addr, ∃ n18 : Nat, ∃ n19 : Nat, r = .returned (.slice A17 n18 n19) ∧ (Go.Sx.Fr S w0 w6 ∧ Go.Sx.Mild [] w5 w6) ∧ Go.Sx.Keep w4.heap.size (T11 ++ []) w5 w6 ∧ 
     (
     Calls Try.prog 15 #[(.slice A17 n18 n19), (.slice A14 n15 n16)] w6 fun r w7 => ∃ b20 : Bool, r = .returned (.bool b20) ∧ (Go.Sx.Fr S w0 w7 ∧ Go.Sx.Mild [] w6 w7) ∧ 
     ((b20 = true →
     (
      Calls Try.prog 17 #[(v8)] w7 fun r w8 => ∃ i21 : Int, r = .returned (.int .i64 i21) ∧ (Go.Sx.Fr S w0 w8 ∧ Go.Sx.Mild [] w7 w8) ∧ 
      (
      Calls Try.prog 23 #[(v6)] w8 fun r w9 => ∃ i22 : Int, r = .returned (.int .i64 i22) ∧ (Go.Sx.Fr S w0 w9 ∧ Go.Sx.Mild [] w8 w9) ∧ 
      (R (.returned (.bool (i21 == i22))) w9)))) ∧
     (b20 = false →
     (R (.returned (.bool false)) w7)))))))))))))))))))) :
    Calls Try.prog 5 #[(.int .i64 i0), (.slice A1 n2 n3)] w0 R :=
  Go.Sx.fn_sound0 (P := Try.prog) (S := S) (w0 := w0) (R := R) (ws := []) (an := [⟨999998, [], [], 0⟩]) (f := 5) (n := 4) (xs := [.one (.int .i64 (.var 0)), .one (.slice (.var 1) (.var 2) (.var 3))]) (e := [.i i0, .a A1, .n n2, .n n3]) rfl (by kernel_rfl) (Eq.mp (by kernel_rfl) h)


/-- tracery/tracerylaw02.TallyCopies: what is left of it. -/
theorem tallyCopies_sx (R : Ending → World → Prop) (S : Nat → Prop) (w0 : World) (A0 : Option Addr) (n1 : Nat) (n2 : Nat) (A3 : Option Addr) (n4 : Nat) (n5 : Nat) (h :
 (
 Calls Try.prog 12 #[] w0 fun r w1 => ∃ b6 : Bool, r = .returned (.bool b6) ∧ (Go.Sx.Fr S w0 w1 ∧ Go.Sx.Mild [] w0 w1) ∧ 
 (
 Calls Try.prog 13 #[(.int .i64 (9 : Int))] w1 fun r w2 => ∃ v7 : Value, r = .returned (v7) ∧ (Go.Sx.Fr S w0 w2 ∧ Go.Sx.Mild [] w1 w2) ∧ 
 (
 Calls Try.prog 13 #[(.int .i64 (9 : Int))] w2 fun r w3 => ∃ v8 : Value, r = .returned (v8) ∧ (Go.Sx.Fr S w0 w3 ∧ Go.Sx.Mild [] w2 w3) ∧ 
 ((b6 = false →
 (R (.returned (.bool false)) w3)) ∧
 (b6 = true →
 (∃ b9 : Bool, (binOp .eql 24 (v7) (.pointer none)).run Try.prog w3 = .ok (.bool b9) w3 ∧
  ((b9 = true →
  (R (.returned (.bool false)) w3)) ∧
  (b9 = false →
  (∃ b10 : Bool, (binOp .eql 24 (v8) (.pointer none)).run Try.prog w3 = .ok (.bool b10) w3 ∧
   ((b10 = true →
   (R (.returned (.bool false)) w3)) ∧
   (b10 = false →
   (∃ (I0 : Int → World → Prop) (M0 : Int → World → Nat), (I0 (0 : Int) w3) ∧
    ∀ i11 : Int, ∀ w4 : World, Go.Sx.Fr S w0 w4 → I0 i11 w4 → 
     ((i11 < (n1 : Int) →
     ((i11 < (40 : Int) →
      (
       ((0 : Int) ≤ i11 ∧ i11 < (n1 : Int) ∧ ∃ p13 : Nat, ∃ o14 : Nat, A0 = some ⟨p13, o14, none⟩ ∧
       (∀ w5 : World, Go.Sx.Fr S w0 w5 → Below w4.heap.size w4 w5 → ∃ i15 : Int, Go.Sx.CellsAt w5 p13 (o14 + (i11).toNat * 2 + 0) [.int .i64 i15] ∧ (p13 < w4.heap.size ∧ p13 ∉ []) ∧ 
       ((0 : Int) ≤ i11 ∧ i11 < (n1 : Int) ∧ ∃ p16 : Nat, ∃ o17 : Nat, A0 = some ⟨p16, o17, none⟩ ∧
       (∃ i18 : Int, Go.Sx.CellsAt w5 p16 (o17 + (i11).toNat * 2 + 1) [.int .i64 i18] ∧ (p16 < w4.heap.size ∧ p16 ∉ []) ∧ 
       (
       Calls Try.prog 14 #[(v7), (.int .i64 i15), (.int .i64 i18)] w5 fun r w6 => ∃ i19 : Int, r = .returned (.int .i64 i19) ∧ (Go.Sx.Fr S w0 w6 ∧ Go.Sx.Mild [] w5 w6) ∧ 
       (
       ((0 : Int) ≤ i11 ∧ i11 < (n1 : Int) ∧ ∃ p21 : Nat, ∃ o22 : Nat, A0 = some ⟨p21, o22, none⟩ ∧
       (∀ w7 : World, Go.Sx.Fr S w0 w7 → Below w6.heap.size w6 w7 → ∃ i23 : Int, Go.Sx.CellsAt w7 p21 (o22 + (i11).toNat * 2 + 0) [.int .i64 i23] ∧ (p21 < w6.heap.size ∧ p21 ∉ []) ∧ 
       ((0 : Int) ≤ i11 ∧ i11 < (n1 : Int) ∧ ∃ p24 : Nat, ∃ o25 : Nat, A0 = some ⟨p24, o25, none⟩ ∧
       (∃ i26 : Int, Go.Sx.CellsAt w7 p24 (o25 + (i11).toNat * 2 + 1) [.int .i64 i26] ∧ (p24 < w6.heap.size ∧ p24 ∉ []) ∧ 
       (
       Calls Try.prog 14 #[(v8), (.int .i64 i23), (.int .i64 i26)] w7 fun r w8 => ∃ i27 : Int, r = .returned (.int .i64 i27) ∧ (Go.Sx.Fr S w0 w8 ∧ Go.Sx.Mild [] w7 w8) ∧ 
       (I0 (IntKind.i64.wrap (i11 + (1 : Int))) w8 ∧ M0 (IntKind.i64.wrap (i11 + (1 : Int))) w8 < M0 i11 w4)))))))))))))) ∧
      ((40 : Int) ≤ i11 →
      (
       Calls Try.prog 20 #[(v7)] w4 fun r w5 => ∃ v12 : Value, r = .returned (v12) ∧ (Go.Sx.Fr S w0 w5 ∧ Go.Sx.Mild [] w4 w5) ∧ 
       (∃ b13 : Bool, (binOp .eql 24 (v12) (.pointer none)).run Try.prog w5 = .ok (.bool b13) w5 ∧
       ((b13 = true →
       (R (.returned (.bool false)) w5)) ∧
       (b13 = false →
       (∃ (I1 : Int → World → Prop) (M1 : Int → World → Nat), (I1 (0 : Int) w5) ∧
        ∀ i14 : Int, ∀ w6 : World, Go.Sx.Fr S w0 w6 → I1 i14 w6 → 
         ((i14 < (n4 : Int) →
         ((i14 < (40 : Int) →
          (
           ((0 : Int) ≤ i14 ∧ i14 < (n4 : Int) ∧ ∃ p16 : Nat, ∃ o17 : Nat, A3 = some ⟨p16, o17, none⟩ ∧
           (∀ w7 : World, Go.Sx.Fr S w0 w7 → Below w6.heap.size w6 w7 → ∃ i18 : Int, Go.Sx.CellsAt w7 p16 (o17 + (i14).toNat * 2 + 0) [.int .i64 i18] ∧ (p16 < w6.heap.size ∧ p16 ∉ []) ∧ 
           ((0 : Int) ≤ i14 ∧ i14 < (n4 : Int) ∧ ∃ p19 : Nat, ∃ o20 : Nat, A3 = some ⟨p19, o20, none⟩ ∧
           (∃ i21 : Int, Go.Sx.CellsAt w7 p19 (o20 + (i14).toNat * 2 + 1) [.int .i64 i21] ∧ (p19 < w6.heap.size ∧ p19 ∉ []) ∧ 
           (
           Calls Try.prog 14 #[(v12), (.int .i64 i18), (.int .i64 i21)] w7 fun r w8 => ∃ i22 : Int, r = .returned (.int .i64 i22) ∧ (Go.Sx.Fr S w0 w8 ∧ Go.Sx.Mild [] w7 w8) ∧ 
           (I1 (IntKind.i64.wrap (i14 + (1 : Int))) w8 ∧ M1 (IntKind.i64.wrap (i14 + (1 : Int))) w8 < M1 i14 w6)))))))) ∧
          ((40 : Int) ≤ i14 →
          (
           Calls Try.prog 16 #[(v7)] w6 fun r w7 => ∃ A15 : Option Addr, ∃ n16 : Nat, ∃ n17 : Nat, r = .returned (.slice A15 n16 n17) ∧ (Go.Sx.Fr S w0 w7 ∧ Go.Sx.Mild [] w6 w7) ∧ 
           (
           Calls Try.prog 16 #[(v8)] w7 fun r w8 => ∃ A18 : Option Addr, ∃ n19 : Nat, ∃ n20 : Nat, r = .returned (.slice A18 n19 n20) ∧ (Go.Sx.Fr S w0 w8 ∧ Go.Sx.Mild [] w7 w8) ∧ 
           (
           Calls Try.prog 15 #[(.slice A15 n16 n17), (.slice A18 n19 n20)] w8 fun r w9 => ∃ b21 : Bool, r = .returned (.bool b21) ∧ (Go.Sx.Fr S w0 w9 ∧ Go.Sx.Mild [] w8 w9) ∧ 
           ((b21 = true →
           (
            Calls Try.prog 17 #[(v12)] w9 fun r w10 => ∃ i22 : Int, r = .returned (.int .i64 i22) ∧ (Go.Sx.Fr S w0 w10 ∧ Go.Sx.Mild [] w9 w10) ∧ 
            (
            Calls Try.prog 17 #[(v7)] w10 fun r w11 => ∃ i23 : Int, r = .returned (.int .i64 i23) ∧ (Go.Sx.Fr S w0 w11 ∧ Go.Sx.Mild [] w10 w11) ∧ 
            (R (.returned (.bool (decide (i23 ≤ i22)))) w11)))) ∧
           (b21 = false →
           (R (.returned (.bool false)) w9))))))))) ∧
         ((n4 : Int) ≤ i14 →
         (
          Calls Try.prog 16 #[(v7)] w6 fun r w7 => ∃ A15 : Option Addr, ∃ n16 : Nat, ∃ n17 : Nat, r = .returned (.slice A15 n16 n17) ∧ (Go.Sx.Fr S w0 w7 ∧ Go.Sx.Mild [] w6 w7) ∧ 
          (
          Calls Try.prog 16 #[(v8)] w7 fun r w8 => ∃ A18 : Option Addr, ∃ n19 : Nat, ∃ n20 : Nat, r = .returned (.slice A18 n19 n20) ∧ (Go.Sx.Fr S w0 w8 ∧ Go.Sx.Mild [] w7 w8) ∧ 
          (
          Calls Try.prog 15 #[(.slice A15 n16 n17), (.slice A18 n19 n20)] w8 fun r w9 => ∃ b21 : Bool, r = .returned (.bool b21) ∧ (Go.Sx.Fr S w0 w9 ∧ Go.Sx.Mild [] w8 w9) ∧ 
          ((b21 = true →
          (
           Calls Try.prog 17 #[(v12)] w9 fun r w10 => ∃ i22 : Int, r = .returned (.int .i64 i22) ∧ (Go.Sx.Fr S w0 w10 ∧ Go.Sx.Mild [] w9 w10) ∧ 
           (
           Calls Try.prog 17 #[(v7)] w10 fun r w11 => ∃ i23 : Int, r = .returned (.int .i64 i23) ∧ (Go.Sx.Fr S w0 w11 ∧ Go.Sx.Mild [] w10 w11) ∧ 
           (R (.returned (.bool (decide (i23 ≤ i22)))) w11)))) ∧
          (b21 = false →
          (R (.returned (.bool false)) w9)))))))))))))))) ∧
     ((n1 : Int) ≤ i11 →
     (
      Calls Try.prog 20 #[(v7)] w4 fun r w5 => ∃ v12 : Value, r = .returned (v12) ∧ (Go.Sx.Fr S w0 w5 ∧ Go.Sx.Mild [] w4 w5) ∧ 
      (∃ b13 : Bool, (binOp .eql 24 (v12) (.pointer none)).run Try.prog w5 = .ok (.bool b13) w5 ∧
      ((b13 = true →
      (R (.returned (.bool false)) w5)) ∧
      (b13 = false →
      (∃ (I1 : Int → World → Prop) (M1 : Int → World → Nat), (I1 (0 : Int) w5) ∧
       ∀ i14 : Int, ∀ w6 : World, Go.Sx.Fr S w0 w6 → I1 i14 w6 → 
        ((i14 < (n4 : Int) →
        ((i14 < (40 : Int) →
         (
          ((0 : Int) ≤ i14 ∧ i14 < (n4 : Int) ∧ ∃ p16 : Nat, ∃ o17 : Nat, A3 = some ⟨p16, o17, none⟩ ∧
          (∀ w7 : World, Go.Sx.Fr S w0 w7 → Below w6.heap.size w6 w7 → ∃ i18 : Int, Go.Sx.CellsAt w7 p16 (o17 + (i14).toNat * 2 + 0) [.int .i64 i18] ∧ (p16 < w6.heap.size ∧ p16 ∉ []) ∧ 
          ((0 : Int) ≤ i14 ∧ i14 < (n4 : Int) ∧ ∃ p19 : Nat, ∃ o20 : Nat, A3 = some ⟨p19, o20, none⟩ ∧
          (∃ i21 : Int, Go.Sx.CellsAt w7 p19 (o20 + (i14).toNat * 2 + 1) [.int .i64 i21] ∧ (p19 < w6.heap.size ∧ p19 ∉ []) ∧ 
          (
          Calls Try.prog 14 #[(v12), (.int .i64 i18), (.int .i64 i21)] w7 fun r w8 => ∃ i22 : Int, r = .returned (.int .i64 i22) ∧ (Go.Sx.Fr S w0 w8 ∧ Go.Sx.Mild [] w7 w8) ∧ 
          (I1 (IntKind.i64.wrap (i14 + (1 : Int))) w8 ∧ M1 (IntKind.i64.wrap (i14 + (1 : Int))) w8 < M1 i14 w6)))))))) ∧
         ((40 : Int) ≤ i14 →
         (
          Calls Try.prog 16 #[(v7)] w6 fun r w7 => ∃ A15 : Option Addr, ∃ n16 : Nat, ∃ n17 : Nat, r = .returned (.slice A15 n16 n17) ∧ (Go.Sx.Fr S w0 w7 ∧ Go.Sx.Mild [] w6 w7) ∧ 
          (
          Calls Try.prog 16 #[(v8)] w7 fun r w8 => ∃ A18 : Option Addr, ∃ n19 : Nat, ∃ n20 : Nat, r = .returned (.slice A18 n19 n20) ∧ (Go.Sx.Fr S w0 w8 ∧ Go.Sx.Mild [] w7 w8) ∧ 
          (
          Calls Try.prog 15 #[(.slice A15 n16 n17), (.slice A18 n19 n20)] w8 fun r w9 => ∃ b21 : Bool, r = .returned (.bool b21) ∧ (Go.Sx.Fr S w0 w9 ∧ Go.Sx.Mild [] w8 w9) ∧ 
          ((b21 = true →
          (
           Calls Try.prog 17 #[(v12)] w9 fun r w10 => ∃ i22 : Int, r = .returned (.int .i64 i22) ∧ (Go.Sx.Fr S w0 w10 ∧ Go.Sx.Mild [] w9 w10) ∧ 
           (
           Calls Try.prog 17 #[(v7)] w10 fun r w11 => ∃ i23 : Int, r = .returned (.int .i64 i23) ∧ (Go.Sx.Fr S w0 w11 ∧ Go.Sx.Mild [] w10 w11) ∧ 
           (R (.returned (.bool (decide (i23 ≤ i22)))) w11)))) ∧
          (b21 = false →
          (R (.returned (.bool false)) w9))))))))) ∧
        ((n4 : Int) ≤ i14 →
        (
         Calls Try.prog 16 #[(v7)] w6 fun r w7 => ∃ A15 : Option Addr, ∃ n16 : Nat, ∃ n17 : Nat, r = .returned (.slice A15 n16 n17) ∧ (Go.Sx.Fr S w0 w7 ∧ Go.Sx.Mild [] w6 w7) ∧ 
         (
         Calls Try.prog 16 #[(v8)] w7 fun r w8 => ∃ A18 : Option Addr, ∃ n19 : Nat, ∃ n20 : Nat, r = .returned (.slice A18 n19 n20) ∧ (Go.Sx.Fr S w0 w8 ∧ Go.Sx.Mild [] w7 w8) ∧ 
         (
         Calls Try.prog 15 #[(.slice A15 n16 n17), (.slice A18 n19 n20)] w8 fun r w9 => ∃ b21 : Bool, r = .returned (.bool b21) ∧ (Go.Sx.Fr S w0 w9 ∧ Go.Sx.Mild [] w8 w9) ∧ 
         ((b21 = true →
         (
          Calls Try.prog 17 #[(v12)] w9 fun r w10 => ∃ i22 : Int, r = .returned (.int .i64 i22) ∧ (Go.Sx.Fr S w0 w10 ∧ Go.Sx.Mild [] w9 w10) ∧ 
          (
          Calls Try.prog 17 #[(v7)] w10 fun r w11 => ∃ i23 : Int, r = .returned (.int .i64 i23) ∧ (Go.Sx.Fr S w0 w11 ∧ Go.Sx.Mild [] w10 w11) ∧ 
          (R (.returned (.bool (decide (i23 ≤ i22)))) w11)))) ∧
         (b21 = false →
         (R (.returned (.bool false)) w9)))))))))))))))))))))))))))) :
    Calls Try.prog 6 #[(.slice A0 n1 n2), (.slice A3 n4 n5)] w0 R :=
  Go.Sx.fn_sound0 (P := Try.prog) (S := S) (w0 := w0) (R := R) (ws := []) (an := []) (f := 6) (n := 6) (xs := [.one (.slice (.var 0) (.var 1) (.var 2)), .one (.slice (.var 3) (.var 4) (.var 5))]) (e := [.a A0, .n n1, .n n2, .a A3, .n n4, .n n5]) rfl (by kernel_rfl) (Eq.mp (by kernel_rfl) h)


end Go.Proofs.Ytdjjfpcfclheiaa
