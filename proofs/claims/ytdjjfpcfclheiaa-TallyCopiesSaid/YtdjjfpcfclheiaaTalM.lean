/- What is left of TallyCopies. -/
import Derived.Test.YtdjjfpcfclheiaaProg
import Derived.Test.YtdjjfpcfclheiaaSs
import Derived.KernelRfl
set_option linter.unusedVariables false
namespace Go.Proofs.Ytdjjfpcfclheiaa
open Go Go.RowKit Go.Proofs Go.Trc
set_option maxRecDepth 100000
/-- tracery/tracerylaw02.TallyCopies: what is left of it. -/
theorem tallyCopies_sy (R : Ending → World → Prop) (S : Nat → Prop) (w0 : World) (A0 : Option Addr) (n1 : Nat) (n2 : Nat) (A3 : Option Addr) (n4 : Nat) (n5 : Nat) (h :
 (
 Calls Try.prog 12 #[] w0 fun r w1 => ∃ b6 : Bool, r = .returned (.bool b6) ∧ (Go.Sx.Fr S w0 w1 ∧ Go.Sx.Mild [] w0 w1) ∧ 
 (
 Calls Try.prog 13 #[(.int .i64 (9 : Int))] w1 fun r w2 => ∃ v7 : Value, r = .returned (v7) ∧ (Go.Sx.Fr S w0 w2 ∧ Go.Sx.Mild [] w1 w2) ∧ 
 (
 Calls Try.prog 13 #[(.int .i64 (9 : Int))] w2 fun r w3 => ∃ v8 : Value, r = .returned (v8) ∧ (Go.Sx.Fr S w0 w3 ∧ Go.Sx.Mild [] w2 w3) ∧ 
 ((b6 = false →
 (R (.returned (.bool false)) w3)) ∧
 (b6 = true →
 (∃ b9 : Bool, (binOp .eql 24 (v7) (.pointer none)).run Try.prog w3 = .ok (.bool b9) w3 ∧
  ((b9 = true →
  (R (.returned (.bool false)) w3)) ∧
  (b9 = false →
  (∃ b10 : Bool, (binOp .eql 24 (v8) (.pointer none)).run Try.prog w3 = .ok (.bool b10) w3 ∧
   ((b10 = true →
   (R (.returned (.bool false)) w3)) ∧
   (b10 = false →
   (∃ (I0 : Int → World → Prop) (M0 : Int → World → Nat), (I0 (0 : Int) w3) ∧
    ∀ i11 : Int, ∀ w4 : World, Go.Sx.Fr S w0 w4 → I0 i11 w4 → 
     ((i11 < (n1 : Int) →
     ((i11 < (40 : Int) →
      (∃ T12 : List Nat, (∀ b ∈ T12, b < w4.heap.size ∧ b ∉ []) ∧
       ((0 : Int) ≤ i11 ∧ i11 < (n1 : Int) ∧ ∃ p13 : Nat, ∃ o14 : Nat, A0 = some ⟨p13, o14, none⟩ ∧
       (∀ w5 : World, Go.Sx.Fr S w0 w5 → Below w4.heap.size w4 w5 → ∃ i15 : Int, Go.Sx.CellsAt w5 p13 (o14 + (i11).toNat * 2 + 0) [.int .i64 i15] ∧ (p13 < w4.heap.size ∧ p13 ∉ (T12 ++ [])) ∧ 
       ((0 : Int) ≤ i11 ∧ i11 < (n1 : Int) ∧ ∃ p16 : Nat, ∃ o17 : Nat, A0 = some ⟨p16, o17, none⟩ ∧
       (∃ i18 : Int, Go.Sx.CellsAt w5 p16 (o17 + (i11).toNat * 2 + 1) [.int .i64 i18] ∧ (p16 < w4.heap.size ∧ p16 ∉ (T12 ++ [])) ∧ 
       (
       Calls Try.prog 14 #[(v7), (.int .i64 i15), (.int .i64 i18)] w5 fun r w6 => ∃ i19 : Int, r = .returned (.int .i64 i19) ∧ (Go.Sx.Fr S w0 w6 ∧ Go.Sx.Mild [] w5 w6) ∧ 
       (∃ T20 : List Nat, (∀ b ∈ T20, b < w6.heap.size ∧ b ∉ []) ∧
       ((0 : Int) ≤ i11 ∧ i11 < (n1 : Int) ∧ ∃ p21 : Nat, ∃ o22 : Nat, A0 = some ⟨p21, o22, none⟩ ∧
       (∀ w7 : World, Go.Sx.Fr S w0 w7 → Below w6.heap.size w6 w7 → ∃ i23 : Int, Go.Sx.CellsAt w7 p21 (o22 + (i11).toNat * 2 + 0) [.int .i64 i23] ∧ (p21 < w6.heap.size ∧ p21 ∉ (T20 ++ [])) ∧ 
       ((0 : Int) ≤ i11 ∧ i11 < (n1 : Int) ∧ ∃ p24 : Nat, ∃ o25 : Nat, A0 = some ⟨p24, o25, none⟩ ∧
       (∃ i26 : Int, Go.Sx.CellsAt w7 p24 (o25 + (i11).toNat * 2 + 1) [.int .i64 i26] ∧ (p24 < w6.heap.size ∧ p24 ∉ (T20 ++ [])) ∧ 
       (
       Calls Try.prog 14 #[(v8), (.int .i64 i23), (.int .i64 i26)] w7 fun r w8 => ∃ i27 : Int, r = .returned (.int .i64 i27) ∧ (Go.Sx.Fr S w0 w8 ∧ Go.Sx.Mild [] w7 w8) ∧ 
       (I0 (IntKind.i64.wrap (i11 + (1 : Int))) w8 ∧ M0 (IntKind.i64.wrap (i11 + (1 : Int))) w8 < M0 i11 w4)))))))))))))) ∧
      ((40 : Int) ≤ i11 →
      (
       Calls Try.prog 20 #[(v7)] w4 fun r w5 => ∃ v12 : Value, r = .returned (v12) ∧ (Go.Sx.Fr S w0 w5 ∧ Go.Sx.Mild [] w4 w5) ∧ 
       (∃ b13 : Bool, (binOp .eql 24 (v12) (.pointer none)).run Try.prog w5 = .ok (.bool b13) w5 ∧
       ((b13 = true →
       (R (.returned (.bool false)) w5)) ∧
       (b13 = false →
       (∃ (I1 : Int → World → Prop) (M1 : Int → World → Nat), (I1 (0 : Int) w5) ∧
        ∀ i14 : Int, ∀ w6 : World, Go.Sx.Fr S w0 w6 → I1 i14 w6 → 
         ((i14 < (n4 : Int) →
         ((i14 < (40 : Int) →
          (∃ T15 : List Nat, (∀ b ∈ T15, b < w6.heap.size ∧ b ∉ []) ∧
           ((0 : Int) ≤ i14 ∧ i14 < (n4 : Int) ∧ ∃ p16 : Nat, ∃ o17 : Nat, A3 = some ⟨p16, o17, none⟩ ∧
           (∀ w7 : World, Go.Sx.Fr S w0 w7 → Below w6.heap.size w6 w7 → ∃ i18 : Int, Go.Sx.CellsAt w7 p16 (o17 + (i14).toNat * 2 + 0) [.int .i64 i18] ∧ (p16 < w6.heap.size ∧ p16 ∉ (T15 ++ [])) ∧ 
           ((0 : Int) ≤ i14 ∧ i14 < (n4 : Int) ∧ ∃ p19 : Nat, ∃ o20 : Nat, A3 = some ⟨p19, o20, none⟩ ∧
           (∃ i21 : Int, Go.Sx.CellsAt w7 p19 (o20 + (i14).toNat * 2 + 1) [.int .i64 i21] ∧ (p19 < w6.heap.size ∧ p19 ∉ (T15 ++ [])) ∧ 
           (
           Calls Try.prog 14 #[(v12), (.int .i64 i18), (.int .i64 i21)] w7 fun r w8 => ∃ i22 : Int, r = .returned (.int .i64 i22) ∧ (Go.Sx.Fr S w0 w8 ∧ Go.Sx.Mild [] w7 w8) ∧ 
           (I1 (IntKind.i64.wrap (i14 + (1 : Int))) w8 ∧ M1 (IntKind.i64.wrap (i14 + (1 : Int))) w8 < M1 i14 w6)))))))) ∧
          ((40 : Int) ≤ i14 →
          (
           Calls Try.prog 16 #[(v7)] w6 fun r w7 => ∃ A15 : Option Addr, ∃ n16 : Nat, ∃ n17 : Nat, r = .returned (.slice A15 n16 n17) ∧ (Go.Sx.Fr S w0 w7 ∧ Go.Sx.Mild [] w6 w7) ∧ 
           (
           Calls Try.prog 16 #[(v8)] w7 fun r w8 => ∃ A18 : Option Addr, ∃ n19 : Nat, ∃ n20 : Nat, r = .returned (.slice A18 n19 n20) ∧ (Go.Sx.Fr S w0 w8 ∧ Go.Sx.Mild [] w7 w8) ∧ 
           (
           Calls Try.prog 15 #[(.slice A15 n16 n17), (.slice A18 n19 n20)] w8 fun r w9 => ∃ b21 : Bool, r = .returned (.bool b21) ∧ (Go.Sx.Fr S w0 w9 ∧ Go.Sx.Mild [] w8 w9) ∧ 
           ((b21 = true →
           (
            Calls Try.prog 17 #[(v12)] w9 fun r w10 => ∃ i22 : Int, r = .returned (.int .i64 i22) ∧ (Go.Sx.Fr S w0 w10 ∧ Go.Sx.Mild [] w9 w10) ∧ 
            (
            Calls Try.prog 17 #[(v7)] w10 fun r w11 => ∃ i23 : Int, r = .returned (.int .i64 i23) ∧ (Go.Sx.Fr S w0 w11 ∧ Go.Sx.Mild [] w10 w11) ∧ 
            (R (.returned (.bool (decide (i23 ≤ i22)))) w11)))) ∧
           (b21 = false →
           (R (.returned (.bool false)) w9))))))))) ∧
         ((n4 : Int) ≤ i14 →
         (
          Calls Try.prog 16 #[(v7)] w6 fun r w7 => ∃ A15 : Option Addr, ∃ n16 : Nat, ∃ n17 : Nat, r = .returned (.slice A15 n16 n17) ∧ (Go.Sx.Fr S w0 w7 ∧ Go.Sx.Mild [] w6 w7) ∧ 
          (
          Calls Try.prog 16 #[(v8)] w7 fun r w8 => ∃ A18 : Option Addr, ∃ n19 : Nat, ∃ n20 : Nat, r = .returned (.slice A18 n19 n20) ∧ (Go.Sx.Fr S w0 w8 ∧ Go.Sx.Mild [] w7 w8) ∧ 
          (
          Calls Try.prog 15 #[(.slice A15 n16 n17), (.slice A18 n19 n20)] w8 fun r w9 => ∃ b21 : Bool, r = .returned (.bool b21) ∧ (Go.Sx.Fr S w0 w9 ∧ Go.Sx.Mild [] w8 w9) ∧ 
          ((b21 = true →
          (
           Calls Try.prog 17 #[(v12)] w9 fun r w10 => ∃ i22 : Int, r = .returned (.int .i64 i22) ∧ (Go.Sx.Fr S w0 w10 ∧ Go.Sx.Mild [] w9 w10) ∧ 
           (
           Calls Try.prog 17 #[(v7)] w10 fun r w11 => ∃ i23 : Int, r = .returned (.int .i64 i23) ∧ (Go.Sx.Fr S w0 w11 ∧ Go.Sx.Mild [] w10 w11) ∧ 
           (R (.returned (.bool (decide (i23 ≤ i22)))) w11)))) ∧
          (b21 = false →
          (R (.returned (.bool false)) w9)))))))))))))))) ∧
     ((n1 : Int) ≤ i11 →
     (
      Calls Try.prog 20 #[(v7)] w4 fun r w5 => ∃ v12 : Value, r = .returned (v12) ∧ (Go.Sx.Fr S w0 w5 ∧ Go.Sx.Mild [] w4 w5) ∧ 
      (∃ b13 : Bool, (binOp .eql 24 (v12) (.pointer none)).run Try.prog w5 = .ok (.bool b13) w5 ∧
      ((b13 = true →
      (R (.returned (.bool false)) w5)) ∧
      (b13 = false →
      (∃ (I1 : Int → World → Prop) (M1 : Int → World → Nat), (I1 (0 : Int) w5) ∧
       ∀ i14 : Int, ∀ w6 : World, Go.Sx.Fr S w0 w6 → I1 i14 w6 → 
        ((i14 < (n4 : Int) →
        ((i14 < (40 : Int) →
         (∃ T15 : List Nat, (∀ b ∈ T15, b < w6.heap.size ∧ b ∉ []) ∧
          ((0 : Int) ≤ i14 ∧ i14 < (n4 : Int) ∧ ∃ p16 : Nat, ∃ o17 : Nat, A3 = some ⟨p16, o17, none⟩ ∧
          (∀ w7 : World, Go.Sx.Fr S w0 w7 → Below w6.heap.size w6 w7 → ∃ i18 : Int, Go.Sx.CellsAt w7 p16 (o17 + (i14).toNat * 2 + 0) [.int .i64 i18] ∧ (p16 < w6.heap.size ∧ p16 ∉ (T15 ++ [])) ∧ 
          ((0 : Int) ≤ i14 ∧ i14 < (n4 : Int) ∧ ∃ p19 : Nat, ∃ o20 : Nat, A3 = some ⟨p19, o20, none⟩ ∧
          (∃ i21 : Int, Go.Sx.CellsAt w7 p19 (o20 + (i14).toNat * 2 + 1) [.int .i64 i21] ∧ (p19 < w6.heap.size ∧ p19 ∉ (T15 ++ [])) ∧ 
          (
          Calls Try.prog 14 #[(v12), (.int .i64 i18), (.int .i64 i21)] w7 fun r w8 => ∃ i22 : Int, r = .returned (.int .i64 i22) ∧ (Go.Sx.Fr S w0 w8 ∧ Go.Sx.Mild [] w7 w8) ∧ 
          (I1 (IntKind.i64.wrap (i14 + (1 : Int))) w8 ∧ M1 (IntKind.i64.wrap (i14 + (1 : Int))) w8 < M1 i14 w6)))))))) ∧
         ((40 : Int) ≤ i14 →
         (
          Calls Try.prog 16 #[(v7)] w6 fun r w7 => ∃ A15 : Option Addr, ∃ n16 : Nat, ∃ n17 : Nat, r = .returned (.slice A15 n16 n17) ∧ (Go.Sx.Fr S w0 w7 ∧ Go.Sx.Mild [] w6 w7) ∧ 
          (
          Calls Try.prog 16 #[(v8)] w7 fun r w8 => ∃ A18 : Option Addr, ∃ n19 : Nat, ∃ n20 : Nat, r = .returned (.slice A18 n19 n20) ∧ (Go.Sx.Fr S w0 w8 ∧ Go.Sx.Mild [] w7 w8) ∧ 
          (
          Calls Try.prog 15 #[(.slice A15 n16 n17), (.slice A18 n19 n20)] w8 fun r w9 => ∃ b21 : Bool, r = .returned (.bool b21) ∧ (Go.Sx.Fr S w0 w9 ∧ Go.Sx.Mild [] w8 w9) ∧ 
          ((b21 = true →
          (
           Calls Try.prog 17 #[(v12)] w9 fun r w10 => ∃ i22 : Int, r = .returned (.int .i64 i22) ∧ (Go.Sx.Fr S w0 w10 ∧ Go.Sx.Mild [] w9 w10) ∧ 
           (
           Calls Try.prog 17 #[(v7)] w10 fun r w11 => ∃ i23 : Int, r = .returned (.int .i64 i23) ∧ (Go.Sx.Fr S w0 w11 ∧ Go.Sx.Mild [] w10 w11) ∧ 
           (R (.returned (.bool (decide (i23 ≤ i22)))) w11)))) ∧
          (b21 = false →
          (R (.returned (.bool false)) w9))))))))) ∧
        ((n4 : Int) ≤ i14 →
        (
         Calls Try.prog 16 #[(v7)] w6 fun r w7 => ∃ A15 : Option Addr, ∃ n16 : Nat, ∃ n17 : Nat, r = .returned (.slice A15 n16 n17) ∧ (Go.Sx.Fr S w0 w7 ∧ Go.Sx.Mild [] w6 w7) ∧ 
         (
         Calls Try.prog 16 #[(v8)] w7 fun r w8 => ∃ A18 : Option Addr, ∃ n19 : Nat, ∃ n20 : Nat, r = .returned (.slice A18 n19 n20) ∧ (Go.Sx.Fr S w0 w8 ∧ Go.Sx.Mild [] w7 w8) ∧ 
         (
         Calls Try.prog 15 #[(.slice A15 n16 n17), (.slice A18 n19 n20)] w8 fun r w9 => ∃ b21 : Bool, r = .returned (.bool b21) ∧ (Go.Sx.Fr S w0 w9 ∧ Go.Sx.Mild [] w8 w9) ∧ 
         ((b21 = true →
         (
          Calls Try.prog 17 #[(v12)] w9 fun r w10 => ∃ i22 : Int, r = .returned (.int .i64 i22) ∧ (Go.Sx.Fr S w0 w10 ∧ Go.Sx.Mild [] w9 w10) ∧ 
          (
          Calls Try.prog 17 #[(v7)] w10 fun r w11 => ∃ i23 : Int, r = .returned (.int .i64 i23) ∧ (Go.Sx.Fr S w0 w11 ∧ Go.Sx.Mild [] w10 w11) ∧ 
          (R (.returned (.bool (decide (i23 ≤ i22)))) w11)))) ∧
         (b21 = false →
         (R (.returned (.bool false)) w9)))))))))))))))))))))))))))) :
    Calls Try.prog 6 #[(.slice A0 n1 n2), (.slice A3 n4 n5)] w0 R :=
  Go.Sx.fn_sound0 (P := Try.prog) (S := S) (w0 := w0) (R := R) (ws := []) (an := [⟨999998, [], [], 0⟩]) (f := 6) (n := 6) (xs := [.one (.slice (.var 0) (.var 1) (.var 2)), .one (.slice (.var 3) (.var 4) (.var 5))]) (e := [.a A0, .n n1, .n n2, .a A3, .n n4, .n n5]) rfl (by kernel_rfl) (Eq.mp (by kernel_rfl) h)


end Go.Proofs.Ytdjjfpcfclheiaa
