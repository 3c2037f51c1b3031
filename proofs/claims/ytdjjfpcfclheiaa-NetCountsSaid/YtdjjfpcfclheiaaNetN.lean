/- Net: what is left of the law NetCounts. -/
import Derived.Test.YtdjjfpcfclheiaaProg
import Derived.Test.YtdjjfpcfclheiaaSs
import Derived.KernelRfl
set_option linter.unusedVariables false
namespace Go.Proofs.Ytdjjfpcfclheiaa
open Go Go.RowKit Go.Proofs Go.Trc
set_option maxRecDepth 100000
/-- tracery/tracerylaw21.NetCounts: what is left of it. -/
theorem netCounts_sx (R : Ending → World → Prop) (S : Nat → Prop) (w0 : World) (A0 : Option Addr) (n1 : Nat) (n2 : Nat) (h :
 (
 Calls Try.prog 24 #[] w0 fun r w1 => ∃ b3 : Bool, r = .returned (.bool b3) ∧ (Go.Sx.Fr S w0 w1 ∧ Go.Sx.Mild [] w0 w1) ∧ 
 (
 Calls Try.prog 25 #[] w1 fun r w2 => ∃ v4 : Value, r = .returned (v4) ∧ (Go.Sx.Fr S w0 w2 ∧ Go.Sx.Mild [] w1 w2) ∧ 
 ((b3 = false →
 (R (.returned (.bool false)) w2)) ∧
 (b3 = true →
 (∃ b5 : Bool, (binOp .eql 43 (v4) (.pointer none)).run Try.prog w2 = .ok (.bool b5) w2 ∧
  ((b5 = true →
  (R (.returned (.bool false)) w2)) ∧
  (b5 = false →
  (∃ (I0 : Bool → Int → World → Prop) (M0 : Bool → Int → World → Nat), (I0 false (0 : Int) w2) ∧
   ∀ b6 : Bool, ∀ i7 : Int, ∀ w3 : World, Go.Sx.Fr S w0 w3 → I0 b6 i7 w3 → 
    ((i7 < (n1 : Int) →
    ((i7 < (80 : Int) →
     ((0 : Int) ≤ i7 ∧ i7 < (n1 : Int) ∧ ∃ p8 : Nat, ∃ o9 : Nat, A0 = some ⟨p8, o9, none⟩ ∧
      (∃ i10 : Int, Go.Sx.CellsAt w3 p8 (o9 + (i7).toNat * 4 + 0) [.int .i64 i10] ∧ 
      (((bits .and .i64 i10 (7 : Int)) = (3 : Int) →
      ((0 : Int) ≤ i7 ∧ i7 < (n1 : Int) ∧ ∃ p11 : Nat, ∃ o12 : Nat, A0 = some ⟨p11, o12, none⟩ ∧
       (∃ i13 : Int, Go.Sx.CellsAt w3 p11 (o12 + (i7).toNat * 4 + 1) [.int .i64 i13] ∧ 
       (
       Calls Try.prog 33 #[(v4), (.int .i64 i13)] w3 fun r w4 => ∃ i14 : Int, ∃ i15 : Int, ∃ i16 : Int, ∃ i17 : Int, ∃ i18 : Int, ∃ i19 : Int, ∃ A20 : Option Addr, ∃ n21 : Nat, ∃ n22 : Nat, ∃ i23 : Int, r = .returned (.tuple #[.agg #[.int .i64 i14, .int .i64 i15, .int .i64 i16, .int .i64 i17, .int .i64 i18, .int .i64 i19, .slice A20 n21 n22], .int .i64 i23]) ∧ (Go.Sx.Fr S w0 w4 ∧ Go.Sx.Mild [] w3 w4) ∧ 
       (
       Calls Try.prog 36 #[(v4)] w4 fun r w5 => ∃ A24 : Option Addr, ∃ n25 : Nat, ∃ n26 : Nat, r = .returned (.slice A24 n25 n26) ∧ (Go.Sx.Fr S w0 w5 ∧ Go.Sx.Mild [] w4 w5) ∧ 
       (∃ T27 : List Nat, (∀ b ∈ T27, b < w5.heap.size ∧ b ∉ []) ∧
       ((¬ (n25 : Int) = (6 : Int) →
       (∀ w6 : World, Go.Sx.Fr S w0 w6 → Below w5.heap.size w5 w6 → R (.returned (.bool false)) w6)) ∧
       ((n25 : Int) = (6 : Int) →
       ((0 : Int) ≤ (0 : Int) ∧ (0 : Int) < (n25 : Int) ∧ ∃ p28 : Nat, ∃ o29 : Nat, A24 = some ⟨p28, o29, none⟩ ∧
        (∀ w6 : World, Go.Sx.Fr S w0 w6 → Below w5.heap.size w5 w6 → ∃ i30 : Int, Go.Sx.CellsAt w6 p28 (o29 + ((0 : Int)).toNat * 1 + 0) [.int .i64 i30] ∧ (p28 < w5.heap.size ∧ p28 ∉ (T27 ++ [])) ∧ 
        ((0 : Int) ≤ (5 : Int) ∧ (5 : Int) < (n25 : Int) ∧ ∃ p31 : Nat, ∃ o32 : Nat, A24 = some ⟨p31, o32, none⟩ ∧
        (∃ i33 : Int, Go.Sx.CellsAt w6 p31 (o32 + ((5 : Int)).toNat * 1 + 0) [.int .i64 i33] ∧ (p31 < w5.heap.size ∧ p31 ∉ (T27 ++ [])) ∧ 
        ((0 : Int) ≤ (2 : Int) ∧ (2 : Int) < (n25 : Int) ∧ ∃ p34 : Nat, ∃ o35 : Nat, A24 = some ⟨p34, o35, none⟩ ∧
        (∃ i36 : Int, Go.Sx.CellsAt w6 p34 (o35 + ((2 : Int)).toNat * 1 + 0) [.int .i64 i36] ∧ (p34 < w5.heap.size ∧ p34 ∉ (T27 ++ [])) ∧ 
        ((0 : Int) ≤ (3 : Int) ∧ (3 : Int) < (n25 : Int) ∧ ∃ p37 : Nat, ∃ o38 : Nat, A24 = some ⟨p37, o38, none⟩ ∧
        (∃ i39 : Int, Go.Sx.CellsAt w6 p37 (o38 + ((3 : Int)).toNat * 1 + 0) [.int .i64 i39] ∧ (p37 < w5.heap.size ∧ p37 ∉ (T27 ++ [])) ∧ 
        ((0 : Int) ≤ (4 : Int) ∧ (4 : Int) < (n25 : Int) ∧ ∃ p40 : Nat, ∃ o41 : Nat, A24 = some ⟨p40, o41, none⟩ ∧
        (∃ i42 : Int, Go.Sx.CellsAt w6 p40 (o41 + ((4 : Int)).toNat * 1 + 0) [.int .i64 i42] ∧ (p40 < w5.heap.size ∧ p40 ∉ (T27 ++ [])) ∧ 
        (
        Calls Try.prog 29 #[(v4)] w6 fun r w7 => ∃ i43 : Int, r = .returned (.int .i64 i43) ∧ (Go.Sx.Fr S w0 w7 ∧ Go.Sx.Mild [] w6 w7) ∧ Go.Sx.Keep w5.heap.size (T27 ++ []) w6 w7 ∧ 
        ((¬ (IntKind.i64.wrap (i30 + i33)) = (IntKind.i64.wrap ((IntKind.i64.wrap ((IntKind.i64.wrap (i43 + i36)) + i39)) + i42)) →
        (R (.returned (.bool false)) w7)) ∧
        ((IntKind.i64.wrap (i30 + i33)) = (IntKind.i64.wrap ((IntKind.i64.wrap ((IntKind.i64.wrap (i43 + i36)) + i39)) + i42)) →
        (
         Calls Try.prog 29 #[(v4)] w7 fun r w8 => ∃ i44 : Int, r = .returned (.int .i64 i44) ∧ (Go.Sx.Fr S w0 w8 ∧ Go.Sx.Mild [] w7 w8) ∧ 
         (((4096 : Int) < i44 →
         (R (.returned (.bool false)) w8)) ∧
         (i44 ≤ (4096 : Int) →
         (
          Calls Try.prog 29 #[(v4)] w8 fun r w9 => ∃ i45 : Int, r = .returned (.int .i64 i45) ∧ (Go.Sx.Fr S w0 w9 ∧ Go.Sx.Mild [] w8 w9) ∧ 
          ((i45 < (0 : Int) →
          (R (.returned (.bool false)) w9)) ∧
          ((0 : Int) ≤ i45 →
          (I0 b6 (IntKind.i64.wrap (i7 + (1 : Int))) w9 ∧ M0 b6 (IntKind.i64.wrap (i7 + (1 : Int))) w9 < M0 b6 i7 w3)))))))))))))))))))))))))))) ∧
      (¬ (bits .and .i64 i10 (7 : Int)) = (3 : Int) →
      (((bits .and .i64 i10 (7 : Int)) = (4 : Int) →
       ((0 : Int) ≤ i7 ∧ i7 < (n1 : Int) ∧ ∃ p11 : Nat, ∃ o12 : Nat, A0 = some ⟨p11, o12, none⟩ ∧
        (∃ i13 : Int, Go.Sx.CellsAt w3 p11 (o12 + (i7).toNat * 4 + 1) [.int .i64 i13] ∧ 
        (
        Calls Try.prog 30 #[(v4), (.int .i64 i13)] w3 fun r w4 => ∃ i14 : Int, r = .returned (.int .i64 i14) ∧ (Go.Sx.Fr S w0 w4 ∧ Go.Sx.Mild [] w3 w4) ∧ 
        (
        Calls Try.prog 36 #[(v4)] w4 fun r w5 => ∃ A15 : Option Addr, ∃ n16 : Nat, ∃ n17 : Nat, r = .returned (.slice A15 n16 n17) ∧ (Go.Sx.Fr S w0 w5 ∧ Go.Sx.Mild [] w4 w5) ∧ 
        (∃ T18 : List Nat, (∀ b ∈ T18, b < w5.heap.size ∧ b ∉ []) ∧
        ((¬ (n16 : Int) = (6 : Int) →
        (∀ w6 : World, Go.Sx.Fr S w0 w6 → Below w5.heap.size w5 w6 → R (.returned (.bool false)) w6)) ∧
        ((n16 : Int) = (6 : Int) →
        ((0 : Int) ≤ (0 : Int) ∧ (0 : Int) < (n16 : Int) ∧ ∃ p19 : Nat, ∃ o20 : Nat, A15 = some ⟨p19, o20, none⟩ ∧
         (∀ w6 : World, Go.Sx.Fr S w0 w6 → Below w5.heap.size w5 w6 → ∃ i21 : Int, Go.Sx.CellsAt w6 p19 (o20 + ((0 : Int)).toNat * 1 + 0) [.int .i64 i21] ∧ (p19 < w5.heap.size ∧ p19 ∉ (T18 ++ [])) ∧ 
         ((0 : Int) ≤ (5 : Int) ∧ (5 : Int) < (n16 : Int) ∧ ∃ p22 : Nat, ∃ o23 : Nat, A15 = some ⟨p22, o23, none⟩ ∧
         (∃ i24 : Int, Go.Sx.CellsAt w6 p22 (o23 + ((5 : Int)).toNat * 1 + 0) [.int .i64 i24] ∧ (p22 < w5.heap.size ∧ p22 ∉ (T18 ++ [])) ∧ 
         ((0 : Int) ≤ (2 : Int) ∧ (2 : Int) < (n16 : Int) ∧ ∃ p25 : Nat, ∃ o26 : Nat, A15 = some ⟨p25, o26, none⟩ ∧
         (∃ i27 : Int, Go.Sx.CellsAt w6 p25 (o26 + ((2 : Int)).toNat * 1 + 0) [.int .i64 i27] ∧ (p25 < w5.heap.size ∧ p25 ∉ (T18 ++ [])) ∧ 
         ((0 : Int) ≤ (3 : Int) ∧ (3 : Int) < (n16 : Int) ∧ ∃ p28 : Nat, ∃ o29 : Nat, A15 = some ⟨p28, o29, none⟩ ∧
         (∃ i30 : Int, Go.Sx.CellsAt w6 p28 (o29 + ((3 : Int)).toNat * 1 + 0) [.int .i64 i30] ∧ (p28 < w5.heap.size ∧ p28 ∉ (T18 ++ [])) ∧ 
         ((0 : Int) ≤ (4 : Int) ∧ (4 : Int) < (n16 : Int) ∧ ∃ p31 : Nat, ∃ o32 : Nat, A15 = some ⟨p31, o32, none⟩ ∧
         (∃ i33 : Int, Go.Sx.CellsAt w6 p31 (o32 + ((4 : Int)).toNat * 1 + 0) [.int .i64 i33] ∧ (p31 < w5.heap.size ∧ p31 ∉ (T18 ++ [])) ∧ 
         (
         Calls Try.prog 29 #[(v4)] w6 fun r w7 => ∃ i34 : Int, r = .returned (.int .i64 i34) ∧ (Go.Sx.Fr S w0 w7 ∧ Go.Sx.Mild [] w6 w7) ∧ Go.Sx.Keep w5.heap.size (T18 ++ []) w6 w7 ∧ 
         ((¬ (IntKind.i64.wrap (i21 + i24)) = (IntKind.i64.wrap ((IntKind.i64.wrap ((IntKind.i64.wrap (i34 + i27)) + i30)) + i33)) →
         (R (.returned (.bool false)) w7)) ∧
         ((IntKind.i64.wrap (i21 + i24)) = (IntKind.i64.wrap ((IntKind.i64.wrap ((IntKind.i64.wrap (i34 + i27)) + i30)) + i33)) →
         (
          Calls Try.prog 29 #[(v4)] w7 fun r w8 => ∃ i35 : Int, r = .returned (.int .i64 i35) ∧ (Go.Sx.Fr S w0 w8 ∧ Go.Sx.Mild [] w7 w8) ∧ 
          (((4096 : Int) < i35 →
          (R (.returned (.bool false)) w8)) ∧
          (i35 ≤ (4096 : Int) →
          (
           Calls Try.prog 29 #[(v4)] w8 fun r w9 => ∃ i36 : Int, r = .returned (.int .i64 i36) ∧ (Go.Sx.Fr S w0 w9 ∧ Go.Sx.Mild [] w8 w9) ∧ 
           ((i36 < (0 : Int) →
           (R (.returned (.bool false)) w9)) ∧
           ((0 : Int) ≤ i36 →
           (I0 b6 (IntKind.i64.wrap (i7 + (1 : Int))) w9 ∧ M0 b6 (IntKind.i64.wrap (i7 + (1 : Int))) w9 < M0 b6 i7 w3)))))))))))))))))))))))))))) ∧
       (¬ (bits .and .i64 i10 (7 : Int)) = (4 : Int) →
       (((bits .and .i64 i10 (7 : Int)) = (5 : Int) →
        ((0 : Int) ≤ i7 ∧ i7 < (n1 : Int) ∧ ∃ p11 : Nat, ∃ o12 : Nat, A0 = some ⟨p11, o12, none⟩ ∧
         (∃ i13 : Int, Go.Sx.CellsAt w3 p11 (o12 + (i7).toNat * 4 + 1) [.int .i64 i13] ∧ 
         (
         Calls Try.prog 34 #[(v4), (.int .i64 i13)] w3 fun r w4 => ∃ i14 : Int, r = .returned (.int .i64 i14) ∧ (Go.Sx.Fr S w0 w4 ∧ Go.Sx.Mild [] w3 w4) ∧ 
         (
         Calls Try.prog 36 #[(v4)] w4 fun r w5 => ∃ A15 : Option Addr, ∃ n16 : Nat, ∃ n17 : Nat, r = .returned (.slice A15 n16 n17) ∧ (Go.Sx.Fr S w0 w5 ∧ Go.Sx.Mild [] w4 w5) ∧ 
         (∃ T18 : List Nat, (∀ b ∈ T18, b < w5.heap.size ∧ b ∉ []) ∧
         ((¬ (n16 : Int) = (6 : Int) →
         (∀ w6 : World, Go.Sx.Fr S w0 w6 → Below w5.heap.size w5 w6 → R (.returned (.bool false)) w6)) ∧
         ((n16 : Int) = (6 : Int) →
         ((0 : Int) ≤ (0 : Int) ∧ (0 : Int) < (n16 : Int) ∧ ∃ p19 : Nat, ∃ o20 : Nat, A15 = some ⟨p19, o20, none⟩ ∧
          (∀ w6 : World, Go.Sx.Fr S w0 w6 → Below w5.heap.size w5 w6 → ∃ i21 : Int, Go.Sx.CellsAt w6 p19 (o20 + ((0 : Int)).toNat * 1 + 0) [.int .i64 i21] ∧ (p19 < w5.heap.size ∧ p19 ∉ (T18 ++ [])) ∧ 
          ((0 : Int) ≤ (5 : Int) ∧ (5 : Int) < (n16 : Int) ∧ ∃ p22 : Nat, ∃ o23 : Nat, A15 = some ⟨p22, o23, none⟩ ∧
          (∃ i24 : Int, Go.Sx.CellsAt w6 p22 (o23 + ((5 : Int)).toNat * 1 + 0) [.int .i64 i24] ∧ (p22 < w5.heap.size ∧ p22 ∉ (T18 ++ [])) ∧ 
          ((0 : Int) ≤ (2 : Int) ∧ (2 : Int) < (n16 : Int) ∧ ∃ p25 : Nat, ∃ o26 : Nat, A15 = some ⟨p25, o26, none⟩ ∧
          (∃ i27 : Int, Go.Sx.CellsAt w6 p25 (o26 + ((2 : Int)).toNat * 1 + 0) [.int .i64 i27] ∧ (p25 < w5.heap.size ∧ p25 ∉ (T18 ++ [])) ∧ 
          ((0 : Int) ≤ (3 : Int) ∧ (3 : Int) < (n16 : Int) ∧ ∃ p28 : Nat, ∃ o29 : Nat, A15 = some ⟨p28, o29, none⟩ ∧
          (∃ i30 : Int, Go.Sx.CellsAt w6 p28 (o29 + ((3 : Int)).toNat * 1 + 0) [.int .i64 i30] ∧ (p28 < w5.heap.size ∧ p28 ∉ (T18 ++ [])) ∧ 
          ((0 : Int) ≤ (4 : Int) ∧ (4 : Int) < (n16 : Int) ∧ ∃ p31 : Nat, ∃ o32 : Nat, A15 = some ⟨p31, o32, none⟩ ∧
          (∃ i33 : Int, Go.Sx.CellsAt w6 p31 (o32 + ((4 : Int)).toNat * 1 + 0) [.int .i64 i33] ∧ (p31 < w5.heap.size ∧ p31 ∉ (T18 ++ [])) ∧ 
          (
          Calls Try.prog 29 #[(v4)] w6 fun r w7 => ∃ i34 : Int, r = .returned (.int .i64 i34) ∧ (Go.Sx.Fr S w0 w7 ∧ Go.Sx.Mild [] w6 w7) ∧ Go.Sx.Keep w5.heap.size (T18 ++ []) w6 w7 ∧ 
          ((¬ (IntKind.i64.wrap (i21 + i24)) = (IntKind.i64.wrap ((IntKind.i64.wrap ((IntKind.i64.wrap (i34 + i27)) + i30)) + i33)) →
          (R (.returned (.bool false)) w7)) ∧
          ((IntKind.i64.wrap (i21 + i24)) = (IntKind.i64.wrap ((IntKind.i64.wrap ((IntKind.i64.wrap (i34 + i27)) + i30)) + i33)) →
          (
           Calls Try.prog 29 #[(v4)] w7 fun r w8 => ∃ i35 : Int, r = .returned (.int .i64 i35) ∧ (Go.Sx.Fr S w0 w8 ∧ Go.Sx.Mild [] w7 w8) ∧ 
           (((4096 : Int) < i35 →
           (R (.returned (.bool false)) w8)) ∧
           (i35 ≤ (4096 : Int) →
           (
            Calls Try.prog 29 #[(v4)] w8 fun r w9 => ∃ i36 : Int, r = .returned (.int .i64 i36) ∧ (Go.Sx.Fr S w0 w9 ∧ Go.Sx.Mild [] w8 w9) ∧ 
            ((i36 < (0 : Int) →
            (R (.returned (.bool false)) w9)) ∧
            ((0 : Int) ≤ i36 →
            (I0 b6 (IntKind.i64.wrap (i7 + (1 : Int))) w9 ∧ M0 b6 (IntKind.i64.wrap (i7 + (1 : Int))) w9 < M0 b6 i7 w3)))))))))))))))))))))))))))) ∧
        (¬ (bits .and .i64 i10 (7 : Int)) = (5 : Int) →
        (((bits .and .i64 i10 (7 : Int)) = (6 : Int) →
         (∃ T11 : List Nat, (∀ b ∈ T11, b < w3.heap.size ∧ b ∉ []) ∧
          ((0 : Int) ≤ i7 ∧ i7 < (n1 : Int) ∧ ∃ p12 : Nat, ∃ o13 : Nat, A0 = some ⟨p12, o13, none⟩ ∧
          (∀ w4 : World, Go.Sx.Fr S w0 w4 → Below w3.heap.size w3 w4 → ∃ i14 : Int, Go.Sx.CellsAt w4 p12 (o13 + (i7).toNat * 4 + 1) [.int .i64 i14] ∧ (p12 < w3.heap.size ∧ p12 ∉ (T11 ++ [])) ∧ 
          ((0 : Int) ≤ i7 ∧ i7 < (n1 : Int) ∧ ∃ p15 : Nat, ∃ o16 : Nat, A0 = some ⟨p15, o16, none⟩ ∧
          (∃ i17 : Int, Go.Sx.CellsAt w4 p15 (o16 + (i7).toNat * 4 + 2) [.int .i64 i17] ∧ (p15 < w3.heap.size ∧ p15 ∉ (T11 ++ [])) ∧ 
          (
          Calls Try.prog 35 #[(v4), (.int .i64 i14), (.int .i64 i17)] w4 fun r w5 => ∃ i18 : Int, r = .returned (.int .i64 i18) ∧ (Go.Sx.Fr S w0 w5 ∧ Go.Sx.Mild [] w4 w5) ∧ 
          (
          Calls Try.prog 36 #[(v4)] w5 fun r w6 => ∃ A19 : Option Addr, ∃ n20 : Nat, ∃ n21 : Nat, r = .returned (.slice A19 n20 n21) ∧ (Go.Sx.Fr S w0 w6 ∧ Go.Sx.Mild [] w5 w6) ∧ 
          (∃ T22 : List Nat, (∀ b ∈ T22, b < w6.heap.size ∧ b ∉ []) ∧
          ((¬ (n20 : Int) = (6 : Int) →
          (∀ w7 : World, Go.Sx.Fr S w0 w7 → Below w6.heap.size w6 w7 → R (.returned (.bool false)) w7)) ∧
          ((n20 : Int) = (6 : Int) →
          ((0 : Int) ≤ (0 : Int) ∧ (0 : Int) < (n20 : Int) ∧ ∃ p23 : Nat, ∃ o24 : Nat, A19 = some ⟨p23, o24, none⟩ ∧
           (∀ w7 : World, Go.Sx.Fr S w0 w7 → Below w6.heap.size w6 w7 → ∃ i25 : Int, Go.Sx.CellsAt w7 p23 (o24 + ((0 : Int)).toNat * 1 + 0) [.int .i64 i25] ∧ (p23 < w6.heap.size ∧ p23 ∉ (T22 ++ [])) ∧ 
           ((0 : Int) ≤ (5 : Int) ∧ (5 : Int) < (n20 : Int) ∧ ∃ p26 : Nat, ∃ o27 : Nat, A19 = some ⟨p26, o27, none⟩ ∧
           (∃ i28 : Int, Go.Sx.CellsAt w7 p26 (o27 + ((5 : Int)).toNat * 1 + 0) [.int .i64 i28] ∧ (p26 < w6.heap.size ∧ p26 ∉ (T22 ++ [])) ∧ 
           ((0 : Int) ≤ (2 : Int) ∧ (2 : Int) < (n20 : Int) ∧ ∃ p29 : Nat, ∃ o30 : Nat, A19 = some ⟨p29, o30, none⟩ ∧
           (∃ i31 : Int, Go.Sx.CellsAt w7 p29 (o30 + ((2 : Int)).toNat * 1 + 0) [.int .i64 i31] ∧ (p29 < w6.heap.size ∧ p29 ∉ (T22 ++ [])) ∧ 
           ((0 : Int) ≤ (3 : Int) ∧ (3 : Int) < (n20 : Int) ∧ ∃ p32 : Nat, ∃ o33 : Nat, A19 = some ⟨p32, o33, none⟩ ∧
           (∃ i34 : Int, Go.Sx.CellsAt w7 p32 (o33 + ((3 : Int)).toNat * 1 + 0) [.int .i64 i34] ∧ (p32 < w6.heap.size ∧ p32 ∉ (T22 ++ [])) ∧ 
           ((0 : Int) ≤ (4 : Int) ∧ (4 : Int) < (n20 : Int) ∧ ∃ p35 : Nat, ∃ o36 : Nat, A19 = some ⟨p35, o36, none⟩ ∧
           (∃ i37 : Int, Go.Sx.CellsAt w7 p35 (o36 + ((4 : Int)).toNat * 1 + 0) [.int .i64 i37] ∧ (p35 < w6.heap.size ∧ p35 ∉ (T22 ++ [])) ∧ 
           (
           Calls Try.prog 29 #[(v4)] w7 fun r w8 => ∃ i38 : Int, r = .returned (.int .i64 i38) ∧ (Go.Sx.Fr S w0 w8 ∧ Go.Sx.Mild [] w7 w8) ∧ Go.Sx.Keep w6.heap.size (T22 ++ []) w7 w8 ∧ 
           ((¬ (IntKind.i64.wrap (i25 + i28)) = (IntKind.i64.wrap ((IntKind.i64.wrap ((IntKind.i64.wrap (i38 + i31)) + i34)) + i37)) →
           (R (.returned (.bool false)) w8)) ∧
           ((IntKind.i64.wrap (i25 + i28)) = (IntKind.i64.wrap ((IntKind.i64.wrap ((IntKind.i64.wrap (i38 + i31)) + i34)) + i37)) →
           (
            Calls Try.prog 29 #[(v4)] w8 fun r w9 => ∃ i39 : Int, r = .returned (.int .i64 i39) ∧ (Go.Sx.Fr S w0 w9 ∧ Go.Sx.Mild [] w8 w9) ∧ 
            (((4096 : Int) < i39 →
            (R (.returned (.bool false)) w9)) ∧
            (i39 ≤ (4096 : Int) →
            (
             Calls Try.prog 29 #[(v4)] w9 fun r w10 => ∃ i40 : Int, r = .returned (.int .i64 i40) ∧ (Go.Sx.Fr S w0 w10 ∧ Go.Sx.Mild [] w9 w10) ∧ 
             ((i40 < (0 : Int) →
             (R (.returned (.bool false)) w10)) ∧
             ((0 : Int) ≤ i40 →
             (I0 b6 (IntKind.i64.wrap (i7 + (1 : Int))) w10 ∧ M0 b6 (IntKind.i64.wrap (i7 + (1 : Int))) w10 < M0 b6 i7 w3))))))))))))))))))))))))))))))) ∧
         (¬ (bits .and .i64 i10 (7 : Int)) = (6 : Int) →
         (((bits .and .i64 i10 (7 : Int)) = (7 : Int) →
          ((0 : Int) ≤ i7 ∧ i7 < (n1 : Int) ∧ ∃ p11 : Nat, ∃ o12 : Nat, A0 = some ⟨p11, o12, none⟩ ∧
           (∃ i13 : Int, Go.Sx.CellsAt w3 p11 (o12 + (i7).toNat * 4 + 1) [.int .i64 i13] ∧ 
           (
           Calls Try.prog 31 #[(v4), (.int .i64 i13)] w3 fun r w4 => ∃ i14 : Int, ∃ i15 : Int, ∃ i16 : Int, ∃ i17 : Int, ∃ i18 : Int, ∃ i19 : Int, ∃ A20 : Option Addr, ∃ n21 : Nat, ∃ n22 : Nat, ∃ i23 : Int, r = .returned (.tuple #[.agg #[.int .i64 i14, .int .i64 i15, .int .i64 i16, .int .i64 i17, .int .i64 i18, .int .i64 i19, .slice A20 n21 n22], .int .i64 i23]) ∧ (Go.Sx.Fr S w0 w4 ∧ Go.Sx.Mild [] w3 w4) ∧ 
           (
           Calls Try.prog 36 #[(v4)] w4 fun r w5 => ∃ A24 : Option Addr, ∃ n25 : Nat, ∃ n26 : Nat, r = .returned (.slice A24 n25 n26) ∧ (Go.Sx.Fr S w0 w5 ∧ Go.Sx.Mild [] w4 w5) ∧ 
           (∃ T27 : List Nat, (∀ b ∈ T27, b < w5.heap.size ∧ b ∉ []) ∧
           ((¬ (n25 : Int) = (6 : Int) →
           (∀ w6 : World, Go.Sx.Fr S w0 w6 → Below w5.heap.size w5 w6 → R (.returned (.bool false)) w6)) ∧
           ((n25 : Int) = (6 : Int) →
           ((0 : Int) ≤ (0 : Int) ∧ (0 : Int) < (n25 : Int) ∧ ∃ p28 : Nat, ∃ o29 : Nat, A24 = some ⟨p28, o29, none⟩ ∧
            (∀ w6 : World, Go.Sx.Fr S w0 w6 → Below w5.heap.size w5 w6 → ∃ i30 : Int, Go.Sx.CellsAt w6 p28 (o29 + ((0 : Int)).toNat * 1 + 0) [.int .i64 i30] ∧ (p28 < w5.heap.size ∧ p28 ∉ (T27 ++ [])) ∧ 
            ((0 : Int) ≤ (5 : Int) ∧ (5 : Int) < (n25 : Int) ∧ ∃ p31 : Nat, ∃ o32 : Nat, A24 = some ⟨p31, o32, none⟩ ∧
            (∃ i33 : Int, Go.Sx.CellsAt w6 p31 (o32 + ((5 : Int)).toNat * 1 + 0) [.int .i64 i33] ∧ (p31 < w5.heap.size ∧ p31 ∉ (T27 ++ [])) ∧ 
            ((0 : Int) ≤ (2 : Int) ∧ (2 : Int) < (n25 : Int) ∧ ∃ p34 : Nat, ∃ o35 : Nat, A24 = some ⟨p34, o35, none⟩ ∧
            (∃ i36 : Int, Go.Sx.CellsAt w6 p34 (o35 + ((2 : Int)).toNat * 1 + 0) [.int .i64 i36] ∧ (p34 < w5.heap.size ∧ p34 ∉ (T27 ++ [])) ∧ 
            ((0 : Int) ≤ (3 : Int) ∧ (3 : Int) < (n25 : Int) ∧ ∃ p37 : Nat, ∃ o38 : Nat, A24 = some ⟨p37, o38, none⟩ ∧
            (∃ i39 : Int, Go.Sx.CellsAt w6 p37 (o38 + ((3 : Int)).toNat * 1 + 0) [.int .i64 i39] ∧ (p37 < w5.heap.size ∧ p37 ∉ (T27 ++ [])) ∧ 
            ((0 : Int) ≤ (4 : Int) ∧ (4 : Int) < (n25 : Int) ∧ ∃ p40 : Nat, ∃ o41 : Nat, A24 = some ⟨p40, o41, none⟩ ∧
            (∃ i42 : Int, Go.Sx.CellsAt w6 p40 (o41 + ((4 : Int)).toNat * 1 + 0) [.int .i64 i42] ∧ (p40 < w5.heap.size ∧ p40 ∉ (T27 ++ [])) ∧ 
            (
            Calls Try.prog 29 #[(v4)] w6 fun r w7 => ∃ i43 : Int, r = .returned (.int .i64 i43) ∧ (Go.Sx.Fr S w0 w7 ∧ Go.Sx.Mild [] w6 w7) ∧ Go.Sx.Keep w5.heap.size (T27 ++ []) w6 w7 ∧ 
            ((¬ (IntKind.i64.wrap (i30 + i33)) = (IntKind.i64.wrap ((IntKind.i64.wrap ((IntKind.i64.wrap (i43 + i36)) + i39)) + i42)) →
            (R (.returned (.bool false)) w7)) ∧
            ((IntKind.i64.wrap (i30 + i33)) = (IntKind.i64.wrap ((IntKind.i64.wrap ((IntKind.i64.wrap (i43 + i36)) + i39)) + i42)) →
            (
             Calls Try.prog 29 #[(v4)] w7 fun r w8 => ∃ i44 : Int, r = .returned (.int .i64 i44) ∧ (Go.Sx.Fr S w0 w8 ∧ Go.Sx.Mild [] w7 w8) ∧ 
             (((4096 : Int) < i44 →
             (R (.returned (.bool false)) w8)) ∧
             (i44 ≤ (4096 : Int) →
             (
              Calls Try.prog 29 #[(v4)] w8 fun r w9 => ∃ i45 : Int, r = .returned (.int .i64 i45) ∧ (Go.Sx.Fr S w0 w9 ∧ Go.Sx.Mild [] w8 w9) ∧ 
              ((i45 < (0 : Int) →
              (R (.returned (.bool false)) w9)) ∧
              ((0 : Int) ≤ i45 →
              (I0 b6 (IntKind.i64.wrap (i7 + (1 : Int))) w9 ∧ M0 b6 (IntKind.i64.wrap (i7 + (1 : Int))) w9 < M0 b6 i7 w3)))))))))))))))))))))))))))) ∧
          (¬ (bits .and .i64 i10 (7 : Int)) = (7 : Int) →
          ((0 : Int) ≤ i7 ∧ i7 < (n1 : Int) ∧ ∃ p11 : Nat, ∃ o12 : Nat, A0 = some ⟨p11, o12, none⟩ ∧
           (∃ A13 : Option Addr, ∃ n14 : Nat, ∃ n15 : Nat, Go.Sx.CellsAt w3 p11 (o12 + (i7).toNat * 4 + 3) [.slice A13 n14 n15] ∧ 
           (
           Calls Try.prog 26 #[(.slice A13 n14 n15)] w3 fun r w4 => ∃ A16 : Option Addr, ∃ n17 : Nat, ∃ n18 : Nat, r = .returned (.slice A16 n17 n18) ∧ (Go.Sx.Fr S w0 w4 ∧ Go.Sx.Mild [] w3 w4) ∧ 
           (
           Calls Try.prog 27 #[(v4), (.slice A16 n17 n18)] w4 fun r w5 => ∃ i19 : Int, r = .returned (.int .i64 i19) ∧ (Go.Sx.Fr S w0 w5 ∧ Go.Sx.Mild [] w4 w5) ∧ 
           (
           Calls Try.prog 36 #[(v4)] w5 fun r w6 => ∃ A20 : Option Addr, ∃ n21 : Nat, ∃ n22 : Nat, r = .returned (.slice A20 n21 n22) ∧ (Go.Sx.Fr S w0 w6 ∧ Go.Sx.Mild [] w5 w6) ∧ 
           (∃ T23 : List Nat, (∀ b ∈ T23, b < w6.heap.size ∧ b ∉ []) ∧
           ((¬ (n21 : Int) = (6 : Int) →
           (∀ w7 : World, Go.Sx.Fr S w0 w7 → Below w6.heap.size w6 w7 → R (.returned (.bool false)) w7)) ∧
           ((n21 : Int) = (6 : Int) →
           ((0 : Int) ≤ (0 : Int) ∧ (0 : Int) < (n21 : Int) ∧ ∃ p24 : Nat, ∃ o25 : Nat, A20 = some ⟨p24, o25, none⟩ ∧
            (∀ w7 : World, Go.Sx.Fr S w0 w7 → Below w6.heap.size w6 w7 → ∃ i26 : Int, Go.Sx.CellsAt w7 p24 (o25 + ((0 : Int)).toNat * 1 + 0) [.int .i64 i26] ∧ (p24 < w6.heap.size ∧ p24 ∉ (T23 ++ [])) ∧ 
            ((0 : Int) ≤ (5 : Int) ∧ (5 : Int) < (n21 : Int) ∧ ∃ p27 : Nat, ∃ o28 : Nat, A20 = some ⟨p27, o28, none⟩ ∧
            (∃ i29 : Int, Go.Sx.CellsAt w7 p27 (o28 + ((5 : Int)).toNat * 1 + 0) [.int .i64 i29] ∧ (p27 < w6.heap.size ∧ p27 ∉ (T23 ++ [])) ∧ 
            ((0 : Int) ≤ (2 : Int) ∧ (2 : Int) < (n21 : Int) ∧ ∃ p30 : Nat, ∃ o31 : Nat, A20 = some ⟨p30, o31, none⟩ ∧
            (∃ i32 : Int, Go.Sx.CellsAt w7 p30 (o31 + ((2 : Int)).toNat * 1 + 0) [.int .i64 i32] ∧ (p30 < w6.heap.size ∧ p30 ∉ (T23 ++ [])) ∧ 
            ((0 : Int) ≤ (3 : Int) ∧ (3 : Int) < (n21 : Int) ∧ ∃ p33 : Nat, ∃ o34 : Nat, A20 = some ⟨p33, o34, none⟩ ∧
            (∃ i35 : Int, Go.Sx.CellsAt w7 p33 (o34 + ((3 : Int)).toNat * 1 + 0) [.int .i64 i35] ∧ (p33 < w6.heap.size ∧ p33 ∉ (T23 ++ [])) ∧ 
            ((0 : Int) ≤ (4 : Int) ∧ (4 : Int) < (n21 : Int) ∧ ∃ p36 : Nat, ∃ o37 : Nat, A20 = some ⟨p36, o37, none⟩ ∧
            (∃ i38 : Int, Go.Sx.CellsAt w7 p36 (o37 + ((4 : Int)).toNat * 1 + 0) [.int .i64 i38] ∧ (p36 < w6.heap.size ∧ p36 ∉ (T23 ++ [])) ∧ 
            (
            Calls Try.prog 29 #[(v4)] w7 fun r w8 => ∃ i39 : Int, r = .returned (.int .i64 i39) ∧ (Go.Sx.Fr S w0 w8 ∧ Go.Sx.Mild [] w7 w8) ∧ Go.Sx.Keep w6.heap.size (T23 ++ []) w7 w8 ∧ 
            ((¬ (IntKind.i64.wrap (i26 + i29)) = (IntKind.i64.wrap ((IntKind.i64.wrap ((IntKind.i64.wrap (i39 + i32)) + i35)) + i38)) →
            (R (.returned (.bool false)) w8)) ∧
            ((IntKind.i64.wrap (i26 + i29)) = (IntKind.i64.wrap ((IntKind.i64.wrap ((IntKind.i64.wrap (i39 + i32)) + i35)) + i38)) →
            (
             Calls Try.prog 29 #[(v4)] w8 fun r w9 => ∃ i40 : Int, r = .returned (.int .i64 i40) ∧ (Go.Sx.Fr S w0 w9 ∧ Go.Sx.Mild [] w8 w9) ∧ 
             (((4096 : Int) < i40 →
             (R (.returned (.bool false)) w9)) ∧
             (i40 ≤ (4096 : Int) →
             (
              Calls Try.prog 29 #[(v4)] w9 fun r w10 => ∃ i41 : Int, r = .returned (.int .i64 i41) ∧ (Go.Sx.Fr S w0 w10 ∧ Go.Sx.Mild [] w9 w10) ∧ 
              ((i41 < (0 : Int) →
              (R (.returned (.bool false)) w10)) ∧
              ((0 : Int) ≤ i41 →
              (I0 b6 (IntKind.i64.wrap (i7 + (1 : Int))) w10 ∧ M0 b6 (IntKind.i64.wrap (i7 + (1 : Int))) w10 < M0 b6 i7 w3))))))))))))))))))))))))))))))))))))))))) ∧
     ((80 : Int) ≤ i7 →
     (R (.returned (.bool true)) w3)))) ∧
    ((n1 : Int) ≤ i7 →
    (R (.returned (.bool true)) w3)))))))))))) :
    Calls Try.prog 9 #[(.slice A0 n1 n2)] w0 R :=
  Go.Sx.fn_sound0 (P := Try.prog) (S := S) (w0 := w0) (R := R) (ws := []) (an := [⟨999998, [], [], 0⟩, ⟨999999, [], [], 0⟩]) (f := 9) (n := 3) (xs := [.one (.slice (.var 0) (.var 1) (.var 2))]) (e := [.a A0, .n n1, .n n2]) rfl (by kernel_rfl) (Eq.mp (by kernel_rfl) h)


end Go.Proofs.Ytdjjfpcfclheiaa
