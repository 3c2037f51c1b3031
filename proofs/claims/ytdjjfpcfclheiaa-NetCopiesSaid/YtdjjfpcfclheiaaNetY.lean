/- Net: what is left of the law NetCopies. -/
import Derived.Test.YtdjjfpcfclheiaaProg
import Derived.Test.YtdjjfpcfclheiaaSs
import Derived.KernelRfl
set_option linter.unusedVariables false
namespace Go.Proofs.Ytdjjfpcfclheiaa
open Go Go.RowKit Go.Proofs Go.Trc
set_option maxRecDepth 100000
/-- tracery/tracerylaw21.NetCopies: what is left of it. -/
theorem netCopies_sx (R : Ending → World → Prop) (S : Nat → Prop) (w0 : World) (A0 : Option Addr) (n1 : Nat) (n2 : Nat) (A3 : Option Addr) (n4 : Nat) (n5 : Nat) (h :
 (
 Calls Try.prog 24 #[] w0 fun r w1 => ∃ b6 : Bool, r = .returned (.bool b6) ∧ (Go.Sx.Fr S w0 w1 ∧ Go.Sx.Mild [] w0 w1) ∧ 
 (
 Calls Try.prog 25 #[] w1 fun r w2 => ∃ v7 : Value, r = .returned (v7) ∧ (Go.Sx.Fr S w0 w2 ∧ Go.Sx.Mild [] w1 w2) ∧ 
 (
 Calls Try.prog 25 #[] w2 fun r w3 => ∃ v8 : Value, r = .returned (v8) ∧ (Go.Sx.Fr S w0 w3 ∧ Go.Sx.Mild [] w2 w3) ∧ 
 ∀ g9 : Nat, w0.heap.size ≤ g9 → ((b6 = false →
 (∀ w4 : World, Go.Sx.Fr S w0 w4 → Below w3.heap.size w3 w4 → w3.heap.size ≤ g9 → w4.heap[g9]? = some (.cells #[.slice none 0 0, .int .i64 (0 : Int), .int .i64 (0 : Int), .int .i64 (0 : Int), .int .i64 (0 : Int), .int .i64 (0 : Int), .int .i64 (0 : Int)] 65 (0, 0)) → R (.returned (.bool false)) w4)) ∧
 (b6 = true →
 (∀ w4 : World, Go.Sx.Fr S w0 w4 → Below w3.heap.size w3 w4 → w3.heap.size ≤ g9 → w4.heap[g9]? = some (.cells #[.slice none 0 0, .int .i64 (0 : Int), .int .i64 (0 : Int), .int .i64 (0 : Int), .int .i64 (0 : Int), .int .i64 (0 : Int), .int .i64 (0 : Int)] 65 (0, 0)) → ∃ b10 : Bool, (binOp .eql 43 (v7) (.pointer none)).run Try.prog w4 = .ok (.bool b10) w4 ∧
  ((b10 = true →
  (R (.returned (.bool false)) w4)) ∧
  (b10 = false →
  (∃ b11 : Bool, (binOp .eql 43 (v8) (.pointer none)).run Try.prog w4 = .ok (.bool b11) w4 ∧
   ((b11 = true →
   (R (.returned (.bool false)) w4)) ∧
   (b11 = false →
   (∃ (I0 : Bool → Int → Option Addr → Nat → Nat → Int → Int → Int → Int → Int → Int → World → Prop) (M0 : Bool → Int → Option Addr → Nat → Nat → Int → Int → Int → Int → Int → Int → World → Nat), (I0 false (0 : Int) none 0 0 (0 : Int) (0 : Int) (0 : Int) (0 : Int) (0 : Int) (0 : Int) w4) ∧
    ∀ b12 : Bool, ∀ i13 : Int, ∀ A14 : Option Addr, ∀ n15 : Nat, ∀ n16 : Nat, ∀ i17 : Int, ∀ i18 : Int, ∀ i19 : Int, ∀ i20 : Int, ∀ i21 : Int, ∀ i22 : Int, ∀ w5 : World, Go.Sx.Fr S w0 w5 → I0 b12 i13 A14 n15 n16 i17 i18 i19 i20 i21 i22 w5 → w5.heap[g9]? = some (.cells #[.slice A14 n15 n16, .int .i64 i17, .int .i64 i18, .int .i64 i19, .int .i64 i20, .int .i64 i21, .int .i64 i22] 65 (0, 0)) → 
     ((i13 < (n1 : Int) →
     ((i13 < (40 : Int) →
      ((0 : Int) ≤ i13 ∧ i13 < (n1 : Int) ∧ ∃ p23 : Nat, ∃ o24 : Nat, A0 = some ⟨p23, o24, none⟩ ∧
       (∃ i25 : Int, ∃ i26 : Int, ∃ i27 : Int, ∃ A28 : Option Addr, ∃ n29 : Nat, ∃ n30 : Nat, Go.Sx.CellsAt w5 p23 (o24 + (i13).toNat * 4 + 0) [.int .i64 i25, .int .i64 i26, .int .i64 i27, .slice A28 n29 n30] ∧ 
       (w5.heap[g9]? = some (.cells #[.slice A14 n15 n16, .int .i64 i17, .int .i64 i18, .int .i64 i19, .int .i64 i20, .int .i64 i21, .int .i64 i22] 65 (0, 0)) → 
       Calls Try.prog 38 #[(v7), (.pointer (some ⟨g9, 0, none⟩)), (.agg #[.int .i64 i25, .int .i64 i26, .int .i64 i27, .slice A28 n29 n30])] w5 fun r w6 => ∃ b31 : Bool, ∃ A32 : Option Addr, ∃ n33 : Nat, ∃ n34 : Nat, ∃ i35 : Int, ∃ i36 : Int, ∃ i37 : Int, ∃ i38 : Int, ∃ i39 : Int, ∃ i40 : Int, r = .returned (.bool b31) ∧ (Go.Sx.Fr S w0 w6 ∧ Go.Sx.Mild [] w5 w6) ∧ w6.heap[g9]? = some (.cells #[.slice A32 n33 n34, .int .i64 i35, .int .i64 i36, .int .i64 i37, .int .i64 i38, .int .i64 i39, .int .i64 i40] 65 (0, 0)) ∧ 
       ((b31 = false →
       (R (.returned (.bool false)) w6)) ∧
       (b31 = true →
       (I0 b12 (IntKind.i64.wrap (i13 + (1 : Int))) A32 n33 n34 i35 i36 i37 i38 i39 i40 w6 ∧ M0 b12 (IntKind.i64.wrap (i13 + (1 : Int))) A32 n33 n34 i35 i36 i37 i38 i39 i40 w6 < M0 b12 i13 A14 n15 n16 i17 i18 i19 i20 i21 i22 w5))))))) ∧
      ((40 : Int) ≤ i13 →
      ∀ g23 : Nat, w0.heap.size ≤ g23 → (∃ (I1 : Int → Option Addr → Nat → Nat → Int → Int → Int → Int → Int → Int → World → Prop) (M1 : Int → Option Addr → Nat → Nat → Int → Int → Int → Int → Int → Int → World → Nat), (∀ w6 : World, Go.Sx.Fr S w0 w6 → Below w5.heap.size w5 w6 → w5.heap.size ≤ g23 → w6.heap[g23]? = some (.cells #[.slice none 0 0, .int .i64 (0 : Int), .int .i64 (0 : Int), .int .i64 (0 : Int), .int .i64 (0 : Int), .int .i64 (0 : Int), .int .i64 (0 : Int)] 65 (0, 0)) → I1 (0 : Int) none 0 0 (0 : Int) (0 : Int) (0 : Int) (0 : Int) (0 : Int) (0 : Int) w6) ∧
       ∀ i24 : Int, ∀ A25 : Option Addr, ∀ n26 : Nat, ∀ n27 : Nat, ∀ i28 : Int, ∀ i29 : Int, ∀ i30 : Int, ∀ i31 : Int, ∀ i32 : Int, ∀ i33 : Int, ∀ w7 : World, Go.Sx.Fr S w0 w7 → I1 i24 A25 n26 n27 i28 i29 i30 i31 i32 i33 w7 → w7.heap[g23]? = some (.cells #[.slice A25 n26 n27, .int .i64 i28, .int .i64 i29, .int .i64 i30, .int .i64 i31, .int .i64 i32, .int .i64 i33] 65 (0, 0)) → 
        ((i24 < (n1 : Int) →
        ((i24 < (40 : Int) →
         ((0 : Int) ≤ i24 ∧ i24 < (n1 : Int) ∧ ∃ p34 : Nat, ∃ o35 : Nat, A0 = some ⟨p34, o35, none⟩ ∧
          (∃ i36 : Int, ∃ i37 : Int, ∃ i38 : Int, ∃ A39 : Option Addr, ∃ n40 : Nat, ∃ n41 : Nat, Go.Sx.CellsAt w7 p34 (o35 + (i24).toNat * 4 + 0) [.int .i64 i36, .int .i64 i37, .int .i64 i38, .slice A39 n40 n41] ∧ 
          (w7.heap[g23]? = some (.cells #[.slice A25 n26 n27, .int .i64 i28, .int .i64 i29, .int .i64 i30, .int .i64 i31, .int .i64 i32, .int .i64 i33] 65 (0, 0)) → 
          Calls Try.prog 38 #[(v8), (.pointer (some ⟨g23, 0, none⟩)), (.agg #[.int .i64 i36, .int .i64 i37, .int .i64 i38, .slice A39 n40 n41])] w7 fun r w8 => ∃ b42 : Bool, ∃ A43 : Option Addr, ∃ n44 : Nat, ∃ n45 : Nat, ∃ i46 : Int, ∃ i47 : Int, ∃ i48 : Int, ∃ i49 : Int, ∃ i50 : Int, ∃ i51 : Int, r = .returned (.bool b42) ∧ (Go.Sx.Fr S w0 w8 ∧ Go.Sx.Mild [g9] w7 w8) ∧ w8.heap[g23]? = some (.cells #[.slice A43 n44 n45, .int .i64 i46, .int .i64 i47, .int .i64 i48, .int .i64 i49, .int .i64 i50, .int .i64 i51] 65 (0, 0)) ∧ 
          (I1 (IntKind.i64.wrap (i24 + (1 : Int))) A43 n44 n45 i46 i47 i48 i49 i50 i51 w8 ∧ M1 (IntKind.i64.wrap (i24 + (1 : Int))) A43 n44 n45 i46 i47 i48 i49 i50 i51 w8 < M1 i24 A25 n26 n27 i28 i29 i30 i31 i32 i33 w7))))) ∧
         ((40 : Int) ≤ i24 →
         (
          Calls Try.prog 37 #[(v7)] w7 fun r w8 => ∃ v34 : Value, r = .returned (v34) ∧ (Go.Sx.Fr S w0 w8 ∧ Go.Sx.Mild [g23, g9] w7 w8) ∧ 
          (∃ b35 : Bool, (binOp .eql 43 (v34) (.pointer none)).run Try.prog w8 = .ok (.bool b35) w8 ∧
          ((b35 = true →
          (R (.returned (.bool false)) w8)) ∧
          (b35 = false →
          (∃ (I2 : Bool → Int → Option Addr → Nat → Nat → Int → Int → Int → Int → Int → Int → World → Prop) (M2 : Bool → Int → Option Addr → Nat → Nat → Int → Int → Int → Int → Int → Int → World → Nat), (I2 b12 (0 : Int) A14 n15 n16 i17 i18 i19 i20 i21 i22 w8) ∧
           ∀ b36 : Bool, ∀ i37 : Int, ∀ A38 : Option Addr, ∀ n39 : Nat, ∀ n40 : Nat, ∀ i41 : Int, ∀ i42 : Int, ∀ i43 : Int, ∀ i44 : Int, ∀ i45 : Int, ∀ i46 : Int, ∀ w9 : World, Go.Sx.Fr S w0 w9 → I2 b36 i37 A38 n39 n40 i41 i42 i43 i44 i45 i46 w9 → w9.heap[g9]? = some (.cells #[.slice A38 n39 n40, .int .i64 i41, .int .i64 i42, .int .i64 i43, .int .i64 i44, .int .i64 i45, .int .i64 i46] 65 (0, 0)) → 
            ((i37 < (n4 : Int) →
            ((i37 < (40 : Int) →
             ((0 : Int) ≤ i37 ∧ i37 < (n4 : Int) ∧ ∃ p47 : Nat, ∃ o48 : Nat, A3 = some ⟨p47, o48, none⟩ ∧
              (∃ i49 : Int, ∃ i50 : Int, ∃ i51 : Int, ∃ A52 : Option Addr, ∃ n53 : Nat, ∃ n54 : Nat, Go.Sx.CellsAt w9 p47 (o48 + (i37).toNat * 4 + 0) [.int .i64 i49, .int .i64 i50, .int .i64 i51, .slice A52 n53 n54] ∧ 
              (w9.heap[g9]? = some (.cells #[.slice A38 n39 n40, .int .i64 i41, .int .i64 i42, .int .i64 i43, .int .i64 i44, .int .i64 i45, .int .i64 i46] 65 (0, 0)) → 
              Calls Try.prog 38 #[(v34), (.pointer (some ⟨g9, 0, none⟩)), (.agg #[.int .i64 i49, .int .i64 i50, .int .i64 i51, .slice A52 n53 n54])] w9 fun r w10 => ∃ b55 : Bool, ∃ A56 : Option Addr, ∃ n57 : Nat, ∃ n58 : Nat, ∃ i59 : Int, ∃ i60 : Int, ∃ i61 : Int, ∃ i62 : Int, ∃ i63 : Int, ∃ i64 : Int, r = .returned (.bool b55) ∧ (Go.Sx.Fr S w0 w10 ∧ Go.Sx.Mild [g23] w9 w10) ∧ w10.heap[g9]? = some (.cells #[.slice A56 n57 n58, .int .i64 i59, .int .i64 i60, .int .i64 i61, .int .i64 i62, .int .i64 i63, .int .i64 i64] 65 (0, 0)) ∧ 
              ((b55 = false →
              (R (.returned (.bool false)) w10)) ∧
              (b55 = true →
              (I2 b36 (IntKind.i64.wrap (i37 + (1 : Int))) A56 n57 n58 i59 i60 i61 i62 i63 i64 w10 ∧ M2 b36 (IntKind.i64.wrap (i37 + (1 : Int))) A56 n57 n58 i59 i60 i61 i62 i63 i64 w10 < M2 b36 i37 A38 n39 n40 i41 i42 i43 i44 i45 i46 w9))))))) ∧
             ((40 : Int) ≤ i37 →
             (∃ T47 : List Nat, (∀ b ∈ T47, b < w9.heap.size ∧ b ∉ [g23, g9]) ∧
              (∀ w10 : World, Go.Sx.Fr S w0 w10 → Below w9.heap.size w9 w10 → 
              Calls Try.prog 29 #[(v7)] w10 fun r w11 => ∃ i48 : Int, r = .returned (.int .i64 i48) ∧ (Go.Sx.Fr S w0 w11 ∧ Go.Sx.Mild [g23, g9] w10 w11) ∧ Go.Sx.Keep w9.heap.size (T47 ++ []) w10 w11 ∧ 
              (
              Calls Try.prog 29 #[(v8)] w11 fun r w12 => ∃ i49 : Int, r = .returned (.int .i64 i49) ∧ (Go.Sx.Fr S w0 w12 ∧ Go.Sx.Mild [g23, g9] w11 w12) ∧ Go.Sx.Keep w9.heap.size (T47 ++ []) w11 w12 ∧ 
              ((i48 = i49 →
              (
               Calls Try.prog 36 #[(v7)] w12 fun r w13 => ∃ A50 : Option Addr, ∃ n51 : Nat, ∃ n52 : Nat, r = .returned (.slice A50 n51 n52) ∧ (Go.Sx.Fr S w0 w13 ∧ Go.Sx.Mild [g23, g9] w12 w13) ∧ Go.Sx.Keep w9.heap.size (T47 ++ []) w12 w13 ∧ 
               (
               Calls Try.prog 36 #[(v8)] w13 fun r w14 => ∃ A53 : Option Addr, ∃ n54 : Nat, ∃ n55 : Nat, r = .returned (.slice A53 n54 n55) ∧ (Go.Sx.Fr S w0 w14 ∧ Go.Sx.Mild [g23, g9] w13 w14) ∧ Go.Sx.Keep w9.heap.size (T47 ++ []) w13 w14 ∧ 
               (
               Calls Try.prog 15 #[(.slice A50 n51 n52), (.slice A53 n54 n55)] w14 fun r w15 => ∃ b56 : Bool, r = .returned (.bool b56) ∧ (Go.Sx.Fr S w0 w15 ∧ Go.Sx.Mild [g23, g9] w14 w15) ∧ Go.Sx.Keep w9.heap.size (T47 ++ []) w14 w15 ∧ 
               ((b56 = true →
               (
                Calls Try.prog 29 #[(v34)] w15 fun r w16 => ∃ i57 : Int, r = .returned (.int .i64 i57) ∧ (Go.Sx.Fr S w0 w16 ∧ Go.Sx.Mild [g23, g9] w15 w16) ∧ Go.Sx.Keep w9.heap.size (T47 ++ []) w15 w16 ∧ 
                (R (.returned (.bool (i57 == (n39 : Int)))) w16))) ∧
               (b56 = false →
               (R (.returned (.bool false)) w15))))))) ∧
              (¬ i48 = i49 →
              (R (.returned (.bool false)) w12))))))))) ∧
            ((n4 : Int) ≤ i37 →
            (∃ T47 : List Nat, (∀ b ∈ T47, b < w9.heap.size ∧ b ∉ [g23, g9]) ∧
             (∀ w10 : World, Go.Sx.Fr S w0 w10 → Below w9.heap.size w9 w10 → 
             Calls Try.prog 29 #[(v7)] w10 fun r w11 => ∃ i48 : Int, r = .returned (.int .i64 i48) ∧ (Go.Sx.Fr S w0 w11 ∧ Go.Sx.Mild [g23, g9] w10 w11) ∧ Go.Sx.Keep w9.heap.size (T47 ++ []) w10 w11 ∧ 
             (
             Calls Try.prog 29 #[(v8)] w11 fun r w12 => ∃ i49 : Int, r = .returned (.int .i64 i49) ∧ (Go.Sx.Fr S w0 w12 ∧ Go.Sx.Mild [g23, g9] w11 w12) ∧ Go.Sx.Keep w9.heap.size (T47 ++ []) w11 w12 ∧ 
             ((i48 = i49 →
             (
              Calls Try.prog 36 #[(v7)] w12 fun r w13 => ∃ A50 : Option Addr, ∃ n51 : Nat, ∃ n52 : Nat, r = .returned (.slice A50 n51 n52) ∧ (Go.Sx.Fr S w0 w13 ∧ Go.Sx.Mild [g23, g9] w12 w13) ∧ Go.Sx.Keep w9.heap.size (T47 ++ []) w12 w13 ∧ 
              (
              Calls Try.prog 36 #[(v8)] w13 fun r w14 => ∃ A53 : Option Addr, ∃ n54 : Nat, ∃ n55 : Nat, r = .returned (.slice A53 n54 n55) ∧ (Go.Sx.Fr S w0 w14 ∧ Go.Sx.Mild [g23, g9] w13 w14) ∧ Go.Sx.Keep w9.heap.size (T47 ++ []) w13 w14 ∧ 
              (
              Calls Try.prog 15 #[(.slice A50 n51 n52), (.slice A53 n54 n55)] w14 fun r w15 => ∃ b56 : Bool, r = .returned (.bool b56) ∧ (Go.Sx.Fr S w0 w15 ∧ Go.Sx.Mild [g23, g9] w14 w15) ∧ Go.Sx.Keep w9.heap.size (T47 ++ []) w14 w15 ∧ 
              ((b56 = true →
              (
               Calls Try.prog 29 #[(v34)] w15 fun r w16 => ∃ i57 : Int, r = .returned (.int .i64 i57) ∧ (Go.Sx.Fr S w0 w16 ∧ Go.Sx.Mild [g23, g9] w15 w16) ∧ Go.Sx.Keep w9.heap.size (T47 ++ []) w15 w16 ∧ 
               (R (.returned (.bool (i57 == (n39 : Int)))) w16))) ∧
              (b56 = false →
              (R (.returned (.bool false)) w15))))))) ∧
             (¬ i48 = i49 →
             (R (.returned (.bool false)) w12)))))))))))))))) ∧
        ((n1 : Int) ≤ i24 →
        (
         Calls Try.prog 37 #[(v7)] w7 fun r w8 => ∃ v34 : Value, r = .returned (v34) ∧ (Go.Sx.Fr S w0 w8 ∧ Go.Sx.Mild [g23, g9] w7 w8) ∧ 
         (∃ b35 : Bool, (binOp .eql 43 (v34) (.pointer none)).run Try.prog w8 = .ok (.bool b35) w8 ∧
         ((b35 = true →
         (R (.returned (.bool false)) w8)) ∧
         (b35 = false →
         (∃ (I2 : Bool → Int → Option Addr → Nat → Nat → Int → Int → Int → Int → Int → Int → World → Prop) (M2 : Bool → Int → Option Addr → Nat → Nat → Int → Int → Int → Int → Int → Int → World → Nat), (I2 b12 (0 : Int) A14 n15 n16 i17 i18 i19 i20 i21 i22 w8) ∧
          ∀ b36 : Bool, ∀ i37 : Int, ∀ A38 : Option Addr, ∀ n39 : Nat, ∀ n40 : Nat, ∀ i41 : Int, ∀ i42 : Int, ∀ i43 : Int, ∀ i44 : Int, ∀ i45 : Int, ∀ i46 : Int, ∀ w9 : World, Go.Sx.Fr S w0 w9 → I2 b36 i37 A38 n39 n40 i41 i42 i43 i44 i45 i46 w9 → w9.heap[g9]? = some (.cells #[.slice A38 n39 n40, .int .i64 i41, .int .i64 i42, .int .i64 i43, .int .i64 i44, .int .i64 i45, .int .i64 i46] 65 (0, 0)) → 
           ((i37 < (n4 : Int) →
           ((i37 < (40 : Int) →
            ((0 : Int) ≤ i37 ∧ i37 < (n4 : Int) ∧ ∃ p47 : Nat, ∃ o48 : Nat, A3 = some ⟨p47, o48, none⟩ ∧
             (∃ i49 : Int, ∃ i50 : Int, ∃ i51 : Int, ∃ A52 : Option Addr, ∃ n53 : Nat, ∃ n54 : Nat, Go.Sx.CellsAt w9 p47 (o48 + (i37).toNat * 4 + 0) [.int .i64 i49, .int .i64 i50, .int .i64 i51, .slice A52 n53 n54] ∧ 
             (w9.heap[g9]? = some (.cells #[.slice A38 n39 n40, .int .i64 i41, .int .i64 i42, .int .i64 i43, .int .i64 i44, .int .i64 i45, .int .i64 i46] 65 (0, 0)) → 
             Calls Try.prog 38 #[(v34), (.pointer (some ⟨g9, 0, none⟩)), (.agg #[.int .i64 i49, .int .i64 i50, .int .i64 i51, .slice A52 n53 n54])] w9 fun r w10 => ∃ b55 : Bool, ∃ A56 : Option Addr, ∃ n57 : Nat, ∃ n58 : Nat, ∃ i59 : Int, ∃ i60 : Int, ∃ i61 : Int, ∃ i62 : Int, ∃ i63 : Int, ∃ i64 : Int, r = .returned (.bool b55) ∧ (Go.Sx.Fr S w0 w10 ∧ Go.Sx.Mild [g23] w9 w10) ∧ w10.heap[g9]? = some (.cells #[.slice A56 n57 n58, .int .i64 i59, .int .i64 i60, .int .i64 i61, .int .i64 i62, .int .i64 i63, .int .i64 i64] 65 (0, 0)) ∧ 
             ((b55 = false →
             (R (.returned (.bool false)) w10)) ∧
             (b55 = true →
             (I2 b36 (IntKind.i64.wrap (i37 + (1 : Int))) A56 n57 n58 i59 i60 i61 i62 i63 i64 w10 ∧ M2 b36 (IntKind.i64.wrap (i37 + (1 : Int))) A56 n57 n58 i59 i60 i61 i62 i63 i64 w10 < M2 b36 i37 A38 n39 n40 i41 i42 i43 i44 i45 i46 w9))))))) ∧
            ((40 : Int) ≤ i37 →
            (∃ T47 : List Nat, (∀ b ∈ T47, b < w9.heap.size ∧ b ∉ [g23, g9]) ∧
             (∀ w10 : World, Go.Sx.Fr S w0 w10 → Below w9.heap.size w9 w10 → 
             Calls Try.prog 29 #[(v7)] w10 fun r w11 => ∃ i48 : Int, r = .returned (.int .i64 i48) ∧ (Go.Sx.Fr S w0 w11 ∧ Go.Sx.Mild [g23, g9] w10 w11) ∧ Go.Sx.Keep w9.heap.size (T47 ++ []) w10 w11 ∧ 
             (
             Calls Try.prog 29 #[(v8)] w11 fun r w12 => ∃ i49 : Int, r = .returned (.int .i64 i49) ∧ (Go.Sx.Fr S w0 w12 ∧ Go.Sx.Mild [g23, g9] w11 w12) ∧ Go.Sx.Keep w9.heap.size (T47 ++ []) w11 w12 ∧ 
             ((i48 = i49 →
             (
              Calls Try.prog 36 #[(v7)] w12 fun r w13 => ∃ A50 : Option Addr, ∃ n51 : Nat, ∃ n52 : Nat, r = .returned (.slice A50 n51 n52) ∧ (Go.Sx.Fr S w0 w13 ∧ Go.Sx.Mild [g23, g9] w12 w13) ∧ Go.Sx.Keep w9.heap.size (T47 ++ []) w12 w13 ∧ 
              (
              Calls Try.prog 36 #[(v8)] w13 fun r w14 => ∃ A53 : Option Addr, ∃ n54 : Nat, ∃ n55 : Nat, r = .returned (.slice A53 n54 n55) ∧ (Go.Sx.Fr S w0 w14 ∧ Go.Sx.Mild [g23, g9] w13 w14) ∧ Go.Sx.Keep w9.heap.size (T47 ++ []) w13 w14 ∧ 
              (
              Calls Try.prog 15 #[(.slice A50 n51 n52), (.slice A53 n54 n55)] w14 fun r w15 => ∃ b56 : Bool, r = .returned (.bool b56) ∧ (Go.Sx.Fr S w0 w15 ∧ Go.Sx.Mild [g23, g9] w14 w15) ∧ Go.Sx.Keep w9.heap.size (T47 ++ []) w14 w15 ∧ 
              ((b56 = true →
              (
               Calls Try.prog 29 #[(v34)] w15 fun r w16 => ∃ i57 : Int, r = .returned (.int .i64 i57) ∧ (Go.Sx.Fr S w0 w16 ∧ Go.Sx.Mild [g23, g9] w15 w16) ∧ Go.Sx.Keep w9.heap.size (T47 ++ []) w15 w16 ∧ 
               (R (.returned (.bool (i57 == (n39 : Int)))) w16))) ∧
              (b56 = false →
              (R (.returned (.bool false)) w15))))))) ∧
             (¬ i48 = i49 →
             (R (.returned (.bool false)) w12))))))))) ∧
           ((n4 : Int) ≤ i37 →
           (∃ T47 : List Nat, (∀ b ∈ T47, b < w9.heap.size ∧ b ∉ [g23, g9]) ∧
            (∀ w10 : World, Go.Sx.Fr S w0 w10 → Below w9.heap.size w9 w10 → 
            Calls Try.prog 29 #[(v7)] w10 fun r w11 => ∃ i48 : Int, r = .returned (.int .i64 i48) ∧ (Go.Sx.Fr S w0 w11 ∧ Go.Sx.Mild [g23, g9] w10 w11) ∧ Go.Sx.Keep w9.heap.size (T47 ++ []) w10 w11 ∧ 
            (
            Calls Try.prog 29 #[(v8)] w11 fun r w12 => ∃ i49 : Int, r = .returned (.int .i64 i49) ∧ (Go.Sx.Fr S w0 w12 ∧ Go.Sx.Mild [g23, g9] w11 w12) ∧ Go.Sx.Keep w9.heap.size (T47 ++ []) w11 w12 ∧ 
            ((i48 = i49 →
            (
             Calls Try.prog 36 #[(v7)] w12 fun r w13 => ∃ A50 : Option Addr, ∃ n51 : Nat, ∃ n52 : Nat, r = .returned (.slice A50 n51 n52) ∧ (Go.Sx.Fr S w0 w13 ∧ Go.Sx.Mild [g23, g9] w12 w13) ∧ Go.Sx.Keep w9.heap.size (T47 ++ []) w12 w13 ∧ 
             (
             Calls Try.prog 36 #[(v8)] w13 fun r w14 => ∃ A53 : Option Addr, ∃ n54 : Nat, ∃ n55 : Nat, r = .returned (.slice A53 n54 n55) ∧ (Go.Sx.Fr S w0 w14 ∧ Go.Sx.Mild [g23, g9] w13 w14) ∧ Go.Sx.Keep w9.heap.size (T47 ++ []) w13 w14 ∧ 
             (
             Calls Try.prog 15 #[(.slice A50 n51 n52), (.slice A53 n54 n55)] w14 fun r w15 => ∃ b56 : Bool, r = .returned (.bool b56) ∧ (Go.Sx.Fr S w0 w15 ∧ Go.Sx.Mild [g23, g9] w14 w15) ∧ Go.Sx.Keep w9.heap.size (T47 ++ []) w14 w15 ∧ 
             ((b56 = true →
             (
              Calls Try.prog 29 #[(v34)] w15 fun r w16 => ∃ i57 : Int, r = .returned (.int .i64 i57) ∧ (Go.Sx.Fr S w0 w16 ∧ Go.Sx.Mild [g23, g9] w15 w16) ∧ Go.Sx.Keep w9.heap.size (T47 ++ []) w15 w16 ∧ 
              (R (.returned (.bool (i57 == (n39 : Int)))) w16))) ∧
             (b56 = false →
             (R (.returned (.bool false)) w15))))))) ∧
            (¬ i48 = i49 →
            (R (.returned (.bool false)) w12))))))))))))))))))) ∧
     ((n1 : Int) ≤ i13 →
     ∀ g23 : Nat, w0.heap.size ≤ g23 → (∃ (I1 : Int → Option Addr → Nat → Nat → Int → Int → Int → Int → Int → Int → World → Prop) (M1 : Int → Option Addr → Nat → Nat → Int → Int → Int → Int → Int → Int → World → Nat), (∀ w6 : World, Go.Sx.Fr S w0 w6 → Below w5.heap.size w5 w6 → w5.heap.size ≤ g23 → w6.heap[g23]? = some (.cells #[.slice none 0 0, .int .i64 (0 : Int), .int .i64 (0 : Int), .int .i64 (0 : Int), .int .i64 (0 : Int), .int .i64 (0 : Int), .int .i64 (0 : Int)] 65 (0, 0)) → I1 (0 : Int) none 0 0 (0 : Int) (0 : Int) (0 : Int) (0 : Int) (0 : Int) (0 : Int) w6) ∧
      ∀ i24 : Int, ∀ A25 : Option Addr, ∀ n26 : Nat, ∀ n27 : Nat, ∀ i28 : Int, ∀ i29 : Int, ∀ i30 : Int, ∀ i31 : Int, ∀ i32 : Int, ∀ i33 : Int, ∀ w7 : World, Go.Sx.Fr S w0 w7 → I1 i24 A25 n26 n27 i28 i29 i30 i31 i32 i33 w7 → w7.heap[g23]? = some (.cells #[.slice A25 n26 n27, .int .i64 i28, .int .i64 i29, .int .i64 i30, .int .i64 i31, .int .i64 i32, .int .i64 i33] 65 (0, 0)) → 
       ((i24 < (n1 : Int) →
       ((i24 < (40 : Int) →
        ((0 : Int) ≤ i24 ∧ i24 < (n1 : Int) ∧ ∃ p34 : Nat, ∃ o35 : Nat, A0 = some ⟨p34, o35, none⟩ ∧
         (∃ i36 : Int, ∃ i37 : Int, ∃ i38 : Int, ∃ A39 : Option Addr, ∃ n40 : Nat, ∃ n41 : Nat, Go.Sx.CellsAt w7 p34 (o35 + (i24).toNat * 4 + 0) [.int .i64 i36, .int .i64 i37, .int .i64 i38, .slice A39 n40 n41] ∧ 
         (w7.heap[g23]? = some (.cells #[.slice A25 n26 n27, .int .i64 i28, .int .i64 i29, .int .i64 i30, .int .i64 i31, .int .i64 i32, .int .i64 i33] 65 (0, 0)) → 
         Calls Try.prog 38 #[(v8), (.pointer (some ⟨g23, 0, none⟩)), (.agg #[.int .i64 i36, .int .i64 i37, .int .i64 i38, .slice A39 n40 n41])] w7 fun r w8 => ∃ b42 : Bool, ∃ A43 : Option Addr, ∃ n44 : Nat, ∃ n45 : Nat, ∃ i46 : Int, ∃ i47 : Int, ∃ i48 : Int, ∃ i49 : Int, ∃ i50 : Int, ∃ i51 : Int, r = .returned (.bool b42) ∧ (Go.Sx.Fr S w0 w8 ∧ Go.Sx.Mild [g9] w7 w8) ∧ w8.heap[g23]? = some (.cells #[.slice A43 n44 n45, .int .i64 i46, .int .i64 i47, .int .i64 i48, .int .i64 i49, .int .i64 i50, .int .i64 i51] 65 (0, 0)) ∧ 
         (I1 (IntKind.i64.wrap (i24 + (1 : Int))) A43 n44 n45 i46 i47 i48 i49 i50 i51 w8 ∧ M1 (IntKind.i64.wrap (i24 + (1 : Int))) A43 n44 n45 i46 i47 i48 i49 i50 i51 w8 < M1 i24 A25 n26 n27 i28 i29 i30 i31 i32 i33 w7))))) ∧
        ((40 : Int) ≤ i24 →
        (
         Calls Try.prog 37 #[(v7)] w7 fun r w8 => ∃ v34 : Value, r = .returned (v34) ∧ (Go.Sx.Fr S w0 w8 ∧ Go.Sx.Mild [g23, g9] w7 w8) ∧ 
         (∃ b35 : Bool, (binOp .eql 43 (v34) (.pointer none)).run Try.prog w8 = .ok (.bool b35) w8 ∧
         ((b35 = true →
         (R (.returned (.bool false)) w8)) ∧
         (b35 = false →
         (∃ (I2 : Bool → Int → Option Addr → Nat → Nat → Int → Int → Int → Int → Int → Int → World → Prop) (M2 : Bool → Int → Option Addr → Nat → Nat → Int → Int → Int → Int → Int → Int → World → Nat), (I2 b12 (0 : Int) A14 n15 n16 i17 i18 i19 i20 i21 i22 w8) ∧
          ∀ b36 : Bool, ∀ i37 : Int, ∀ A38 : Option Addr, ∀ n39 : Nat, ∀ n40 : Nat, ∀ i41 : Int, ∀ i42 : Int, ∀ i43 : Int, ∀ i44 : Int, ∀ i45 : Int, ∀ i46 : Int, ∀ w9 : World, Go.Sx.Fr S w0 w9 → I2 b36 i37 A38 n39 n40 i41 i42 i43 i44 i45 i46 w9 → w9.heap[g9]? = some (.cells #[.slice A38 n39 n40, .int .i64 i41, .int .i64 i42, .int .i64 i43, .int .i64 i44, .int .i64 i45, .int .i64 i46] 65 (0, 0)) → 
           ((i37 < (n4 : Int) →
           ((i37 < (40 : Int) →
            ((0 : Int) ≤ i37 ∧ i37 < (n4 : Int) ∧ ∃ p47 : Nat, ∃ o48 : Nat, A3 = some ⟨p47, o48, none⟩ ∧
             (∃ i49 : Int, ∃ i50 : Int, ∃ i51 : Int, ∃ A52 : Option Addr, ∃ n53 : Nat, ∃ n54 : Nat, Go.Sx.CellsAt w9 p47 (o48 + (i37).toNat * 4 + 0) [.int .i64 i49, .int .i64 i50, .int .i64 i51, .slice A52 n53 n54] ∧ 
             (w9.heap[g9]? = some (.cells #[.slice A38 n39 n40, .int .i64 i41, .int .i64 i42, .int .i64 i43, .int .i64 i44, .int .i64 i45, .int .i64 i46] 65 (0, 0)) → 
             Calls Try.prog 38 #[(v34), (.pointer (some ⟨g9, 0, none⟩)), (.agg #[.int .i64 i49, .int .i64 i50, .int .i64 i51, .slice A52 n53 n54])] w9 fun r w10 => ∃ b55 : Bool, ∃ A56 : Option Addr, ∃ n57 : Nat, ∃ n58 : Nat, ∃ i59 : Int, ∃ i60 : Int, ∃ i61 : Int, ∃ i62 : Int, ∃ i63 : Int, ∃ i64 : Int, r = .returned (.bool b55) ∧ (Go.Sx.Fr S w0 w10 ∧ Go.Sx.Mild [g23] w9 w10) ∧ w10.heap[g9]? = some (.cells #[.slice A56 n57 n58, .int .i64 i59, .int .i64 i60, .int .i64 i61, .int .i64 i62, .int .i64 i63, .int .i64 i64] 65 (0, 0)) ∧ 
             ((b55 = false →
             (R (.returned (.bool false)) w10)) ∧
             (b55 = true →
             (I2 b36 (IntKind.i64.wrap (i37 + (1 : Int))) A56 n57 n58 i59 i60 i61 i62 i63 i64 w10 ∧ M2 b36 (IntKind.i64.wrap (i37 + (1 : Int))) A56 n57 n58 i59 i60 i61 i62 i63 i64 w10 < M2 b36 i37 A38 n39 n40 i41 i42 i43 i44 i45 i46 w9))))))) ∧
            ((40 : Int) ≤ i37 →
            (∃ T47 : List Nat, (∀ b ∈ T47, b < w9.heap.size ∧ b ∉ [g23, g9]) ∧
             (∀ w10 : World, Go.Sx.Fr S w0 w10 → Below w9.heap.size w9 w10 → 
             Calls Try.prog 29 #[(v7)] w10 fun r w11 => ∃ i48 : Int, r = .returned (.int .i64 i48) ∧ (Go.Sx.Fr S w0 w11 ∧ Go.Sx.Mild [g23, g9] w10 w11) ∧ Go.Sx.Keep w9.heap.size (T47 ++ []) w10 w11 ∧ 
             (
             Calls Try.prog 29 #[(v8)] w11 fun r w12 => ∃ i49 : Int, r = .returned (.int .i64 i49) ∧ (Go.Sx.Fr S w0 w12 ∧ Go.Sx.Mild [g23, g9] w11 w12) ∧ Go.Sx.Keep w9.heap.size (T47 ++ []) w11 w12 ∧ 
             ((i48 = i49 →
             (
              Calls Try.prog 36 #[(v7)] w12 fun r w13 => ∃ A50 : Option Addr, ∃ n51 : Nat, ∃ n52 : Nat, r = .returned (.slice A50 n51 n52) ∧ (Go.Sx.Fr S w0 w13 ∧ Go.Sx.Mild [g23, g9] w12 w13) ∧ Go.Sx.Keep w9.heap.size (T47 ++ []) w12 w13 ∧ 
              (
              Calls Try.prog 36 #[(v8)] w13 fun r w14 => ∃ A53 : Option Addr, ∃ n54 : Nat, ∃ n55 : Nat, r = .returned (.slice A53 n54 n55) ∧ (Go.Sx.Fr S w0 w14 ∧ Go.Sx.Mild [g23, g9] w13 w14) ∧ Go.Sx.Keep w9.heap.size (T47 ++ []) w13 w14 ∧ 
              (
              Calls Try.prog 15 #[(.slice A50 n51 n52), (.slice A53 n54 n55)] w14 fun r w15 => ∃ b56 : Bool, r = .returned (.bool b56) ∧ (Go.Sx.Fr S w0 w15 ∧ Go.Sx.Mild [g23, g9] w14 w15) ∧ Go.Sx.Keep w9.heap.size (T47 ++ []) w14 w15 ∧ 
              ((b56 = true →
              (
               Calls Try.prog 29 #[(v34)] w15 fun r w16 => ∃ i57 : Int, r = .returned (.int .i64 i57) ∧ (Go.Sx.Fr S w0 w16 ∧ Go.Sx.Mild [g23, g9] w15 w16) ∧ Go.Sx.Keep w9.heap.size (T47 ++ []) w15 w16 ∧ 
               (R (.returned (.bool (i57 == (n39 : Int)))) w16))) ∧
              (b56 = false →
              (R (.returned (.bool false)) w15))))))) ∧
             (¬ i48 = i49 →
             (R (.returned (.bool false)) w12))))))))) ∧
           ((n4 : Int) ≤ i37 →
           (∃ T47 : List Nat, (∀ b ∈ T47, b < w9.heap.size ∧ b ∉ [g23, g9]) ∧
            (∀ w10 : World, Go.Sx.Fr S w0 w10 → Below w9.heap.size w9 w10 → 
            Calls Try.prog 29 #[(v7)] w10 fun r w11 => ∃ i48 : Int, r = .returned (.int .i64 i48) ∧ (Go.Sx.Fr S w0 w11 ∧ Go.Sx.Mild [g23, g9] w10 w11) ∧ Go.Sx.Keep w9.heap.size (T47 ++ []) w10 w11 ∧ 
            (
            Calls Try.prog 29 #[(v8)] w11 fun r w12 => ∃ i49 : Int, r = .returned (.int .i64 i49) ∧ (Go.Sx.Fr S w0 w12 ∧ Go.Sx.Mild [g23, g9] w11 w12) ∧ Go.Sx.Keep w9.heap.size (T47 ++ []) w11 w12 ∧ 
            ((i48 = i49 →
            (
             Calls Try.prog 36 #[(v7)] w12 fun r w13 => ∃ A50 : Option Addr, ∃ n51 : Nat, ∃ n52 : Nat, r = .returned (.slice A50 n51 n52) ∧ (Go.Sx.Fr S w0 w13 ∧ Go.Sx.Mild [g23, g9] w12 w13) ∧ Go.Sx.Keep w9.heap.size (T47 ++ []) w12 w13 ∧ 
             (
             Calls Try.prog 36 #[(v8)] w13 fun r w14 => ∃ A53 : Option Addr, ∃ n54 : Nat, ∃ n55 : Nat, r = .returned (.slice A53 n54 n55) ∧ (Go.Sx.Fr S w0 w14 ∧ Go.Sx.Mild [g23, g9] w13 w14) ∧ Go.Sx.Keep w9.heap.size (T47 ++ []) w13 w14 ∧ 
             (
             Calls Try.prog 15 #[(.slice A50 n51 n52), (.slice A53 n54 n55)] w14 fun r w15 => ∃ b56 : Bool, r = .returned (.bool b56) ∧ (Go.Sx.Fr S w0 w15 ∧ Go.Sx.Mild [g23, g9] w14 w15) ∧ Go.Sx.Keep w9.heap.size (T47 ++ []) w14 w15 ∧ 
             ((b56 = true →
             (
              Calls Try.prog 29 #[(v34)] w15 fun r w16 => ∃ i57 : Int, r = .returned (.int .i64 i57) ∧ (Go.Sx.Fr S w0 w16 ∧ Go.Sx.Mild [g23, g9] w15 w16) ∧ Go.Sx.Keep w9.heap.size (T47 ++ []) w15 w16 ∧ 
              (R (.returned (.bool (i57 == (n39 : Int)))) w16))) ∧
             (b56 = false →
             (R (.returned (.bool false)) w15))))))) ∧
            (¬ i48 = i49 →
            (R (.returned (.bool false)) w12)))))))))))))))) ∧
       ((n1 : Int) ≤ i24 →
       (
        Calls Try.prog 37 #[(v7)] w7 fun r w8 => ∃ v34 : Value, r = .returned (v34) ∧ (Go.Sx.Fr S w0 w8 ∧ Go.Sx.Mild [g23, g9] w7 w8) ∧ 
        (∃ b35 : Bool, (binOp .eql 43 (v34) (.pointer none)).run Try.prog w8 = .ok (.bool b35) w8 ∧
        ((b35 = true →
        (R (.returned (.bool false)) w8)) ∧
        (b35 = false →
        (∃ (I2 : Bool → Int → Option Addr → Nat → Nat → Int → Int → Int → Int → Int → Int → World → Prop) (M2 : Bool → Int → Option Addr → Nat → Nat → Int → Int → Int → Int → Int → Int → World → Nat), (I2 b12 (0 : Int) A14 n15 n16 i17 i18 i19 i20 i21 i22 w8) ∧
         ∀ b36 : Bool, ∀ i37 : Int, ∀ A38 : Option Addr, ∀ n39 : Nat, ∀ n40 : Nat, ∀ i41 : Int, ∀ i42 : Int, ∀ i43 : Int, ∀ i44 : Int, ∀ i45 : Int, ∀ i46 : Int, ∀ w9 : World, Go.Sx.Fr S w0 w9 → I2 b36 i37 A38 n39 n40 i41 i42 i43 i44 i45 i46 w9 → w9.heap[g9]? = some (.cells #[.slice A38 n39 n40, .int .i64 i41, .int .i64 i42, .int .i64 i43, .int .i64 i44, .int .i64 i45, .int .i64 i46] 65 (0, 0)) → 
          ((i37 < (n4 : Int) →
          ((i37 < (40 : Int) →
           ((0 : Int) ≤ i37 ∧ i37 < (n4 : Int) ∧ ∃ p47 : Nat, ∃ o48 : Nat, A3 = some ⟨p47, o48, none⟩ ∧
            (∃ i49 : Int, ∃ i50 : Int, ∃ i51 : Int, ∃ A52 : Option Addr, ∃ n53 : Nat, ∃ n54 : Nat, Go.Sx.CellsAt w9 p47 (o48 + (i37).toNat * 4 + 0) [.int .i64 i49, .int .i64 i50, .int .i64 i51, .slice A52 n53 n54] ∧ 
            (w9.heap[g9]? = some (.cells #[.slice A38 n39 n40, .int .i64 i41, .int .i64 i42, .int .i64 i43, .int .i64 i44, .int .i64 i45, .int .i64 i46] 65 (0, 0)) → 
            Calls Try.prog 38 #[(v34), (.pointer (some ⟨g9, 0, none⟩)), (.agg #[.int .i64 i49, .int .i64 i50, .int .i64 i51, .slice A52 n53 n54])] w9 fun r w10 => ∃ b55 : Bool, ∃ A56 : Option Addr, ∃ n57 : Nat, ∃ n58 : Nat, ∃ i59 : Int, ∃ i60 : Int, ∃ i61 : Int, ∃ i62 : Int, ∃ i63 : Int, ∃ i64 : Int, r = .returned (.bool b55) ∧ (Go.Sx.Fr S w0 w10 ∧ Go.Sx.Mild [g23] w9 w10) ∧ w10.heap[g9]? = some (.cells #[.slice A56 n57 n58, .int .i64 i59, .int .i64 i60, .int .i64 i61, .int .i64 i62, .int .i64 i63, .int .i64 i64] 65 (0, 0)) ∧ 
            ((b55 = false →
            (R (.returned (.bool false)) w10)) ∧
            (b55 = true →
            (I2 b36 (IntKind.i64.wrap (i37 + (1 : Int))) A56 n57 n58 i59 i60 i61 i62 i63 i64 w10 ∧ M2 b36 (IntKind.i64.wrap (i37 + (1 : Int))) A56 n57 n58 i59 i60 i61 i62 i63 i64 w10 < M2 b36 i37 A38 n39 n40 i41 i42 i43 i44 i45 i46 w9))))))) ∧
           ((40 : Int) ≤ i37 →
           (∃ T47 : List Nat, (∀ b ∈ T47, b < w9.heap.size ∧ b ∉ [g23, g9]) ∧
            (∀ w10 : World, Go.Sx.Fr S w0 w10 → Below w9.heap.size w9 w10 → 
            Calls Try.prog 29 #[(v7)] w10 fun r w11 => ∃ i48 : Int, r = .returned (.int .i64 i48) ∧ (Go.Sx.Fr S w0 w11 ∧ Go.Sx.Mild [g23, g9] w10 w11) ∧ Go.Sx.Keep w9.heap.size (T47 ++ []) w10 w11 ∧ 
            (
            Calls Try.prog 29 #[(v8)] w11 fun r w12 => ∃ i49 : Int, r = .returned (.int .i64 i49) ∧ (Go.Sx.Fr S w0 w12 ∧ Go.Sx.Mild [g23, g9] w11 w12) ∧ Go.Sx.Keep w9.heap.size (T47 ++ []) w11 w12 ∧ 
            ((i48 = i49 →
            (
             Calls Try.prog 36 #[(v7)] w12 fun r w13 => ∃ A50 : Option Addr, ∃ n51 : Nat, ∃ n52 : Nat, r = .returned (.slice A50 n51 n52) ∧ (Go.Sx.Fr S w0 w13 ∧ Go.Sx.Mild [g23, g9] w12 w13) ∧ Go.Sx.Keep w9.heap.size (T47 ++ []) w12 w13 ∧ 
             (
             Calls Try.prog 36 #[(v8)] w13 fun r w14 => ∃ A53 : Option Addr, ∃ n54 : Nat, ∃ n55 : Nat, r = .returned (.slice A53 n54 n55) ∧ (Go.Sx.Fr S w0 w14 ∧ Go.Sx.Mild [g23, g9] w13 w14) ∧ Go.Sx.Keep w9.heap.size (T47 ++ []) w13 w14 ∧ 
             (
             Calls Try.prog 15 #[(.slice A50 n51 n52), (.slice A53 n54 n55)] w14 fun r w15 => ∃ b56 : Bool, r = .returned (.bool b56) ∧ (Go.Sx.Fr S w0 w15 ∧ Go.Sx.Mild [g23, g9] w14 w15) ∧ Go.Sx.Keep w9.heap.size (T47 ++ []) w14 w15 ∧ 
             ((b56 = true →
             (
              Calls Try.prog 29 #[(v34)] w15 fun r w16 => ∃ i57 : Int, r = .returned (.int .i64 i57) ∧ (Go.Sx.Fr S w0 w16 ∧ Go.Sx.Mild [g23, g9] w15 w16) ∧ Go.Sx.Keep w9.heap.size (T47 ++ []) w15 w16 ∧ 
              (R (.returned (.bool (i57 == (n39 : Int)))) w16))) ∧
             (b56 = false →
             (R (.returned (.bool false)) w15))))))) ∧
            (¬ i48 = i49 →
            (R (.returned (.bool false)) w12))))))))) ∧
          ((n4 : Int) ≤ i37 →
          (∃ T47 : List Nat, (∀ b ∈ T47, b < w9.heap.size ∧ b ∉ [g23, g9]) ∧
           (∀ w10 : World, Go.Sx.Fr S w0 w10 → Below w9.heap.size w9 w10 → 
           Calls Try.prog 29 #[(v7)] w10 fun r w11 => ∃ i48 : Int, r = .returned (.int .i64 i48) ∧ (Go.Sx.Fr S w0 w11 ∧ Go.Sx.Mild [g23, g9] w10 w11) ∧ Go.Sx.Keep w9.heap.size (T47 ++ []) w10 w11 ∧ 
           (
           Calls Try.prog 29 #[(v8)] w11 fun r w12 => ∃ i49 : Int, r = .returned (.int .i64 i49) ∧ (Go.Sx.Fr S w0 w12 ∧ Go.Sx.Mild [g23, g9] w11 w12) ∧ Go.Sx.Keep w9.heap.size (T47 ++ []) w11 w12 ∧ 
           ((i48 = i49 →
           (
            Calls Try.prog 36 #[(v7)] w12 fun r w13 => ∃ A50 : Option Addr, ∃ n51 : Nat, ∃ n52 : Nat, r = .returned (.slice A50 n51 n52) ∧ (Go.Sx.Fr S w0 w13 ∧ Go.Sx.Mild [g23, g9] w12 w13) ∧ Go.Sx.Keep w9.heap.size (T47 ++ []) w12 w13 ∧ 
            (
            Calls Try.prog 36 #[(v8)] w13 fun r w14 => ∃ A53 : Option Addr, ∃ n54 : Nat, ∃ n55 : Nat, r = .returned (.slice A53 n54 n55) ∧ (Go.Sx.Fr S w0 w14 ∧ Go.Sx.Mild [g23, g9] w13 w14) ∧ Go.Sx.Keep w9.heap.size (T47 ++ []) w13 w14 ∧ 
            (
            Calls Try.prog 15 #[(.slice A50 n51 n52), (.slice A53 n54 n55)] w14 fun r w15 => ∃ b56 : Bool, r = .returned (.bool b56) ∧ (Go.Sx.Fr S w0 w15 ∧ Go.Sx.Mild [g23, g9] w14 w15) ∧ Go.Sx.Keep w9.heap.size (T47 ++ []) w14 w15 ∧ 
            ((b56 = true →
            (
             Calls Try.prog 29 #[(v34)] w15 fun r w16 => ∃ i57 : Int, r = .returned (.int .i64 i57) ∧ (Go.Sx.Fr S w0 w16 ∧ Go.Sx.Mild [g23, g9] w15 w16) ∧ Go.Sx.Keep w9.heap.size (T47 ++ []) w15 w16 ∧ 
             (R (.returned (.bool (i57 == (n39 : Int)))) w16))) ∧
            (b56 = false →
            (R (.returned (.bool false)) w15))))))) ∧
           (¬ i48 = i49 →
           (R (.returned (.bool false)) w12))))))))))))))))))))))))))))))) :
    Calls Try.prog 11 #[(.slice A0 n1 n2), (.slice A3 n4 n5)] w0 R :=
  Go.Sx.fn_sound0 (P := Try.prog) (S := S) (w0 := w0) (R := R) (ws := [38]) (an := [⟨999998, [], [], 0⟩, ⟨999999, [], [], 0⟩, ⟨8, [], [(8, 0), (8, 1), (8, 2), (8, 3), (8, 4), (8, 5), (8, 6)], 0⟩, ⟨15, [], [(11, 0), (11, 1), (11, 2), (11, 3), (11, 4), (11, 5), (11, 6)], 0⟩, ⟨22, [], [(8, 0), (8, 1), (8, 2), (8, 3), (8, 4), (8, 5), (8, 6)], 0⟩]) (f := 11) (n := 6) (xs := [.one (.slice (.var 0) (.var 1) (.var 2)), .one (.slice (.var 3) (.var 4) (.var 5))]) (e := [.a A0, .n n1, .n n2, .a A3, .n n4, .n n5]) rfl (by kernel_rfl) (Eq.mp (by kernel_rfl) h)


end Go.Proofs.Ytdjjfpcfclheiaa
