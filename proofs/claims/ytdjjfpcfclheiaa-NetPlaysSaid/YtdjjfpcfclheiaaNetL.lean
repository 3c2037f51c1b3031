/- Net: what is left of the law NetPlays. -/
import Derived.Test.YtdjjfpcfclheiaaProg
import Derived.Test.YtdjjfpcfclheiaaSs
import Derived.KernelRfl
set_option linter.unusedVariables false
namespace Go.Proofs.Ytdjjfpcfclheiaa
open Go Go.RowKit Go.Proofs Go.Trc
set_option maxRecDepth 100000
/-- tracery/tracerylaw21.NetPlays: what is left of it. -/
theorem netPlays_sx (R : Ending → World → Prop) (S : Nat → Prop) (w0 : World) (A0 : Option Addr) (n1 : Nat) (n2 : Nat) (h :
 (
 Calls Try.prog 24 #[] w0 fun r w1 => ∃ b3 : Bool, r = .returned (.bool b3) ∧ (Go.Sx.Fr S w0 w1 ∧ Go.Sx.Mild [] w0 w1) ∧ 
 (
 Calls Try.prog 25 #[] w1 fun r w2 => ∃ v4 : Value, r = .returned (v4) ∧ (Go.Sx.Fr S w0 w2 ∧ Go.Sx.Mild [] w1 w2) ∧ 
 ∀ g5 : Nat, w0.heap.size ≤ g5 → ((b3 = false →
 (∀ w3 : World, Go.Sx.Fr S w0 w3 → Below w2.heap.size w2 w3 → w2.heap.size ≤ g5 → w3.heap[g5]? = some (.cells #[.slice none 0 0, .int .i64 (0 : Int), .int .i64 (0 : Int), .int .i64 (0 : Int), .int .i64 (0 : Int), .int .i64 (0 : Int), .int .i64 (0 : Int)] 65 (0, 0)) → R (.returned (.bool false)) w3)) ∧
 (b3 = true →
 (∀ w3 : World, Go.Sx.Fr S w0 w3 → Below w2.heap.size w2 w3 → w2.heap.size ≤ g5 → w3.heap[g5]? = some (.cells #[.slice none 0 0, .int .i64 (0 : Int), .int .i64 (0 : Int), .int .i64 (0 : Int), .int .i64 (0 : Int), .int .i64 (0 : Int), .int .i64 (0 : Int)] 65 (0, 0)) → ∃ b6 : Bool, (binOp .eql 43 (v4) (.pointer none)).run Try.prog w3 = .ok (.bool b6) w3 ∧
  ((b6 = true →
  (R (.returned (.bool false)) w3)) ∧
  (b6 = false →
  (∃ (I0 : Value → Bool → Int → Option Addr → Nat → Nat → Int → Int → Int → Int → Int → Int → World → Prop) (M0 : Value → Bool → Int → Option Addr → Nat → Nat → Int → Int → Int → Int → Int → Int → World → Nat), (I0 (v4) false (0 : Int) none 0 0 (0 : Int) (0 : Int) (0 : Int) (0 : Int) (0 : Int) (0 : Int) w3) ∧
   ∀ v7 : Value, ∀ b8 : Bool, ∀ i9 : Int, ∀ A10 : Option Addr, ∀ n11 : Nat, ∀ n12 : Nat, ∀ i13 : Int, ∀ i14 : Int, ∀ i15 : Int, ∀ i16 : Int, ∀ i17 : Int, ∀ i18 : Int, ∀ w4 : World, Go.Sx.Fr S w0 w4 → I0 v7 b8 i9 A10 n11 n12 i13 i14 i15 i16 i17 i18 w4 → w4.heap[g5]? = some (.cells #[.slice A10 n11 n12, .int .i64 i13, .int .i64 i14, .int .i64 i15, .int .i64 i16, .int .i64 i17, .int .i64 i18] 65 (0, 0)) → 
    ((i9 < (n1 : Int) →
    ((i9 < (80 : Int) →
     (¬ (9 : Int) = (0 : Int) ∧
      (((Int.tmod i9 (9 : Int)) = (8 : Int) →
      (
       Calls Try.prog 37 #[(v7)] w4 fun r w5 => ∃ v19 : Value, r = .returned (v19) ∧ (Go.Sx.Fr S w0 w5 ∧ Go.Sx.Mild [g5] w4 w5) ∧ 
       (∃ b20 : Bool, (binOp .eql 43 (v19) (.pointer none)).run Try.prog w5 = .ok (.bool b20) w5 ∧
       ((b20 = true →
       (R (.returned (.bool false)) w5)) ∧
       (b20 = false →
       ∀ g21 : Nat, w0.heap.size ≤ g21 → (∀ w6 : World, Go.Sx.Fr S w0 w6 → Below w5.heap.size w5 w6 → w5.heap.size ≤ g21 → w6.heap[g21]? = some (.cells #[.int .i64 (4 : Int), .int .i64 (0 : Int), .int .i64 (1 : Int), .int .i64 (0 : Int), .int .i64 (0 : Int), .int .i64 (0 : Int), .slice none 0 0] 47 (0, 0)) → 
        Calls Try.prog 27 #[(v7), (.slice (some ⟨g21, 0, none⟩) 1 1)] w6 fun r w7 => ∃ i22 : Int, r = .returned (.int .i64 i22) ∧ (Go.Sx.Fr S w0 w7 ∧ Go.Sx.Mild [g21, g5] w6 w7) ∧ 
        (
        Calls Try.prog 30 #[(v7), (.int .i64 (0 : Int))] w7 fun r w8 => ∃ i23 : Int, r = .returned (.int .i64 i23) ∧ (Go.Sx.Fr S w0 w8 ∧ Go.Sx.Mild [g21, g5] w7 w8) ∧ 
        ((0 : Int) ≤ i9 ∧ i9 < (n1 : Int) ∧ ∃ p24 : Nat, ∃ o25 : Nat, A0 = some ⟨p24, o25, none⟩ ∧
        (∃ i26 : Int, ∃ i27 : Int, ∃ i28 : Int, ∃ A29 : Option Addr, ∃ n30 : Nat, ∃ n31 : Nat, Go.Sx.CellsAt w8 p24 (o25 + (i9).toNat * 4 + 0) [.int .i64 i26, .int .i64 i27, .int .i64 i28, .slice A29 n30 n31] ∧ 
        (w8.heap[g5]? = some (.cells #[.slice A10 n11 n12, .int .i64 i13, .int .i64 i14, .int .i64 i15, .int .i64 i16, .int .i64 i17, .int .i64 i18] 65 (0, 0)) → 
        Calls Try.prog 38 #[(v19), (.pointer (some ⟨g5, 0, none⟩)), (.agg #[.int .i64 i26, .int .i64 i27, .int .i64 i28, .slice A29 n30 n31])] w8 fun r w9 => ∃ b32 : Bool, ∃ A33 : Option Addr, ∃ n34 : Nat, ∃ n35 : Nat, ∃ i36 : Int, ∃ i37 : Int, ∃ i38 : Int, ∃ i39 : Int, ∃ i40 : Int, ∃ i41 : Int, r = .returned (.bool b32) ∧ (Go.Sx.Fr S w0 w9 ∧ Go.Sx.Mild [g21] w8 w9) ∧ w9.heap[g5]? = some (.cells #[.slice A33 n34 n35, .int .i64 i36, .int .i64 i37, .int .i64 i38, .int .i64 i39, .int .i64 i40, .int .i64 i41] 65 (0, 0)) ∧ 
        (∃ T42 : List Nat, (∀ b ∈ T42, b < w9.heap.size ∧ b ∉ [g21, g5]) ∧
        ((b32 = false →
        (∀ w10 : World, Go.Sx.Fr S w0 w10 → Below w9.heap.size w9 w10 → R (.returned (.bool false)) w10)) ∧
        (b32 = true →
        (∀ w10 : World, Go.Sx.Fr S w0 w10 → Below w9.heap.size w9 w10 → 
         Calls Try.prog 29 #[(v19)] w10 fun r w11 => ∃ i43 : Int, r = .returned (.int .i64 i43) ∧ (Go.Sx.Fr S w0 w11 ∧ Go.Sx.Mild [g21, g5] w10 w11) ∧ Go.Sx.Keep w9.heap.size (T42 ++ []) w10 w11 ∧ 
         ((¬ i43 = (n34 : Int) →
         (R (.returned (.bool false)) w11)) ∧
         (i43 = (n34 : Int) →
         (I0 (v19) b8 (IntKind.i64.wrap (i9 + (1 : Int))) A33 n34 n35 i36 i37 i38 i39 i40 i41 w11 ∧ M0 (v19) b8 (IntKind.i64.wrap (i9 + (1 : Int))) A33 n34 n35 i36 i37 i38 i39 i40 i41 w11 < M0 v7 b8 i9 A10 n11 n12 i13 i14 i15 i16 i17 i18 w4))))))))))))))))) ∧
      (¬ (Int.tmod i9 (9 : Int)) = (8 : Int) →
      ((0 : Int) ≤ i9 ∧ i9 < (n1 : Int) ∧ ∃ p19 : Nat, ∃ o20 : Nat, A0 = some ⟨p19, o20, none⟩ ∧
       (∃ i21 : Int, ∃ i22 : Int, ∃ i23 : Int, ∃ A24 : Option Addr, ∃ n25 : Nat, ∃ n26 : Nat, Go.Sx.CellsAt w4 p19 (o20 + (i9).toNat * 4 + 0) [.int .i64 i21, .int .i64 i22, .int .i64 i23, .slice A24 n25 n26] ∧ 
       (w4.heap[g5]? = some (.cells #[.slice A10 n11 n12, .int .i64 i13, .int .i64 i14, .int .i64 i15, .int .i64 i16, .int .i64 i17, .int .i64 i18] 65 (0, 0)) → 
       Calls Try.prog 38 #[(v7), (.pointer (some ⟨g5, 0, none⟩)), (.agg #[.int .i64 i21, .int .i64 i22, .int .i64 i23, .slice A24 n25 n26])] w4 fun r w5 => ∃ b27 : Bool, ∃ A28 : Option Addr, ∃ n29 : Nat, ∃ n30 : Nat, ∃ i31 : Int, ∃ i32 : Int, ∃ i33 : Int, ∃ i34 : Int, ∃ i35 : Int, ∃ i36 : Int, r = .returned (.bool b27) ∧ (Go.Sx.Fr S w0 w5 ∧ Go.Sx.Mild [] w4 w5) ∧ w5.heap[g5]? = some (.cells #[.slice A28 n29 n30, .int .i64 i31, .int .i64 i32, .int .i64 i33, .int .i64 i34, .int .i64 i35, .int .i64 i36] 65 (0, 0)) ∧ 
       (∃ T37 : List Nat, (∀ b ∈ T37, b < w5.heap.size ∧ b ∉ [g5]) ∧
       ((b27 = false →
       (∀ w6 : World, Go.Sx.Fr S w0 w6 → Below w5.heap.size w5 w6 → R (.returned (.bool false)) w6)) ∧
       (b27 = true →
       (∀ w6 : World, Go.Sx.Fr S w0 w6 → Below w5.heap.size w5 w6 → 
        Calls Try.prog 29 #[(v7)] w6 fun r w7 => ∃ i38 : Int, r = .returned (.int .i64 i38) ∧ (Go.Sx.Fr S w0 w7 ∧ Go.Sx.Mild [g5] w6 w7) ∧ Go.Sx.Keep w5.heap.size (T37 ++ []) w6 w7 ∧ 
        ((¬ i38 = (n29 : Int) →
        (R (.returned (.bool false)) w7)) ∧
        (i38 = (n29 : Int) →
        (I0 (v7) b8 (IntKind.i64.wrap (i9 + (1 : Int))) A28 n29 n30 i31 i32 i33 i34 i35 i36 w7 ∧ M0 (v7) b8 (IntKind.i64.wrap (i9 + (1 : Int))) A28 n29 n30 i31 i32 i33 i34 i35 i36 w7 < M0 v7 b8 i9 A10 n11 n12 i13 i14 i15 i16 i17 i18 w4)))))))))))))) ∧
     ((80 : Int) ≤ i9 →
     (∃ T19 : List Nat, (∀ b ∈ T19, b < w4.heap.size ∧ b ∉ [g5]) ∧
      (((∀ w5 : World, Go.Sx.Fr S w0 w5 → Below w4.heap.size w4 w5 → 
      Calls Try.prog 36 #[(v7)] w5 fun r w6 => ∃ A20 : Option Addr, ∃ n21 : Nat, ∃ n22 : Nat, r = .returned (.slice A20 n21 n22) ∧ (Go.Sx.Fr S w0 w6 ∧ Go.Sx.Mild [g5] w5 w6) ∧ 
      (w6.heap[g5]? = some (.cells #[.slice A10 n11 n12, .int .i64 i13, .int .i64 i14, .int .i64 i15, .int .i64 i16, .int .i64 i17, .int .i64 i18] 65 (0, 0)) → ∃ A23 : Option Addr, ∃ n24 : Nat, ∃ n25 : Nat, (Instr.sliceAt 63 (.pointer (some ⟨g5, 1, none⟩)) none none none).run Try.prog w6 = .ok (.slice A23 n24 n25) w6 ∧
      (
      Calls Try.prog 15 #[(.slice A20 n21 n22), (.slice A23 n24 n25)] w6 fun r w7 => ∃ b26 : Bool, r = .returned (.bool b26) ∧ (Go.Sx.Fr S w0 w7 ∧ Go.Sx.Mild [g5] w6 w7) ∧ 
      (R (.returned (.bool b26)) w7))))) ∧
      ((∀ w5 : World, Go.Sx.Fr S w0 w5 → Below w4.heap.size w4 w5 → w5.heap[g5]? = some (.cells #[.slice A10 n11 n12, .int .i64 i13, .int .i64 i14, .int .i64 i15, .int .i64 i16, .int .i64 i17, .int .i64 i18] 65 (0, 0)) → ∃ A20 : Option Addr, ∃ n21 : Nat, ∃ n22 : Nat, (∀ w', Go.Sx.Keep w4.heap.size (T19 ++ []) w5 w' → (Instr.sliceAt 63 (.pointer (some ⟨g5, 1, none⟩)) none none none).run Try.prog w' = .ok (.slice A20 n21 n22) w') ∧
      (
      Calls Try.prog 36 #[(v7)] w5 fun r w6 => ∃ A23 : Option Addr, ∃ n24 : Nat, ∃ n25 : Nat, r = .returned (.slice A23 n24 n25) ∧ (Go.Sx.Fr S w0 w6 ∧ Go.Sx.Mild [g5] w5 w6) ∧ 
      (
      Calls Try.prog 15 #[(.slice A23 n24 n25), (.slice A20 n21 n22)] w6 fun r w7 => ∃ b26 : Bool, r = .returned (.bool b26) ∧ (Go.Sx.Fr S w0 w7 ∧ Go.Sx.Mild [g5] w6 w7) ∧ 
      (R (.returned (.bool b26)) w7)))))))))) ∧
    ((n1 : Int) ≤ i9 →
    (∃ T19 : List Nat, (∀ b ∈ T19, b < w4.heap.size ∧ b ∉ [g5]) ∧
     (((∀ w5 : World, Go.Sx.Fr S w0 w5 → Below w4.heap.size w4 w5 → 
     Calls Try.prog 36 #[(v7)] w5 fun r w6 => ∃ A20 : Option Addr, ∃ n21 : Nat, ∃ n22 : Nat, r = .returned (.slice A20 n21 n22) ∧ (Go.Sx.Fr S w0 w6 ∧ Go.Sx.Mild [g5] w5 w6) ∧ 
     (w6.heap[g5]? = some (.cells #[.slice A10 n11 n12, .int .i64 i13, .int .i64 i14, .int .i64 i15, .int .i64 i16, .int .i64 i17, .int .i64 i18] 65 (0, 0)) → ∃ A23 : Option Addr, ∃ n24 : Nat, ∃ n25 : Nat, (Instr.sliceAt 63 (.pointer (some ⟨g5, 1, none⟩)) none none none).run Try.prog w6 = .ok (.slice A23 n24 n25) w6 ∧
     (
     Calls Try.prog 15 #[(.slice A20 n21 n22), (.slice A23 n24 n25)] w6 fun r w7 => ∃ b26 : Bool, r = .returned (.bool b26) ∧ (Go.Sx.Fr S w0 w7 ∧ Go.Sx.Mild [g5] w6 w7) ∧ 
     (R (.returned (.bool b26)) w7))))) ∧
     ((∀ w5 : World, Go.Sx.Fr S w0 w5 → Below w4.heap.size w4 w5 → w5.heap[g5]? = some (.cells #[.slice A10 n11 n12, .int .i64 i13, .int .i64 i14, .int .i64 i15, .int .i64 i16, .int .i64 i17, .int .i64 i18] 65 (0, 0)) → ∃ A20 : Option Addr, ∃ n21 : Nat, ∃ n22 : Nat, (∀ w', Go.Sx.Keep w4.heap.size (T19 ++ []) w5 w' → (Instr.sliceAt 63 (.pointer (some ⟨g5, 1, none⟩)) none none none).run Try.prog w' = .ok (.slice A20 n21 n22) w') ∧
     (
     Calls Try.prog 36 #[(v7)] w5 fun r w6 => ∃ A23 : Option Addr, ∃ n24 : Nat, ∃ n25 : Nat, r = .returned (.slice A23 n24 n25) ∧ (Go.Sx.Fr S w0 w6 ∧ Go.Sx.Mild [g5] w5 w6) ∧ 
     (
     Calls Try.prog 15 #[(.slice A23 n24 n25), (.slice A20 n21 n22)] w6 fun r w7 => ∃ b26 : Bool, r = .returned (.bool b26) ∧ (Go.Sx.Fr S w0 w7 ∧ Go.Sx.Mild [g5] w6 w7) ∧ 
     (R (.returned (.bool b26)) w7)))))))))))))))))) :
    Calls Try.prog 10 #[(.slice A0 n1 n2)] w0 R :=
  Go.Sx.fn_sound0 (P := Try.prog) (S := S) (w0 := w0) (R := R) (ws := [38]) (an := [⟨999998, [], [], 0⟩, ⟨999999, [], [], 0⟩, ⟨7, [], [(5, 0), (5, 1), (5, 2), (5, 3), (5, 4), (5, 5), (5, 6)], 0⟩]) (f := 10) (n := 3) (xs := [.one (.slice (.var 0) (.var 1) (.var 2))]) (e := [.a A0, .n n1, .n n2]) rfl (by kernel_rfl) (Eq.mp (by kernel_rfl) h)


end Go.Proofs.Ytdjjfpcfclheiaa
