/- What is left of the laws on operations, by Sx. -/
import Derived.Test.YtlcjlcfogcbddaaProg
import Derived.Test.YtlcjlcfogcbddaaSs
import Derived.KernelRfl
set_option linter.unusedVariables false
namespace Go.Proofs.Ytlcjlcfogcbddaa
open Go Go.RowKit Go.Proofs Go.Trc
set_option maxRecDepth 100000
/-- tracery/tracerylaw09.OpParts: what is left of it. -/
theorem opParts_sx (R : Ending → World → Prop) (S : Nat → Prop) (w0 : World) (A0 : Option Addr) (n1 : Nat) (n2 : Nat) (i3 : Int) (h :
 ∀ g4 : Nat, w0.heap.size ≤ g4 → (∀ w1 : World, Go.Sx.Fr S w0 w1 → Below w0.heap.size w0 w1 → w0.heap.size ≤ g4 → w1.heap[g4]? = some (.cells #[.slice A0 n1 n2] 38 (0, 0)) → 
 Calls Try.prog 9 #[] w1 fun r w2 => ∃ b5 : Bool, r = .returned (.bool b5) ∧ (Go.Sx.Fr S w0 w2 ∧ Go.Sx.Mild [g4] w1 w2) ∧ 
 (
 Calls Try.prog 13 #[(.agg #[.slice A0 n1 n2])] w2 fun r w3 => ∃ A6 : Option Addr, ∃ n7 : Nat, ∃ n8 : Nat, r = .returned (.agg #[.slice A6 n7 n8]) ∧ (Go.Sx.Fr S w0 w3 ∧ Go.Sx.Mild [g4] w2 w3) ∧ 
 (∀ w4 : World, Go.Sx.Fr S w0 w4 → Go.Sx.Fr (fun b => b ∈ [g4]) w3 w4 → 
 Calls Try.prog 12 #[(.agg #[.slice A6 n7 n8])] w4 fun r w5 => ∃ i9 : Int, r = .returned (.int .i64 i9) ∧ (Go.Sx.Fr S w0 w5 ∧ Go.Sx.Mild [g4] w4 w5) ∧ 
 ((¬ i9 = (0 : Int) →
 (R (.returned (.bool b5)) w5)) ∧
 (i9 = (0 : Int) →
 ((i3 < (0 : Int) →
  (R (.returned (.bool b5)) w5)) ∧
  ((0 : Int) ≤ i3 →
  (((n7 : Int) ≤ i3 →
   (R (.returned (.bool b5)) w5)) ∧
   (i3 < (n7 : Int) →
   (
    (∀ w6 : World, Go.Sx.Fr S w0 w6 → Below w5.heap.size w5 w6 → ∃ A11 : Option Addr, ∃ n12 : Nat, ∃ n13 : Nat, (∀ w', Go.Sx.Keep w5.heap.size [] w6 w' → (Instr.sliceAt 36 (.slice A6 n7 n8) none (some (.int .i64 i3)) none).run Try.prog w' = .ok (.slice A11 n12 n13) w') ∧
    (∃ A14 : Option Addr, ∃ n15 : Nat, ∃ n16 : Nat, (∀ w', Go.Sx.Keep w5.heap.size [] w6 w' → (Instr.sliceAt 36 (.slice A6 n7 n8) (some (.int .i64 (IntKind.i64.wrap (i3 + (1 : Int))))) none none).run Try.prog w' = .ok (.slice A14 n15 n16) w') ∧
    ((∀ g17 : Nat, w0.heap.size ≤ g17 → (((∀ w7 : World, Go.Sx.Fr S w0 w7 → Below w6.heap.size w6 w7 → w6.heap.size ≤ g17 → w7.heap[g17]? = some (.cells #[] 29 (0, 0)) → 
    ∃ w8 : World, ∃ A18 : Option Addr, ∃ n19 : Nat, ∃ n20 : Nat, (Builtin.append_ #[36, 36] 36 #[(.slice (some ⟨g17, 0, none⟩) 0 0), (.slice A11 n12 n13)]).run Try.prog w7 = .ok (.slice A18 n19 n20) w8 ∧ (Go.Sx.Fr S w0 w8 ∧ Go.Sx.Mild [g17, g4] w7 w8) ∧ Go.Sx.Keep w5.heap.size [] w7 w8 ∧ 
    (((
    ∃ w9 : World, ∃ A21 : Option Addr, ∃ n22 : Nat, ∃ n23 : Nat, (Builtin.append_ #[36, 36] 36 #[(.slice A18 n19 n20), (.slice A14 n15 n16)]).run Try.prog w8 = .ok (.slice A21 n22 n23) w9 ∧ (Go.Sx.Fr S w0 w9 ∧ Go.Sx.Mild [g17, g4] w8 w9) ∧ 
    ∀ g24 : Nat, w0.heap.size ≤ g24 → (((n22 : Int) = (0 : Int) →
    ∀ g25 : Nat, w0.heap.size ≤ g25 → (∃ (I0 : Int → Option Addr → Nat → Nat → World → Prop) (M0 : Int → Option Addr → Nat → Nat → World → Nat), (∀ w10 : World, Go.Sx.Fr S w0 w10 → Below w9.heap.size w9 w10 → w9.heap.size ≤ g25 → w10.heap[g25]? = some (.cells #[.slice none 0 0] 38 (0, 0)) → w9.heap.size ≤ g24 → w10.heap[g24]? = some (.cells #[.slice A21 n22 n23] 38 (0, 0)) → I0 (0 : Int) none 0 0 w10) ∧
     ∀ i26 : Int, ∀ A27 : Option Addr, ∀ n28 : Nat, ∀ n29 : Nat, ∀ w11 : World, Go.Sx.Fr S w0 w11 → I0 i26 A27 n28 n29 w11 → w11.heap[g25]? = some (.cells #[.slice A27 n28 n29] 38 (0, 0)) → 
      ((i26 < (7 : Int) →
      (
       ((0 : Int) ≤ i3 ∧ i3 < (n7 : Int) ∧ ∃ p31 : Nat, ∃ o32 : Nat, A6 = some ⟨p31, o32, none⟩ ∧
       (∀ w12 : World, Go.Sx.Fr S w0 w12 → Below w11.heap.size w11 w12 → ∃ i33 : Int, ∃ i34 : Int, ∃ i35 : Int, ∃ i36 : Int, ∃ i37 : Int, ∃ i38 : Int, ∃ i39 : Int, ∃ i40 : Int, ∃ i41 : Int, ∃ i42 : Int, ∃ i43 : Int, ∃ i44 : Int, ∃ i45 : Int, ∃ i46 : Int, ∃ i47 : Int, ∃ i48 : Int, ∃ i49 : Int, ∃ b50 : Bool, ∃ s51 : ByteArray, ∃ i52 : Int, Go.Sx.CellsAt w12 p31 (o32 + (i3).toNat * 20 + 0) [.int .i64 i33, .int .i64 i34, .int .i64 i35, .int .i64 i36, .int .i64 i37, .int .i64 i38, .int .i64 i39, .int .i64 i40, .int .i64 i41, .int .i64 i42, .int .i64 i43, .int .i64 i44, .int .i64 i45, .int .i64 i46, .int .i64 i47, .int .i64 i48, .int .i64 i49, .bool b50, .string s51, .int .i64 i52] ∧ (p31 < w11.heap.size ∧ p31 ∉ []) ∧ 
       ∀ g53 : Nat, w0.heap.size ≤ g53 → (∀ w13 : World, Go.Sx.Fr S w0 w13 → Below w12.heap.size w12 w13 → w12.heap.size ≤ g53 → w13.heap[g53]? = some (.cells #[.int .i64 i33, .int .i64 i34, .int .i64 i35, .int .i64 i36, .int .i64 i37, .int .i64 i38, .int .i64 i39, .int .i64 i40, .int .i64 i41, .int .i64 i42, .int .i64 i43, .int .i64 i44, .int .i64 i45, .int .i64 i46, .int .i64 i47, .int .i64 i48, .int .i64 i49, .bool b50, .string s51, .int .i64 i52] 29 (0, 0)) → 
       ∃ w14 : World, ∃ A54 : Option Addr, ∃ n55 : Nat, ∃ n56 : Nat, (Builtin.append_ #[36, 36] 36 #[(.slice A27 n28 n29), (.slice (some ⟨g53, 0, none⟩) 1 1)]).run Try.prog w13 = .ok (.slice A54 n55 n56) w14 ∧ (Go.Sx.Fr S w0 w14 ∧ Go.Sx.Mild [g53, g25, g24, g17, g4] w13 w14) ∧ 
       (∀ w15 : World, Go.Sx.Fr S w0 w15 → Go.Sx.Fr (fun b => b ∈ [g25]) w14 w15 → I0 (IntKind.i64.wrap (i26 + (1 : Int))) A54 n55 n56 w15 ∧ M0 (IntKind.i64.wrap (i26 + (1 : Int))) A54 n55 n56 w15 < M0 i26 A27 n28 n29 w11)))))) ∧
      ((7 : Int) ≤ i26 →
      ((b5 = true →
       ((0 : Int) ≤ i3 ∧ i3 < (n7 : Int) ∧ ∃ p30 : Nat, ∃ o31 : Nat, A6 = some ⟨p30, o31, none⟩ ∧
        (∃ i32 : Int, ∃ i33 : Int, ∃ i34 : Int, ∃ i35 : Int, ∃ i36 : Int, ∃ i37 : Int, ∃ i38 : Int, ∃ i39 : Int, ∃ i40 : Int, ∃ i41 : Int, ∃ i42 : Int, ∃ i43 : Int, ∃ i44 : Int, ∃ i45 : Int, ∃ i46 : Int, ∃ i47 : Int, ∃ i48 : Int, ∃ b49 : Bool, ∃ s50 : ByteArray, ∃ i51 : Int, Go.Sx.CellsAt w11 p30 (o31 + (i3).toNat * 20 + 0) [.int .i64 i32, .int .i64 i33, .int .i64 i34, .int .i64 i35, .int .i64 i36, .int .i64 i37, .int .i64 i38, .int .i64 i39, .int .i64 i40, .int .i64 i41, .int .i64 i42, .int .i64 i43, .int .i64 i44, .int .i64 i45, .int .i64 i46, .int .i64 i47, .int .i64 i48, .bool b49, .string s50, .int .i64 i51] ∧ 
        (
        Calls Try.prog 10 #[(.agg #[.int .i64 i32, .int .i64 i33, .int .i64 i34, .int .i64 i35, .int .i64 i36, .int .i64 i37, .int .i64 i38, .int .i64 i39, .int .i64 i40, .int .i64 i41, .int .i64 i42, .int .i64 i43, .int .i64 i44, .int .i64 i45, .int .i64 i46, .int .i64 i47, .int .i64 i48, .bool b49, .string s50, .int .i64 i51])] w11 fun r w12 => ∃ i52 : Int, r = .returned (.int .i64 i52) ∧ (Go.Sx.Fr S w0 w12 ∧ Go.Sx.Mild [g25, g24, g17, g4] w11 w12) ∧ 
        ((i52 = (0 : Int) →
        (
         Calls Try.prog 12 #[(.agg #[.slice A21 n22 n23])] w12 fun r w13 => ∃ i53 : Int, r = .returned (.int .i64 i53) ∧ (Go.Sx.Fr S w0 w13 ∧ Go.Sx.Mild [g25, g24, g17, g4] w12 w13) ∧ 
         ((i53 = (3 : Int) →
         (
          Calls Try.prog 12 #[(.agg #[.slice A27 n28 n29])] w13 fun r w14 => ∃ i54 : Int, r = .returned (.int .i64 i54) ∧ (Go.Sx.Fr S w0 w14 ∧ Go.Sx.Mild [g25, g24, g17, g4] w13 w14) ∧ 
          ((i54 = (3 : Int) →
          (
           Calls Try.prog 14 #[(.agg #[.slice A21 n22 n23]), (.agg #[.slice A6 n7 n8])] w14 fun r w15 => ∃ b55 : Bool, r = .returned (.bool b55) ∧ (Go.Sx.Fr S w0 w15 ∧ Go.Sx.Mild [g25, g24, g17, g4] w14 w15) ∧ 
           ((b55 = false →
           (
            Calls Try.prog 14 #[(.agg #[.slice A6 n7 n8]), (.agg #[.slice A6 n7 n8])] w15 fun r w16 => ∃ b56 : Bool, r = .returned (.bool b56) ∧ (Go.Sx.Fr S w0 w16 ∧ Go.Sx.Mild [g25, g24, g17, g4] w15 w16) ∧ 
            (R (.returned (.bool b56)) w16))) ∧
           (b55 = true →
           (R (.returned (.bool false)) w15))))) ∧
          (¬ i54 = (3 : Int) →
          (R (.returned (.bool false)) w14))))) ∧
         (¬ i53 = (3 : Int) →
         (R (.returned (.bool false)) w13))))) ∧
        (¬ i52 = (0 : Int) →
        (R (.returned (.bool false)) w12))))))) ∧
       (b5 = false →
       (R (.returned (.bool false)) w11))))))) ∧
    (¬ (n22 : Int) = (0 : Int) →
    ∀ g25 : Nat, w0.heap.size ≤ g25 → (∃ (I0 : Int → Option Addr → Nat → Nat → World → Prop) (M0 : Int → Option Addr → Nat → Nat → World → Nat), (∀ w10 : World, Go.Sx.Fr S w0 w10 → Below w9.heap.size w9 w10 → w9.heap.size ≤ g25 → w10.heap[g25]? = some (.cells #[.slice none 0 0] 38 (0, 0)) → w9.heap.size ≤ g24 → w10.heap[g24]? = some (.cells #[.slice A21 n22 n23] 38 (0, 0)) → I0 (0 : Int) none 0 0 w10) ∧
     ∀ i26 : Int, ∀ A27 : Option Addr, ∀ n28 : Nat, ∀ n29 : Nat, ∀ w11 : World, Go.Sx.Fr S w0 w11 → I0 i26 A27 n28 n29 w11 → w11.heap[g25]? = some (.cells #[.slice A27 n28 n29] 38 (0, 0)) → 
      ((i26 < (7 : Int) →
      (
       ((0 : Int) ≤ i3 ∧ i3 < (n7 : Int) ∧ ∃ p31 : Nat, ∃ o32 : Nat, A6 = some ⟨p31, o32, none⟩ ∧
       (∀ w12 : World, Go.Sx.Fr S w0 w12 → Below w11.heap.size w11 w12 → ∃ i33 : Int, ∃ i34 : Int, ∃ i35 : Int, ∃ i36 : Int, ∃ i37 : Int, ∃ i38 : Int, ∃ i39 : Int, ∃ i40 : Int, ∃ i41 : Int, ∃ i42 : Int, ∃ i43 : Int, ∃ i44 : Int, ∃ i45 : Int, ∃ i46 : Int, ∃ i47 : Int, ∃ i48 : Int, ∃ i49 : Int, ∃ b50 : Bool, ∃ s51 : ByteArray, ∃ i52 : Int, Go.Sx.CellsAt w12 p31 (o32 + (i3).toNat * 20 + 0) [.int .i64 i33, .int .i64 i34, .int .i64 i35, .int .i64 i36, .int .i64 i37, .int .i64 i38, .int .i64 i39, .int .i64 i40, .int .i64 i41, .int .i64 i42, .int .i64 i43, .int .i64 i44, .int .i64 i45, .int .i64 i46, .int .i64 i47, .int .i64 i48, .int .i64 i49, .bool b50, .string s51, .int .i64 i52] ∧ (p31 < w11.heap.size ∧ p31 ∉ []) ∧ 
       ∀ g53 : Nat, w0.heap.size ≤ g53 → (∀ w13 : World, Go.Sx.Fr S w0 w13 → Below w12.heap.size w12 w13 → w12.heap.size ≤ g53 → w13.heap[g53]? = some (.cells #[.int .i64 i33, .int .i64 i34, .int .i64 i35, .int .i64 i36, .int .i64 i37, .int .i64 i38, .int .i64 i39, .int .i64 i40, .int .i64 i41, .int .i64 i42, .int .i64 i43, .int .i64 i44, .int .i64 i45, .int .i64 i46, .int .i64 i47, .int .i64 i48, .int .i64 i49, .bool b50, .string s51, .int .i64 i52] 29 (0, 0)) → 
       ∃ w14 : World, ∃ A54 : Option Addr, ∃ n55 : Nat, ∃ n56 : Nat, (Builtin.append_ #[36, 36] 36 #[(.slice A27 n28 n29), (.slice (some ⟨g53, 0, none⟩) 1 1)]).run Try.prog w13 = .ok (.slice A54 n55 n56) w14 ∧ (Go.Sx.Fr S w0 w14 ∧ Go.Sx.Mild [g53, g25, g24, g17, g4] w13 w14) ∧ 
       (∀ w15 : World, Go.Sx.Fr S w0 w15 → Go.Sx.Fr (fun b => b ∈ [g25]) w14 w15 → I0 (IntKind.i64.wrap (i26 + (1 : Int))) A54 n55 n56 w15 ∧ M0 (IntKind.i64.wrap (i26 + (1 : Int))) A54 n55 n56 w15 < M0 i26 A27 n28 n29 w11)))))) ∧
      ((7 : Int) ≤ i26 →
      ((b5 = true →
       ((0 : Int) ≤ i3 ∧ i3 < (n7 : Int) ∧ ∃ p30 : Nat, ∃ o31 : Nat, A6 = some ⟨p30, o31, none⟩ ∧
        (∃ i32 : Int, ∃ i33 : Int, ∃ i34 : Int, ∃ i35 : Int, ∃ i36 : Int, ∃ i37 : Int, ∃ i38 : Int, ∃ i39 : Int, ∃ i40 : Int, ∃ i41 : Int, ∃ i42 : Int, ∃ i43 : Int, ∃ i44 : Int, ∃ i45 : Int, ∃ i46 : Int, ∃ i47 : Int, ∃ i48 : Int, ∃ b49 : Bool, ∃ s50 : ByteArray, ∃ i51 : Int, Go.Sx.CellsAt w11 p30 (o31 + (i3).toNat * 20 + 0) [.int .i64 i32, .int .i64 i33, .int .i64 i34, .int .i64 i35, .int .i64 i36, .int .i64 i37, .int .i64 i38, .int .i64 i39, .int .i64 i40, .int .i64 i41, .int .i64 i42, .int .i64 i43, .int .i64 i44, .int .i64 i45, .int .i64 i46, .int .i64 i47, .int .i64 i48, .bool b49, .string s50, .int .i64 i51] ∧ 
        (
        Calls Try.prog 10 #[(.agg #[.int .i64 i32, .int .i64 i33, .int .i64 i34, .int .i64 i35, .int .i64 i36, .int .i64 i37, .int .i64 i38, .int .i64 i39, .int .i64 i40, .int .i64 i41, .int .i64 i42, .int .i64 i43, .int .i64 i44, .int .i64 i45, .int .i64 i46, .int .i64 i47, .int .i64 i48, .bool b49, .string s50, .int .i64 i51])] w11 fun r w12 => ∃ i52 : Int, r = .returned (.int .i64 i52) ∧ (Go.Sx.Fr S w0 w12 ∧ Go.Sx.Mild [g25, g24, g17, g4] w11 w12) ∧ 
        ((i52 = (0 : Int) →
        (
         Calls Try.prog 12 #[(.agg #[.slice A21 n22 n23])] w12 fun r w13 => ∃ i53 : Int, r = .returned (.int .i64 i53) ∧ (Go.Sx.Fr S w0 w13 ∧ Go.Sx.Mild [g25, g24, g17, g4] w12 w13) ∧ 
         ((i53 = (0 : Int) →
         (
          Calls Try.prog 12 #[(.agg #[.slice A27 n28 n29])] w13 fun r w14 => ∃ i54 : Int, r = .returned (.int .i64 i54) ∧ (Go.Sx.Fr S w0 w14 ∧ Go.Sx.Mild [g25, g24, g17, g4] w13 w14) ∧ 
          ((i54 = (3 : Int) →
          (
           Calls Try.prog 14 #[(.agg #[.slice A21 n22 n23]), (.agg #[.slice A6 n7 n8])] w14 fun r w15 => ∃ b55 : Bool, r = .returned (.bool b55) ∧ (Go.Sx.Fr S w0 w15 ∧ Go.Sx.Mild [g25, g24, g17, g4] w14 w15) ∧ 
           ((b55 = false →
           (
            Calls Try.prog 14 #[(.agg #[.slice A6 n7 n8]), (.agg #[.slice A6 n7 n8])] w15 fun r w16 => ∃ b56 : Bool, r = .returned (.bool b56) ∧ (Go.Sx.Fr S w0 w16 ∧ Go.Sx.Mild [g25, g24, g17, g4] w15 w16) ∧ 
            (R (.returned (.bool b56)) w16))) ∧
           (b55 = true →
           (R (.returned (.bool false)) w15))))) ∧
          (¬ i54 = (3 : Int) →
          (R (.returned (.bool false)) w14))))) ∧
         (¬ i53 = (0 : Int) →
         (R (.returned (.bool false)) w13))))) ∧
        (¬ i52 = (0 : Int) →
        (R (.returned (.bool false)) w12))))))) ∧
       (b5 = false →
       (R (.returned (.bool false)) w11)))))))))) ∧
    (∀ g21 : Nat, w0.heap.size ≤ g21 → (∀ w9 : World, Go.Sx.Fr S w0 w9 → Below w8.heap.size w8 w9 → w8.heap.size ≤ g21 → w9.heap[g21]? = some (.cells #[.slice none 0 0] 38 (0, 0)) → 
    ∃ w10 : World, ∃ A22 : Option Addr, ∃ n23 : Nat, ∃ n24 : Nat, (Builtin.append_ #[36, 36] 36 #[(.slice A18 n19 n20), (.slice A14 n15 n16)]).run Try.prog w9 = .ok (.slice A22 n23 n24) w10 ∧ (Go.Sx.Fr S w0 w10 ∧ Go.Sx.Mild [g21, g17, g4] w9 w10) ∧ 
    (((n23 : Int) = (0 : Int) →
    ∀ g25 : Nat, w0.heap.size ≤ g25 → (∃ (I0 : Int → Option Addr → Nat → Nat → World → Prop) (M0 : Int → Option Addr → Nat → Nat → World → Nat), (∀ w11 : World, Go.Sx.Fr S w0 w11 → Go.Sx.Fr (fun b => b ∈ [g21]) w10 w11 → w10.heap.size ≤ g25 → w11.heap[g25]? = some (.cells #[.slice none 0 0] 38 (0, 0)) → I0 (0 : Int) none 0 0 w11) ∧
     ∀ i26 : Int, ∀ A27 : Option Addr, ∀ n28 : Nat, ∀ n29 : Nat, ∀ w12 : World, Go.Sx.Fr S w0 w12 → I0 i26 A27 n28 n29 w12 → w12.heap[g25]? = some (.cells #[.slice A27 n28 n29] 38 (0, 0)) → 
      ((i26 < (7 : Int) →
      (
       ((0 : Int) ≤ i3 ∧ i3 < (n7 : Int) ∧ ∃ p31 : Nat, ∃ o32 : Nat, A6 = some ⟨p31, o32, none⟩ ∧
       (∀ w13 : World, Go.Sx.Fr S w0 w13 → Below w12.heap.size w12 w13 → ∃ i33 : Int, ∃ i34 : Int, ∃ i35 : Int, ∃ i36 : Int, ∃ i37 : Int, ∃ i38 : Int, ∃ i39 : Int, ∃ i40 : Int, ∃ i41 : Int, ∃ i42 : Int, ∃ i43 : Int, ∃ i44 : Int, ∃ i45 : Int, ∃ i46 : Int, ∃ i47 : Int, ∃ i48 : Int, ∃ i49 : Int, ∃ b50 : Bool, ∃ s51 : ByteArray, ∃ i52 : Int, Go.Sx.CellsAt w13 p31 (o32 + (i3).toNat * 20 + 0) [.int .i64 i33, .int .i64 i34, .int .i64 i35, .int .i64 i36, .int .i64 i37, .int .i64 i38, .int .i64 i39, .int .i64 i40, .int .i64 i41, .int .i64 i42, .int .i64 i43, .int .i64 i44, .int .i64 i45, .int .i64 i46, .int .i64 i47, .int .i64 i48, .int .i64 i49, .bool b50, .string s51, .int .i64 i52] ∧ (p31 < w12.heap.size ∧ p31 ∉ []) ∧ 
       ∀ g53 : Nat, w0.heap.size ≤ g53 → (∀ w14 : World, Go.Sx.Fr S w0 w14 → Below w13.heap.size w13 w14 → w13.heap.size ≤ g53 → w14.heap[g53]? = some (.cells #[.int .i64 i33, .int .i64 i34, .int .i64 i35, .int .i64 i36, .int .i64 i37, .int .i64 i38, .int .i64 i39, .int .i64 i40, .int .i64 i41, .int .i64 i42, .int .i64 i43, .int .i64 i44, .int .i64 i45, .int .i64 i46, .int .i64 i47, .int .i64 i48, .int .i64 i49, .bool b50, .string s51, .int .i64 i52] 29 (0, 0)) → 
       ∃ w15 : World, ∃ A54 : Option Addr, ∃ n55 : Nat, ∃ n56 : Nat, (Builtin.append_ #[36, 36] 36 #[(.slice A27 n28 n29), (.slice (some ⟨g53, 0, none⟩) 1 1)]).run Try.prog w14 = .ok (.slice A54 n55 n56) w15 ∧ (Go.Sx.Fr S w0 w15 ∧ Go.Sx.Mild [g53, g25, g21, g17, g4] w14 w15) ∧ 
       (∀ w16 : World, Go.Sx.Fr S w0 w16 → Go.Sx.Fr (fun b => b ∈ [g25]) w15 w16 → I0 (IntKind.i64.wrap (i26 + (1 : Int))) A54 n55 n56 w16 ∧ M0 (IntKind.i64.wrap (i26 + (1 : Int))) A54 n55 n56 w16 < M0 i26 A27 n28 n29 w12)))))) ∧
      ((7 : Int) ≤ i26 →
      ((b5 = true →
       ((0 : Int) ≤ i3 ∧ i3 < (n7 : Int) ∧ ∃ p30 : Nat, ∃ o31 : Nat, A6 = some ⟨p30, o31, none⟩ ∧
        (∃ i32 : Int, ∃ i33 : Int, ∃ i34 : Int, ∃ i35 : Int, ∃ i36 : Int, ∃ i37 : Int, ∃ i38 : Int, ∃ i39 : Int, ∃ i40 : Int, ∃ i41 : Int, ∃ i42 : Int, ∃ i43 : Int, ∃ i44 : Int, ∃ i45 : Int, ∃ i46 : Int, ∃ i47 : Int, ∃ i48 : Int, ∃ b49 : Bool, ∃ s50 : ByteArray, ∃ i51 : Int, Go.Sx.CellsAt w12 p30 (o31 + (i3).toNat * 20 + 0) [.int .i64 i32, .int .i64 i33, .int .i64 i34, .int .i64 i35, .int .i64 i36, .int .i64 i37, .int .i64 i38, .int .i64 i39, .int .i64 i40, .int .i64 i41, .int .i64 i42, .int .i64 i43, .int .i64 i44, .int .i64 i45, .int .i64 i46, .int .i64 i47, .int .i64 i48, .bool b49, .string s50, .int .i64 i51] ∧ 
        (
        Calls Try.prog 10 #[(.agg #[.int .i64 i32, .int .i64 i33, .int .i64 i34, .int .i64 i35, .int .i64 i36, .int .i64 i37, .int .i64 i38, .int .i64 i39, .int .i64 i40, .int .i64 i41, .int .i64 i42, .int .i64 i43, .int .i64 i44, .int .i64 i45, .int .i64 i46, .int .i64 i47, .int .i64 i48, .bool b49, .string s50, .int .i64 i51])] w12 fun r w13 => ∃ i52 : Int, r = .returned (.int .i64 i52) ∧ (Go.Sx.Fr S w0 w13 ∧ Go.Sx.Mild [g25, g21, g17, g4] w12 w13) ∧ 
        ((i52 = (0 : Int) →
        (
         Calls Try.prog 12 #[(.agg #[.slice A22 n23 n24])] w13 fun r w14 => ∃ i53 : Int, r = .returned (.int .i64 i53) ∧ (Go.Sx.Fr S w0 w14 ∧ Go.Sx.Mild [g25, g21, g17, g4] w13 w14) ∧ 
         ((i53 = (3 : Int) →
         (
          Calls Try.prog 12 #[(.agg #[.slice A27 n28 n29])] w14 fun r w15 => ∃ i54 : Int, r = .returned (.int .i64 i54) ∧ (Go.Sx.Fr S w0 w15 ∧ Go.Sx.Mild [g25, g21, g17, g4] w14 w15) ∧ 
          ((i54 = (3 : Int) →
          (
           Calls Try.prog 14 #[(.agg #[.slice A22 n23 n24]), (.agg #[.slice A6 n7 n8])] w15 fun r w16 => ∃ b55 : Bool, r = .returned (.bool b55) ∧ (Go.Sx.Fr S w0 w16 ∧ Go.Sx.Mild [g25, g21, g17, g4] w15 w16) ∧ 
           ((b55 = false →
           (
            Calls Try.prog 14 #[(.agg #[.slice A6 n7 n8]), (.agg #[.slice A6 n7 n8])] w16 fun r w17 => ∃ b56 : Bool, r = .returned (.bool b56) ∧ (Go.Sx.Fr S w0 w17 ∧ Go.Sx.Mild [g25, g21, g17, g4] w16 w17) ∧ 
            (R (.returned (.bool b56)) w17))) ∧
           (b55 = true →
           (R (.returned (.bool false)) w16))))) ∧
          (¬ i54 = (3 : Int) →
          (R (.returned (.bool false)) w15))))) ∧
         (¬ i53 = (3 : Int) →
         (R (.returned (.bool false)) w14))))) ∧
        (¬ i52 = (0 : Int) →
        (R (.returned (.bool false)) w13))))))) ∧
       (b5 = false →
       (R (.returned (.bool false)) w12))))))) ∧
    (¬ (n23 : Int) = (0 : Int) →
    ∀ g25 : Nat, w0.heap.size ≤ g25 → (∃ (I0 : Int → Option Addr → Nat → Nat → World → Prop) (M0 : Int → Option Addr → Nat → Nat → World → Nat), (∀ w11 : World, Go.Sx.Fr S w0 w11 → Go.Sx.Fr (fun b => b ∈ [g21]) w10 w11 → w10.heap.size ≤ g25 → w11.heap[g25]? = some (.cells #[.slice none 0 0] 38 (0, 0)) → I0 (0 : Int) none 0 0 w11) ∧
     ∀ i26 : Int, ∀ A27 : Option Addr, ∀ n28 : Nat, ∀ n29 : Nat, ∀ w12 : World, Go.Sx.Fr S w0 w12 → I0 i26 A27 n28 n29 w12 → w12.heap[g25]? = some (.cells #[.slice A27 n28 n29] 38 (0, 0)) → 
      ((i26 < (7 : Int) →
      (
       ((0 : Int) ≤ i3 ∧ i3 < (n7 : Int) ∧ ∃ p31 : Nat, ∃ o32 : Nat, A6 = some ⟨p31, o32, none⟩ ∧
       (∀ w13 : World, Go.Sx.Fr S w0 w13 → Below w12.heap.size w12 w13 → ∃ i33 : Int, ∃ i34 : Int, ∃ i35 : Int, ∃ i36 : Int, ∃ i37 : Int, ∃ i38 : Int, ∃ i39 : Int, ∃ i40 : Int, ∃ i41 : Int, ∃ i42 : Int, ∃ i43 : Int, ∃ i44 : Int, ∃ i45 : Int, ∃ i46 : Int, ∃ i47 : Int, ∃ i48 : Int, ∃ i49 : Int, ∃ b50 : Bool, ∃ s51 : ByteArray, ∃ i52 : Int, Go.Sx.CellsAt w13 p31 (o32 + (i3).toNat * 20 + 0) [.int .i64 i33, .int .i64 i34, .int .i64 i35, .int .i64 i36, .int .i64 i37, .int .i64 i38, .int .i64 i39, .int .i64 i40, .int .i64 i41, .int .i64 i42, .int .i64 i43, .int .i64 i44, .int .i64 i45, .int .i64 i46, .int .i64 i47, .int .i64 i48, .int .i64 i49, .bool b50, .string s51, .int .i64 i52] ∧ (p31 < w12.heap.size ∧ p31 ∉ []) ∧ 
       ∀ g53 : Nat, w0.heap.size ≤ g53 → (∀ w14 : World, Go.Sx.Fr S w0 w14 → Below w13.heap.size w13 w14 → w13.heap.size ≤ g53 → w14.heap[g53]? = some (.cells #[.int .i64 i33, .int .i64 i34, .int .i64 i35, .int .i64 i36, .int .i64 i37, .int .i64 i38, .int .i64 i39, .int .i64 i40, .int .i64 i41, .int .i64 i42, .int .i64 i43, .int .i64 i44, .int .i64 i45, .int .i64 i46, .int .i64 i47, .int .i64 i48, .int .i64 i49, .bool b50, .string s51, .int .i64 i52] 29 (0, 0)) → 
       ∃ w15 : World, ∃ A54 : Option Addr, ∃ n55 : Nat, ∃ n56 : Nat, (Builtin.append_ #[36, 36] 36 #[(.slice A27 n28 n29), (.slice (some ⟨g53, 0, none⟩) 1 1)]).run Try.prog w14 = .ok (.slice A54 n55 n56) w15 ∧ (Go.Sx.Fr S w0 w15 ∧ Go.Sx.Mild [g53, g25, g21, g17, g4] w14 w15) ∧ 
       (∀ w16 : World, Go.Sx.Fr S w0 w16 → Go.Sx.Fr (fun b => b ∈ [g25]) w15 w16 → I0 (IntKind.i64.wrap (i26 + (1 : Int))) A54 n55 n56 w16 ∧ M0 (IntKind.i64.wrap (i26 + (1 : Int))) A54 n55 n56 w16 < M0 i26 A27 n28 n29 w12)))))) ∧
      ((7 : Int) ≤ i26 →
      ((b5 = true →
       ((0 : Int) ≤ i3 ∧ i3 < (n7 : Int) ∧ ∃ p30 : Nat, ∃ o31 : Nat, A6 = some ⟨p30, o31, none⟩ ∧
        (∃ i32 : Int, ∃ i33 : Int, ∃ i34 : Int, ∃ i35 : Int, ∃ i36 : Int, ∃ i37 : Int, ∃ i38 : Int, ∃ i39 : Int, ∃ i40 : Int, ∃ i41 : Int, ∃ i42 : Int, ∃ i43 : Int, ∃ i44 : Int, ∃ i45 : Int, ∃ i46 : Int, ∃ i47 : Int, ∃ i48 : Int, ∃ b49 : Bool, ∃ s50 : ByteArray, ∃ i51 : Int, Go.Sx.CellsAt w12 p30 (o31 + (i3).toNat * 20 + 0) [.int .i64 i32, .int .i64 i33, .int .i64 i34, .int .i64 i35, .int .i64 i36, .int .i64 i37, .int .i64 i38, .int .i64 i39, .int .i64 i40, .int .i64 i41, .int .i64 i42, .int .i64 i43, .int .i64 i44, .int .i64 i45, .int .i64 i46, .int .i64 i47, .int .i64 i48, .bool b49, .string s50, .int .i64 i51] ∧ 
        (
        Calls Try.prog 10 #[(.agg #[.int .i64 i32, .int .i64 i33, .int .i64 i34, .int .i64 i35, .int .i64 i36, .int .i64 i37, .int .i64 i38, .int .i64 i39, .int .i64 i40, .int .i64 i41, .int .i64 i42, .int .i64 i43, .int .i64 i44, .int .i64 i45, .int .i64 i46, .int .i64 i47, .int .i64 i48, .bool b49, .string s50, .int .i64 i51])] w12 fun r w13 => ∃ i52 : Int, r = .returned (.int .i64 i52) ∧ (Go.Sx.Fr S w0 w13 ∧ Go.Sx.Mild [g25, g21, g17, g4] w12 w13) ∧ 
        ((i52 = (0 : Int) →
        (
         Calls Try.prog 12 #[(.agg #[.slice A22 n23 n24])] w13 fun r w14 => ∃ i53 : Int, r = .returned (.int .i64 i53) ∧ (Go.Sx.Fr S w0 w14 ∧ Go.Sx.Mild [g25, g21, g17, g4] w13 w14) ∧ 
         ((i53 = (0 : Int) →
         (
          Calls Try.prog 12 #[(.agg #[.slice A27 n28 n29])] w14 fun r w15 => ∃ i54 : Int, r = .returned (.int .i64 i54) ∧ (Go.Sx.Fr S w0 w15 ∧ Go.Sx.Mild [g25, g21, g17, g4] w14 w15) ∧ 
          ((i54 = (3 : Int) →
          (
           Calls Try.prog 14 #[(.agg #[.slice A22 n23 n24]), (.agg #[.slice A6 n7 n8])] w15 fun r w16 => ∃ b55 : Bool, r = .returned (.bool b55) ∧ (Go.Sx.Fr S w0 w16 ∧ Go.Sx.Mild [g25, g21, g17, g4] w15 w16) ∧ 
           ((b55 = false →
           (
            Calls Try.prog 14 #[(.agg #[.slice A6 n7 n8]), (.agg #[.slice A6 n7 n8])] w16 fun r w17 => ∃ b56 : Bool, r = .returned (.bool b56) ∧ (Go.Sx.Fr S w0 w17 ∧ Go.Sx.Mild [g25, g21, g17, g4] w16 w17) ∧ 
            (R (.returned (.bool b56)) w17))) ∧
           (b55 = true →
           (R (.returned (.bool false)) w16))))) ∧
          (¬ i54 = (3 : Int) →
          (R (.returned (.bool false)) w15))))) ∧
         (¬ i53 = (0 : Int) →
         (R (.returned (.bool false)) w14))))) ∧
        (¬ i52 = (0 : Int) →
        (R (.returned (.bool false)) w13))))))) ∧
       (b5 = false →
       (R (.returned (.bool false)) w12))))))))))))) ∧
    (∀ g18 : Nat, w0.heap.size ≤ g18 → (∀ w7 : World, Go.Sx.Fr S w0 w7 → Below w6.heap.size w6 w7 → w6.heap.size ≤ g18 → w7.heap[g18]? = some (.cells #[.slice none 0 0] 38 (0, 0)) → w6.heap.size ≤ g17 → w7.heap[g17]? = some (.cells #[] 29 (0, 0)) → 
    ∃ w8 : World, ∃ A19 : Option Addr, ∃ n20 : Nat, ∃ n21 : Nat, (Builtin.append_ #[36, 36] 36 #[(.slice (some ⟨g17, 0, none⟩) 0 0), (.slice A11 n12 n13)]).run Try.prog w7 = .ok (.slice A19 n20 n21) w8 ∧ (Go.Sx.Fr S w0 w8 ∧ Go.Sx.Mild [g18, g17, g4] w7 w8) ∧ Go.Sx.Keep w5.heap.size [] w7 w8 ∧ 
    (
    ∃ w9 : World, ∃ A22 : Option Addr, ∃ n23 : Nat, ∃ n24 : Nat, (Builtin.append_ #[36, 36] 36 #[(.slice A19 n20 n21), (.slice A14 n15 n16)]).run Try.prog w8 = .ok (.slice A22 n23 n24) w9 ∧ (Go.Sx.Fr S w0 w9 ∧ Go.Sx.Mild [g18, g17, g4] w8 w9) ∧ 
    (((n23 : Int) = (0 : Int) →
    ∀ g25 : Nat, w0.heap.size ≤ g25 → (∃ (I0 : Int → Option Addr → Nat → Nat → World → Prop) (M0 : Int → Option Addr → Nat → Nat → World → Nat), (∀ w10 : World, Go.Sx.Fr S w0 w10 → Go.Sx.Fr (fun b => b ∈ [g18]) w9 w10 → w9.heap.size ≤ g25 → w10.heap[g25]? = some (.cells #[.slice none 0 0] 38 (0, 0)) → I0 (0 : Int) none 0 0 w10) ∧
     ∀ i26 : Int, ∀ A27 : Option Addr, ∀ n28 : Nat, ∀ n29 : Nat, ∀ w11 : World, Go.Sx.Fr S w0 w11 → I0 i26 A27 n28 n29 w11 → w11.heap[g25]? = some (.cells #[.slice A27 n28 n29] 38 (0, 0)) → 
      ((i26 < (7 : Int) →
      (
       ((0 : Int) ≤ i3 ∧ i3 < (n7 : Int) ∧ ∃ p31 : Nat, ∃ o32 : Nat, A6 = some ⟨p31, o32, none⟩ ∧
       (∀ w12 : World, Go.Sx.Fr S w0 w12 → Below w11.heap.size w11 w12 → ∃ i33 : Int, ∃ i34 : Int, ∃ i35 : Int, ∃ i36 : Int, ∃ i37 : Int, ∃ i38 : Int, ∃ i39 : Int, ∃ i40 : Int, ∃ i41 : Int, ∃ i42 : Int, ∃ i43 : Int, ∃ i44 : Int, ∃ i45 : Int, ∃ i46 : Int, ∃ i47 : Int, ∃ i48 : Int, ∃ i49 : Int, ∃ b50 : Bool, ∃ s51 : ByteArray, ∃ i52 : Int, Go.Sx.CellsAt w12 p31 (o32 + (i3).toNat * 20 + 0) [.int .i64 i33, .int .i64 i34, .int .i64 i35, .int .i64 i36, .int .i64 i37, .int .i64 i38, .int .i64 i39, .int .i64 i40, .int .i64 i41, .int .i64 i42, .int .i64 i43, .int .i64 i44, .int .i64 i45, .int .i64 i46, .int .i64 i47, .int .i64 i48, .int .i64 i49, .bool b50, .string s51, .int .i64 i52] ∧ (p31 < w11.heap.size ∧ p31 ∉ []) ∧ 
       ∀ g53 : Nat, w0.heap.size ≤ g53 → (∀ w13 : World, Go.Sx.Fr S w0 w13 → Below w12.heap.size w12 w13 → w12.heap.size ≤ g53 → w13.heap[g53]? = some (.cells #[.int .i64 i33, .int .i64 i34, .int .i64 i35, .int .i64 i36, .int .i64 i37, .int .i64 i38, .int .i64 i39, .int .i64 i40, .int .i64 i41, .int .i64 i42, .int .i64 i43, .int .i64 i44, .int .i64 i45, .int .i64 i46, .int .i64 i47, .int .i64 i48, .int .i64 i49, .bool b50, .string s51, .int .i64 i52] 29 (0, 0)) → 
       ∃ w14 : World, ∃ A54 : Option Addr, ∃ n55 : Nat, ∃ n56 : Nat, (Builtin.append_ #[36, 36] 36 #[(.slice A27 n28 n29), (.slice (some ⟨g53, 0, none⟩) 1 1)]).run Try.prog w13 = .ok (.slice A54 n55 n56) w14 ∧ (Go.Sx.Fr S w0 w14 ∧ Go.Sx.Mild [g53, g25, g18, g17, g4] w13 w14) ∧ 
       (∀ w15 : World, Go.Sx.Fr S w0 w15 → Go.Sx.Fr (fun b => b ∈ [g25]) w14 w15 → I0 (IntKind.i64.wrap (i26 + (1 : Int))) A54 n55 n56 w15 ∧ M0 (IntKind.i64.wrap (i26 + (1 : Int))) A54 n55 n56 w15 < M0 i26 A27 n28 n29 w11)))))) ∧
      ((7 : Int) ≤ i26 →
      ((b5 = true →
       ((0 : Int) ≤ i3 ∧ i3 < (n7 : Int) ∧ ∃ p30 : Nat, ∃ o31 : Nat, A6 = some ⟨p30, o31, none⟩ ∧
        (∃ i32 : Int, ∃ i33 : Int, ∃ i34 : Int, ∃ i35 : Int, ∃ i36 : Int, ∃ i37 : Int, ∃ i38 : Int, ∃ i39 : Int, ∃ i40 : Int, ∃ i41 : Int, ∃ i42 : Int, ∃ i43 : Int, ∃ i44 : Int, ∃ i45 : Int, ∃ i46 : Int, ∃ i47 : Int, ∃ i48 : Int, ∃ b49 : Bool, ∃ s50 : ByteArray, ∃ i51 : Int, Go.Sx.CellsAt w11 p30 (o31 + (i3).toNat * 20 + 0) [.int .i64 i32, .int .i64 i33, .int .i64 i34, .int .i64 i35, .int .i64 i36, .int .i64 i37, .int .i64 i38, .int .i64 i39, .int .i64 i40, .int .i64 i41, .int .i64 i42, .int .i64 i43, .int .i64 i44, .int .i64 i45, .int .i64 i46, .int .i64 i47, .int .i64 i48, .bool b49, .string s50, .int .i64 i51] ∧ 
        (
        Calls Try.prog 10 #[(.agg #[.int .i64 i32, .int .i64 i33, .int .i64 i34, .int .i64 i35, .int .i64 i36, .int .i64 i37, .int .i64 i38, .int .i64 i39, .int .i64 i40, .int .i64 i41, .int .i64 i42, .int .i64 i43, .int .i64 i44, .int .i64 i45, .int .i64 i46, .int .i64 i47, .int .i64 i48, .bool b49, .string s50, .int .i64 i51])] w11 fun r w12 => ∃ i52 : Int, r = .returned (.int .i64 i52) ∧ (Go.Sx.Fr S w0 w12 ∧ Go.Sx.Mild [g25, g18, g17, g4] w11 w12) ∧ 
        ((i52 = (0 : Int) →
        (
         Calls Try.prog 12 #[(.agg #[.slice A22 n23 n24])] w12 fun r w13 => ∃ i53 : Int, r = .returned (.int .i64 i53) ∧ (Go.Sx.Fr S w0 w13 ∧ Go.Sx.Mild [g25, g18, g17, g4] w12 w13) ∧ 
         ((i53 = (3 : Int) →
         (
          Calls Try.prog 12 #[(.agg #[.slice A27 n28 n29])] w13 fun r w14 => ∃ i54 : Int, r = .returned (.int .i64 i54) ∧ (Go.Sx.Fr S w0 w14 ∧ Go.Sx.Mild [g25, g18, g17, g4] w13 w14) ∧ 
          ((i54 = (3 : Int) →
          (
           Calls Try.prog 14 #[(.agg #[.slice A22 n23 n24]), (.agg #[.slice A6 n7 n8])] w14 fun r w15 => ∃ b55 : Bool, r = .returned (.bool b55) ∧ (Go.Sx.Fr S w0 w15 ∧ Go.Sx.Mild [g25, g18, g17, g4] w14 w15) ∧ 
           ((b55 = false →
           (
            Calls Try.prog 14 #[(.agg #[.slice A6 n7 n8]), (.agg #[.slice A6 n7 n8])] w15 fun r w16 => ∃ b56 : Bool, r = .returned (.bool b56) ∧ (Go.Sx.Fr S w0 w16 ∧ Go.Sx.Mild [g25, g18, g17, g4] w15 w16) ∧ 
            (R (.returned (.bool b56)) w16))) ∧
           (b55 = true →
           (R (.returned (.bool false)) w15))))) ∧
          (¬ i54 = (3 : Int) →
          (R (.returned (.bool false)) w14))))) ∧
         (¬ i53 = (3 : Int) →
         (R (.returned (.bool false)) w13))))) ∧
        (¬ i52 = (0 : Int) →
        (R (.returned (.bool false)) w12))))))) ∧
       (b5 = false →
       (R (.returned (.bool false)) w11))))))) ∧
    (¬ (n23 : Int) = (0 : Int) →
    ∀ g25 : Nat, w0.heap.size ≤ g25 → (∃ (I0 : Int → Option Addr → Nat → Nat → World → Prop) (M0 : Int → Option Addr → Nat → Nat → World → Nat), (∀ w10 : World, Go.Sx.Fr S w0 w10 → Go.Sx.Fr (fun b => b ∈ [g18]) w9 w10 → w9.heap.size ≤ g25 → w10.heap[g25]? = some (.cells #[.slice none 0 0] 38 (0, 0)) → I0 (0 : Int) none 0 0 w10) ∧
     ∀ i26 : Int, ∀ A27 : Option Addr, ∀ n28 : Nat, ∀ n29 : Nat, ∀ w11 : World, Go.Sx.Fr S w0 w11 → I0 i26 A27 n28 n29 w11 → w11.heap[g25]? = some (.cells #[.slice A27 n28 n29] 38 (0, 0)) → 
      ((i26 < (7 : Int) →
      (
       ((0 : Int) ≤ i3 ∧ i3 < (n7 : Int) ∧ ∃ p31 : Nat, ∃ o32 : Nat, A6 = some ⟨p31, o32, none⟩ ∧
       (∀ w12 : World, Go.Sx.Fr S w0 w12 → Below w11.heap.size w11 w12 → ∃ i33 : Int, ∃ i34 : Int, ∃ i35 : Int, ∃ i36 : Int, ∃ i37 : Int, ∃ i38 : Int, ∃ i39 : Int, ∃ i40 : Int, ∃ i41 : Int, ∃ i42 : Int, ∃ i43 : Int, ∃ i44 : Int, ∃ i45 : Int, ∃ i46 : Int, ∃ i47 : Int, ∃ i48 : Int, ∃ i49 : Int, ∃ b50 : Bool, ∃ s51 : ByteArray, ∃ i52 : Int, Go.Sx.CellsAt w12 p31 (o32 + (i3).toNat * 20 + 0) [.int .i64 i33, .int .i64 i34, .int .i64 i35, .int .i64 i36, .int .i64 i37, .int .i64 i38, .int .i64 i39, .int .i64 i40, .int .i64 i41, .int .i64 i42, .int .i64 i43, .int .i64 i44, .int .i64 i45, .int .i64 i46, .int .i64 i47, .int .i64 i48, .int .i64 i49, .bool b50, .string s51, .int .i64 i52] ∧ (p31 < w11.heap.size ∧ p31 ∉ []) ∧ 
       ∀ g53 : Nat, w0.heap.size ≤ g53 → (∀ w13 : World, Go.Sx.Fr S w0 w13 → Below w12.heap.size w12 w13 → w12.heap.size ≤ g53 → w13.heap[g53]? = some (.cells #[.int .i64 i33, .int .i64 i34, .int .i64 i35, .int .i64 i36, .int .i64 i37, .int .i64 i38, .int .i64 i39, .int .i64 i40, .int .i64 i41, .int .i64 i42, .int .i64 i43, .int .i64 i44, .int .i64 i45, .int .i64 i46, .int .i64 i47, .int .i64 i48, .int .i64 i49, .bool b50, .string s51, .int .i64 i52] 29 (0, 0)) → 
       ∃ w14 : World, ∃ A54 : Option Addr, ∃ n55 : Nat, ∃ n56 : Nat, (Builtin.append_ #[36, 36] 36 #[(.slice A27 n28 n29), (.slice (some ⟨g53, 0, none⟩) 1 1)]).run Try.prog w13 = .ok (.slice A54 n55 n56) w14 ∧ (Go.Sx.Fr S w0 w14 ∧ Go.Sx.Mild [g53, g25, g18, g17, g4] w13 w14) ∧ 
       (∀ w15 : World, Go.Sx.Fr S w0 w15 → Go.Sx.Fr (fun b => b ∈ [g25]) w14 w15 → I0 (IntKind.i64.wrap (i26 + (1 : Int))) A54 n55 n56 w15 ∧ M0 (IntKind.i64.wrap (i26 + (1 : Int))) A54 n55 n56 w15 < M0 i26 A27 n28 n29 w11)))))) ∧
      ((7 : Int) ≤ i26 →
      ((b5 = true →
       ((0 : Int) ≤ i3 ∧ i3 < (n7 : Int) ∧ ∃ p30 : Nat, ∃ o31 : Nat, A6 = some ⟨p30, o31, none⟩ ∧
        (∃ i32 : Int, ∃ i33 : Int, ∃ i34 : Int, ∃ i35 : Int, ∃ i36 : Int, ∃ i37 : Int, ∃ i38 : Int, ∃ i39 : Int, ∃ i40 : Int, ∃ i41 : Int, ∃ i42 : Int, ∃ i43 : Int, ∃ i44 : Int, ∃ i45 : Int, ∃ i46 : Int, ∃ i47 : Int, ∃ i48 : Int, ∃ b49 : Bool, ∃ s50 : ByteArray, ∃ i51 : Int, Go.Sx.CellsAt w11 p30 (o31 + (i3).toNat * 20 + 0) [.int .i64 i32, .int .i64 i33, .int .i64 i34, .int .i64 i35, .int .i64 i36, .int .i64 i37, .int .i64 i38, .int .i64 i39, .int .i64 i40, .int .i64 i41, .int .i64 i42, .int .i64 i43, .int .i64 i44, .int .i64 i45, .int .i64 i46, .int .i64 i47, .int .i64 i48, .bool b49, .string s50, .int .i64 i51] ∧ 
        (
        Calls Try.prog 10 #[(.agg #[.int .i64 i32, .int .i64 i33, .int .i64 i34, .int .i64 i35, .int .i64 i36, .int .i64 i37, .int .i64 i38, .int .i64 i39, .int .i64 i40, .int .i64 i41, .int .i64 i42, .int .i64 i43, .int .i64 i44, .int .i64 i45, .int .i64 i46, .int .i64 i47, .int .i64 i48, .bool b49, .string s50, .int .i64 i51])] w11 fun r w12 => ∃ i52 : Int, r = .returned (.int .i64 i52) ∧ (Go.Sx.Fr S w0 w12 ∧ Go.Sx.Mild [g25, g18, g17, g4] w11 w12) ∧ 
        ((i52 = (0 : Int) →
        (
         Calls Try.prog 12 #[(.agg #[.slice A22 n23 n24])] w12 fun r w13 => ∃ i53 : Int, r = .returned (.int .i64 i53) ∧ (Go.Sx.Fr S w0 w13 ∧ Go.Sx.Mild [g25, g18, g17, g4] w12 w13) ∧ 
         ((i53 = (0 : Int) →
         (
          Calls Try.prog 12 #[(.agg #[.slice A27 n28 n29])] w13 fun r w14 => ∃ i54 : Int, r = .returned (.int .i64 i54) ∧ (Go.Sx.Fr S w0 w14 ∧ Go.Sx.Mild [g25, g18, g17, g4] w13 w14) ∧ 
          ((i54 = (3 : Int) →
          (
           Calls Try.prog 14 #[(.agg #[.slice A22 n23 n24]), (.agg #[.slice A6 n7 n8])] w14 fun r w15 => ∃ b55 : Bool, r = .returned (.bool b55) ∧ (Go.Sx.Fr S w0 w15 ∧ Go.Sx.Mild [g25, g18, g17, g4] w14 w15) ∧ 
           ((b55 = false →
           (
            Calls Try.prog 14 #[(.agg #[.slice A6 n7 n8]), (.agg #[.slice A6 n7 n8])] w15 fun r w16 => ∃ b56 : Bool, r = .returned (.bool b56) ∧ (Go.Sx.Fr S w0 w16 ∧ Go.Sx.Mild [g25, g18, g17, g4] w15 w16) ∧ 
            (R (.returned (.bool b56)) w16))) ∧
           (b55 = true →
           (R (.returned (.bool false)) w15))))) ∧
          (¬ i54 = (3 : Int) →
          (R (.returned (.bool false)) w14))))) ∧
         (¬ i53 = (0 : Int) →
         (R (.returned (.bool false)) w13))))) ∧
        (¬ i52 = (0 : Int) →
        (R (.returned (.bool false)) w12))))))) ∧
       (b5 = false →
       (R (.returned (.bool false)) w11))))))))))))) ∧
    (∀ g17 : Nat, w0.heap.size ≤ g17 → ∀ g18 : Nat, w0.heap.size ≤ g18 → (∀ w7 : World, Go.Sx.Fr S w0 w7 → Below w6.heap.size w6 w7 → w6.heap.size ≤ g18 → w7.heap[g18]? = some (.cells #[] 29 (0, 0)) → w6.heap.size ≤ g17 → w7.heap[g17]? = some (.cells #[.slice none 0 0] 38 (0, 0)) → 
    ∃ w8 : World, ∃ A19 : Option Addr, ∃ n20 : Nat, ∃ n21 : Nat, (Builtin.append_ #[36, 36] 36 #[(.slice (some ⟨g18, 0, none⟩) 0 0), (.slice A11 n12 n13)]).run Try.prog w7 = .ok (.slice A19 n20 n21) w8 ∧ (Go.Sx.Fr S w0 w8 ∧ Go.Sx.Mild [g18, g17, g4] w7 w8) ∧ Go.Sx.Keep w5.heap.size [] w7 w8 ∧ 
    (
    ∃ w9 : World, ∃ A22 : Option Addr, ∃ n23 : Nat, ∃ n24 : Nat, (Builtin.append_ #[36, 36] 36 #[(.slice A19 n20 n21), (.slice A14 n15 n16)]).run Try.prog w8 = .ok (.slice A22 n23 n24) w9 ∧ (Go.Sx.Fr S w0 w9 ∧ Go.Sx.Mild [g18, g17, g4] w8 w9) ∧ 
    (((n23 : Int) = (0 : Int) →
    ∀ g25 : Nat, w0.heap.size ≤ g25 → (∃ (I0 : Int → Option Addr → Nat → Nat → World → Prop) (M0 : Int → Option Addr → Nat → Nat → World → Nat), (∀ w10 : World, Go.Sx.Fr S w0 w10 → Go.Sx.Fr (fun b => b ∈ [g17]) w9 w10 → w9.heap.size ≤ g25 → w10.heap[g25]? = some (.cells #[.slice none 0 0] 38 (0, 0)) → I0 (0 : Int) none 0 0 w10) ∧
     ∀ i26 : Int, ∀ A27 : Option Addr, ∀ n28 : Nat, ∀ n29 : Nat, ∀ w11 : World, Go.Sx.Fr S w0 w11 → I0 i26 A27 n28 n29 w11 → w11.heap[g25]? = some (.cells #[.slice A27 n28 n29] 38 (0, 0)) → 
      ((i26 < (7 : Int) →
      (
       ((0 : Int) ≤ i3 ∧ i3 < (n7 : Int) ∧ ∃ p31 : Nat, ∃ o32 : Nat, A6 = some ⟨p31, o32, none⟩ ∧
       (∀ w12 : World, Go.Sx.Fr S w0 w12 → Below w11.heap.size w11 w12 → ∃ i33 : Int, ∃ i34 : Int, ∃ i35 : Int, ∃ i36 : Int, ∃ i37 : Int, ∃ i38 : Int, ∃ i39 : Int, ∃ i40 : Int, ∃ i41 : Int, ∃ i42 : Int, ∃ i43 : Int, ∃ i44 : Int, ∃ i45 : Int, ∃ i46 : Int, ∃ i47 : Int, ∃ i48 : Int, ∃ i49 : Int, ∃ b50 : Bool, ∃ s51 : ByteArray, ∃ i52 : Int, Go.Sx.CellsAt w12 p31 (o32 + (i3).toNat * 20 + 0) [.int .i64 i33, .int .i64 i34, .int .i64 i35, .int .i64 i36, .int .i64 i37, .int .i64 i38, .int .i64 i39, .int .i64 i40, .int .i64 i41, .int .i64 i42, .int .i64 i43, .int .i64 i44, .int .i64 i45, .int .i64 i46, .int .i64 i47, .int .i64 i48, .int .i64 i49, .bool b50, .string s51, .int .i64 i52] ∧ (p31 < w11.heap.size ∧ p31 ∉ []) ∧ 
       ∀ g53 : Nat, w0.heap.size ≤ g53 → (∀ w13 : World, Go.Sx.Fr S w0 w13 → Below w12.heap.size w12 w13 → w12.heap.size ≤ g53 → w13.heap[g53]? = some (.cells #[.int .i64 i33, .int .i64 i34, .int .i64 i35, .int .i64 i36, .int .i64 i37, .int .i64 i38, .int .i64 i39, .int .i64 i40, .int .i64 i41, .int .i64 i42, .int .i64 i43, .int .i64 i44, .int .i64 i45, .int .i64 i46, .int .i64 i47, .int .i64 i48, .int .i64 i49, .bool b50, .string s51, .int .i64 i52] 29 (0, 0)) → 
       ∃ w14 : World, ∃ A54 : Option Addr, ∃ n55 : Nat, ∃ n56 : Nat, (Builtin.append_ #[36, 36] 36 #[(.slice A27 n28 n29), (.slice (some ⟨g53, 0, none⟩) 1 1)]).run Try.prog w13 = .ok (.slice A54 n55 n56) w14 ∧ (Go.Sx.Fr S w0 w14 ∧ Go.Sx.Mild [g53, g25, g18, g17, g4] w13 w14) ∧ 
       (∀ w15 : World, Go.Sx.Fr S w0 w15 → Go.Sx.Fr (fun b => b ∈ [g25]) w14 w15 → I0 (IntKind.i64.wrap (i26 + (1 : Int))) A54 n55 n56 w15 ∧ M0 (IntKind.i64.wrap (i26 + (1 : Int))) A54 n55 n56 w15 < M0 i26 A27 n28 n29 w11)))))) ∧
      ((7 : Int) ≤ i26 →
      ((b5 = true →
       ((0 : Int) ≤ i3 ∧ i3 < (n7 : Int) ∧ ∃ p30 : Nat, ∃ o31 : Nat, A6 = some ⟨p30, o31, none⟩ ∧
        (∃ i32 : Int, ∃ i33 : Int, ∃ i34 : Int, ∃ i35 : Int, ∃ i36 : Int, ∃ i37 : Int, ∃ i38 : Int, ∃ i39 : Int, ∃ i40 : Int, ∃ i41 : Int, ∃ i42 : Int, ∃ i43 : Int, ∃ i44 : Int, ∃ i45 : Int, ∃ i46 : Int, ∃ i47 : Int, ∃ i48 : Int, ∃ b49 : Bool, ∃ s50 : ByteArray, ∃ i51 : Int, Go.Sx.CellsAt w11 p30 (o31 + (i3).toNat * 20 + 0) [.int .i64 i32, .int .i64 i33, .int .i64 i34, .int .i64 i35, .int .i64 i36, .int .i64 i37, .int .i64 i38, .int .i64 i39, .int .i64 i40, .int .i64 i41, .int .i64 i42, .int .i64 i43, .int .i64 i44, .int .i64 i45, .int .i64 i46, .int .i64 i47, .int .i64 i48, .bool b49, .string s50, .int .i64 i51] ∧ 
        (
        Calls Try.prog 10 #[(.agg #[.int .i64 i32, .int .i64 i33, .int .i64 i34, .int .i64 i35, .int .i64 i36, .int .i64 i37, .int .i64 i38, .int .i64 i39, .int .i64 i40, .int .i64 i41, .int .i64 i42, .int .i64 i43, .int .i64 i44, .int .i64 i45, .int .i64 i46, .int .i64 i47, .int .i64 i48, .bool b49, .string s50, .int .i64 i51])] w11 fun r w12 => ∃ i52 : Int, r = .returned (.int .i64 i52) ∧ (Go.Sx.Fr S w0 w12 ∧ Go.Sx.Mild [g25, g18, g17, g4] w11 w12) ∧ 
        ((i52 = (0 : Int) →
        (
         Calls Try.prog 12 #[(.agg #[.slice A22 n23 n24])] w12 fun r w13 => ∃ i53 : Int, r = .returned (.int .i64 i53) ∧ (Go.Sx.Fr S w0 w13 ∧ Go.Sx.Mild [g25, g18, g17, g4] w12 w13) ∧ 
         ((i53 = (3 : Int) →
         (
          Calls Try.prog 12 #[(.agg #[.slice A27 n28 n29])] w13 fun r w14 => ∃ i54 : Int, r = .returned (.int .i64 i54) ∧ (Go.Sx.Fr S w0 w14 ∧ Go.Sx.Mild [g25, g18, g17, g4] w13 w14) ∧ 
          ((i54 = (3 : Int) →
          (
           Calls Try.prog 14 #[(.agg #[.slice A22 n23 n24]), (.agg #[.slice A6 n7 n8])] w14 fun r w15 => ∃ b55 : Bool, r = .returned (.bool b55) ∧ (Go.Sx.Fr S w0 w15 ∧ Go.Sx.Mild [g25, g18, g17, g4] w14 w15) ∧ 
           ((b55 = false →
           (
            Calls Try.prog 14 #[(.agg #[.slice A6 n7 n8]), (.agg #[.slice A6 n7 n8])] w15 fun r w16 => ∃ b56 : Bool, r = .returned (.bool b56) ∧ (Go.Sx.Fr S w0 w16 ∧ Go.Sx.Mild [g25, g18, g17, g4] w15 w16) ∧ 
            (R (.returned (.bool b56)) w16))) ∧
           (b55 = true →
           (R (.returned (.bool false)) w15))))) ∧
          (¬ i54 = (3 : Int) →
          (R (.returned (.bool false)) w14))))) ∧
         (¬ i53 = (3 : Int) →
         (R (.returned (.bool false)) w13))))) ∧
        (¬ i52 = (0 : Int) →
        (R (.returned (.bool false)) w12))))))) ∧
       (b5 = false →
       (R (.returned (.bool false)) w11))))))) ∧
    (¬ (n23 : Int) = (0 : Int) →
    ∀ g25 : Nat, w0.heap.size ≤ g25 → (∃ (I0 : Int → Option Addr → Nat → Nat → World → Prop) (M0 : Int → Option Addr → Nat → Nat → World → Nat), (∀ w10 : World, Go.Sx.Fr S w0 w10 → Go.Sx.Fr (fun b => b ∈ [g17]) w9 w10 → w9.heap.size ≤ g25 → w10.heap[g25]? = some (.cells #[.slice none 0 0] 38 (0, 0)) → I0 (0 : Int) none 0 0 w10) ∧
     ∀ i26 : Int, ∀ A27 : Option Addr, ∀ n28 : Nat, ∀ n29 : Nat, ∀ w11 : World, Go.Sx.Fr S w0 w11 → I0 i26 A27 n28 n29 w11 → w11.heap[g25]? = some (.cells #[.slice A27 n28 n29] 38 (0, 0)) → 
      ((i26 < (7 : Int) →
      (
       ((0 : Int) ≤ i3 ∧ i3 < (n7 : Int) ∧ ∃ p31 : Nat, ∃ o32 : Nat, A6 = some ⟨p31, o32, none⟩ ∧
       (∀ w12 : World, Go.Sx.Fr S w0 w12 → Below w11.heap.size w11 w12 → ∃ i33 : Int, ∃ i34 : Int, ∃ i35 : Int, ∃ i36 : Int, ∃ i37 : Int, ∃ i38 : Int, ∃ i39 : Int, ∃ i40 : Int, ∃ i41 : Int, ∃ i42 : Int, ∃ i43 : Int, ∃ i44 : Int, ∃ i45 : Int, ∃ i46 : Int, ∃ i47 : Int, ∃ i48 : Int, ∃ i49 : Int, ∃ b50 : Bool, ∃ s51 : ByteArray, ∃ i52 : Int, Go.Sx.CellsAt w12 p31 (o32 + (i3).toNat * 20 + 0) [.int .i64 i33, .int .i64 i34, .int .i64 i35, .int .i64 i36, .int .i64 i37, .int .i64 i38, .int .i64 i39, .int .i64 i40, .int .i64 i41, .int .i64 i42, .int .i64 i43, .int .i64 i44, .int .i64 i45, .int .i64 i46, .int .i64 i47, .int .i64 i48, .int .i64 i49, .bool b50, .string s51, .int .i64 i52] ∧ (p31 < w11.heap.size ∧ p31 ∉ []) ∧ 
       ∀ g53 : Nat, w0.heap.size ≤ g53 → (∀ w13 : World, Go.Sx.Fr S w0 w13 → Below w12.heap.size w12 w13 → w12.heap.size ≤ g53 → w13.heap[g53]? = some (.cells #[.int .i64 i33, .int .i64 i34, .int .i64 i35, .int .i64 i36, .int .i64 i37, .int .i64 i38, .int .i64 i39, .int .i64 i40, .int .i64 i41, .int .i64 i42, .int .i64 i43, .int .i64 i44, .int .i64 i45, .int .i64 i46, .int .i64 i47, .int .i64 i48, .int .i64 i49, .bool b50, .string s51, .int .i64 i52] 29 (0, 0)) → 
       ∃ w14 : World, ∃ A54 : Option Addr, ∃ n55 : Nat, ∃ n56 : Nat, (Builtin.append_ #[36, 36] 36 #[(.slice A27 n28 n29), (.slice (some ⟨g53, 0, none⟩) 1 1)]).run Try.prog w13 = .ok (.slice A54 n55 n56) w14 ∧ (Go.Sx.Fr S w0 w14 ∧ Go.Sx.Mild [g53, g25, g18, g17, g4] w13 w14) ∧ 
       (∀ w15 : World, Go.Sx.Fr S w0 w15 → Go.Sx.Fr (fun b => b ∈ [g25]) w14 w15 → I0 (IntKind.i64.wrap (i26 + (1 : Int))) A54 n55 n56 w15 ∧ M0 (IntKind.i64.wrap (i26 + (1 : Int))) A54 n55 n56 w15 < M0 i26 A27 n28 n29 w11)))))) ∧
      ((7 : Int) ≤ i26 →
      ((b5 = true →
       ((0 : Int) ≤ i3 ∧ i3 < (n7 : Int) ∧ ∃ p30 : Nat, ∃ o31 : Nat, A6 = some ⟨p30, o31, none⟩ ∧
        (∃ i32 : Int, ∃ i33 : Int, ∃ i34 : Int, ∃ i35 : Int, ∃ i36 : Int, ∃ i37 : Int, ∃ i38 : Int, ∃ i39 : Int, ∃ i40 : Int, ∃ i41 : Int, ∃ i42 : Int, ∃ i43 : Int, ∃ i44 : Int, ∃ i45 : Int, ∃ i46 : Int, ∃ i47 : Int, ∃ i48 : Int, ∃ b49 : Bool, ∃ s50 : ByteArray, ∃ i51 : Int, Go.Sx.CellsAt w11 p30 (o31 + (i3).toNat * 20 + 0) [.int .i64 i32, .int .i64 i33, .int .i64 i34, .int .i64 i35, .int .i64 i36, .int .i64 i37, .int .i64 i38, .int .i64 i39, .int .i64 i40, .int .i64 i41, .int .i64 i42, .int .i64 i43, .int .i64 i44, .int .i64 i45, .int .i64 i46, .int .i64 i47, .int .i64 i48, .bool b49, .string s50, .int .i64 i51] ∧ 
        (
        Calls Try.prog 10 #[(.agg #[.int .i64 i32, .int .i64 i33, .int .i64 i34, .int .i64 i35, .int .i64 i36, .int .i64 i37, .int .i64 i38, .int .i64 i39, .int .i64 i40, .int .i64 i41, .int .i64 i42, .int .i64 i43, .int .i64 i44, .int .i64 i45, .int .i64 i46, .int .i64 i47, .int .i64 i48, .bool b49, .string s50, .int .i64 i51])] w11 fun r w12 => ∃ i52 : Int, r = .returned (.int .i64 i52) ∧ (Go.Sx.Fr S w0 w12 ∧ Go.Sx.Mild [g25, g18, g17, g4] w11 w12) ∧ 
        ((i52 = (0 : Int) →
        (
         Calls Try.prog 12 #[(.agg #[.slice A22 n23 n24])] w12 fun r w13 => ∃ i53 : Int, r = .returned (.int .i64 i53) ∧ (Go.Sx.Fr S w0 w13 ∧ Go.Sx.Mild [g25, g18, g17, g4] w12 w13) ∧ 
         ((i53 = (0 : Int) →
         (
          Calls Try.prog 12 #[(.agg #[.slice A27 n28 n29])] w13 fun r w14 => ∃ i54 : Int, r = .returned (.int .i64 i54) ∧ (Go.Sx.Fr S w0 w14 ∧ Go.Sx.Mild [g25, g18, g17, g4] w13 w14) ∧ 
          ((i54 = (3 : Int) →
          (
           Calls Try.prog 14 #[(.agg #[.slice A22 n23 n24]), (.agg #[.slice A6 n7 n8])] w14 fun r w15 => ∃ b55 : Bool, r = .returned (.bool b55) ∧ (Go.Sx.Fr S w0 w15 ∧ Go.Sx.Mild [g25, g18, g17, g4] w14 w15) ∧ 
           ((b55 = false →
           (
            Calls Try.prog 14 #[(.agg #[.slice A6 n7 n8]), (.agg #[.slice A6 n7 n8])] w15 fun r w16 => ∃ b56 : Bool, r = .returned (.bool b56) ∧ (Go.Sx.Fr S w0 w16 ∧ Go.Sx.Mild [g25, g18, g17, g4] w15 w16) ∧ 
            (R (.returned (.bool b56)) w16))) ∧
           (b55 = true →
           (R (.returned (.bool false)) w15))))) ∧
          (¬ i54 = (3 : Int) →
          (R (.returned (.bool false)) w14))))) ∧
         (¬ i53 = (0 : Int) →
         (R (.returned (.bool false)) w13))))) ∧
        (¬ i52 = (0 : Int) →
        (R (.returned (.bool false)) w12))))))) ∧
       (b5 = false →
       (R (.returned (.bool false)) w11))))))))))))))))))))))))) :
    Calls Try.prog 5 #[(.agg #[.slice A0 n1 n2]), (.int .i64 i3)] w0 R :=
  Go.Sx.fn_sound0 (P := Try.prog) (S := S) (w0 := w0) (R := R) (ws := []) (an := [⟨11, [], [(8, 0)], 0⟩, ⟨999999, [], [], 0⟩]) (f := 5) (n := 4) (xs := [.agg [.slice (.var 0) (.var 1) (.var 2)], .one (.int .i64 (.var 3))]) (e := [.a A0, .n n1, .n n2, .i i3]) rfl (by kernel_rfl) (Eq.mp (by kernel_rfl) h)


end Go.Proofs.Ytlcjlcfogcbddaa
