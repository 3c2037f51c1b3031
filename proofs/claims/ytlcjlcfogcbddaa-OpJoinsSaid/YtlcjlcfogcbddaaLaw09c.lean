/- What is left of the laws on operations, by Sx. -/
import Derived.Test.YtlcjlcfogcbddaaProg
import Derived.Test.YtlcjlcfogcbddaaSs
import Derived.KernelRfl
set_option linter.unusedVariables false
namespace Go.Proofs.Ytlcjlcfogcbddaa
open Go Go.RowKit Go.Proofs Go.Trc
set_option maxRecDepth 100000
/-- tracery/tracerylaw09.OpJoins: what is left of it. -/
theorem opJoins_sx (R : Ending → World → Prop) (S : Nat → Prop) (w0 : World) (A0 : Option Addr) (n1 : Nat) (n2 : Nat) (A3 : Option Addr) (n4 : Nat) (n5 : Nat) (h :
 ∀ g6 : Nat, w0.heap.size ≤ g6 → ∀ g7 : Nat, w0.heap.size ≤ g7 → (∀ w1 : World, Go.Sx.Fr S w0 w1 → Below w0.heap.size w0 w1 → w0.heap.size ≤ g7 → w1.heap[g7]? = some (.cells #[.slice A3 n4 n5] 38 (0, 0)) → w0.heap.size ≤ g6 → w1.heap[g6]? = some (.cells #[.slice A0 n1 n2] 38 (0, 0)) → 
 Calls Try.prog 9 #[] w1 fun r w2 => ∃ b8 : Bool, r = .returned (.bool b8) ∧ (Go.Sx.Fr S w0 w2 ∧ Go.Sx.Mild [g7, g6] w1 w2) ∧ 
 (
 Calls Try.prog 13 #[(.agg #[.slice A0 n1 n2])] w2 fun r w3 => ∃ A9 : Option Addr, ∃ n10 : Nat, ∃ n11 : Nat, r = .returned (.agg #[.slice A9 n10 n11]) ∧ (Go.Sx.Fr S w0 w3 ∧ Go.Sx.Mild [g7, g6] w2 w3) ∧ 
 (∀ w4 : World, Go.Sx.Fr S w0 w4 → Go.Sx.Fr (fun b => b ∈ [g6]) w3 w4 → 
 Calls Try.prog 13 #[(.agg #[.slice A3 n4 n5])] w4 fun r w5 => ∃ A12 : Option Addr, ∃ n13 : Nat, ∃ n14 : Nat, r = .returned (.agg #[.slice A12 n13 n14]) ∧ (Go.Sx.Fr S w0 w5 ∧ Go.Sx.Mild [g7, g6] w4 w5) ∧ 
 (∀ w6 : World, Go.Sx.Fr S w0 w6 → Go.Sx.Fr (fun b => b ∈ [g7]) w5 w6 → 
 Calls Try.prog 12 #[(.agg #[.slice A9 n10 n11])] w6 fun r w7 => ∃ i15 : Int, r = .returned (.int .i64 i15) ∧ (Go.Sx.Fr S w0 w7 ∧ Go.Sx.Mild [g7, g6] w6 w7) ∧ 
 ((¬ i15 = (0 : Int) →
 (R (.returned (.bool b8)) w7)) ∧
 (i15 = (0 : Int) →
 (
  Calls Try.prog 12 #[(.agg #[.slice A12 n13 n14])] w7 fun r w8 => ∃ i16 : Int, r = .returned (.int .i64 i16) ∧ (Go.Sx.Fr S w0 w8 ∧ Go.Sx.Mild [g7, g6] w7 w8) ∧ 
  ((¬ i16 = (0 : Int) →
  (R (.returned (.bool b8)) w8)) ∧
  (i16 = (0 : Int) →
  (
   ((∀ g18 : Nat, w0.heap.size ≤ g18 → (((∀ w9 : World, Go.Sx.Fr S w0 w9 → Below w8.heap.size w8 w9 → w8.heap.size ≤ g18 → w9.heap[g18]? = some (.cells #[] 29 (0, 0)) → 
   ∃ w10 : World, ∃ A19 : Option Addr, ∃ n20 : Nat, ∃ n21 : Nat, (Builtin.append_ #[36, 36] 36 #[(.slice (some ⟨g18, 0, none⟩) 0 0), (.slice A9 n10 n11)]).run Try.prog w9 = .ok (.slice A19 n20 n21) w10 ∧ (Go.Sx.Fr S w0 w10 ∧ Go.Sx.Mild [g18, g7, g6] w9 w10) ∧ Go.Sx.Keep w8.heap.size [] w9 w10 ∧ 
   (((
   ∃ w11 : World, ∃ A22 : Option Addr, ∃ n23 : Nat, ∃ n24 : Nat, (Builtin.append_ #[36, 36] 36 #[(.slice A19 n20 n21), (.slice A12 n13 n14)]).run Try.prog w10 = .ok (.slice A22 n23 n24) w11 ∧ (Go.Sx.Fr S w0 w11 ∧ Go.Sx.Mild [g18, g7, g6] w10 w11) ∧ 
   ∀ g25 : Nat, w0.heap.size ≤ g25 → (((6 : Int) < (n23 : Int) →
   (∀ w12 : World, Go.Sx.Fr S w0 w12 → Below w11.heap.size w11 w12 → w11.heap.size ≤ g25 → w12.heap[g25]? = some (.cells #[.slice A22 n23 n24] 38 (0, 0)) → 
    (((∀ w13 : World, Go.Sx.Fr S w0 w13 → Below w12.heap.size w12 w13 → 
    Calls Try.prog 15 #[(.agg #[.slice A22 n23 n24])] w13 fun r w14 => ∃ A27 : Option Addr, ∃ n28 : Nat, ∃ n29 : Nat, r = .returned (.slice A27 n28 n29) ∧ (Go.Sx.Fr S w0 w14 ∧ Go.Sx.Mild [g25, g18, g7, g6] w13 w14) ∧ Go.Sx.Keep w12.heap.size [] w13 w14 ∧ 
    ((∀ g30 : Nat, w0.heap.size ≤ g30 → (∀ w15 : World, Go.Sx.Fr S w0 w15 → Below w14.heap.size w14 w15 → w14.heap.size ≤ g30 → w15.heap[g30]? = some (.cells #[] 23 (0, 0)) → 
    Calls Try.prog 15 #[(.agg #[.slice A9 n10 n11])] w15 fun r w16 => ∃ A31 : Option Addr, ∃ n32 : Nat, ∃ n33 : Nat, r = .returned (.slice A31 n32 n33) ∧ (Go.Sx.Fr S w0 w16 ∧ Go.Sx.Mild [g30, g25, g18, g7, g6] w15 w16) ∧ Go.Sx.Keep w12.heap.size [] w15 w16 ∧ 
    (w16.heap[g30]? = some (.cells #[] 23 (0, 0)) → 
    ∃ w17 : World, ∃ A34 : Option Addr, ∃ n35 : Nat, ∃ n36 : Nat, (Builtin.append_ #[43, 43] 43 #[(.slice (some ⟨g30, 0, none⟩) 0 0), (.slice A31 n32 n33)]).run Try.prog w16 = .ok (.slice A34 n35 n36) w17 ∧ (Go.Sx.Fr S w0 w17 ∧ Go.Sx.Mild [g30, g25, g18, g7, g6] w16 w17) ∧ Go.Sx.Keep w12.heap.size [] w16 w17 ∧ 
    (
    Calls Try.prog 15 #[(.agg #[.slice A12 n13 n14])] w17 fun r w18 => ∃ A37 : Option Addr, ∃ n38 : Nat, ∃ n39 : Nat, r = .returned (.slice A37 n38 n39) ∧ (Go.Sx.Fr S w0 w18 ∧ Go.Sx.Mild [g30, g25, g18, g7, g6] w17 w18) ∧ 
    (
    ∃ w19 : World, ∃ A40 : Option Addr, ∃ n41 : Nat, ∃ n42 : Nat, (Builtin.append_ #[43, 43] 43 #[(.slice A34 n35 n36), (.slice A37 n38 n39)]).run Try.prog w18 = .ok (.slice A40 n41 n42) w19 ∧ (Go.Sx.Fr S w0 w19 ∧ Go.Sx.Mild [g30, g25, g18, g7, g6] w18 w19) ∧ 
    (
    Calls Try.prog 16 #[(.slice A27 n28 n29), (.slice A40 n41 n42)] w19 fun r w20 => ∃ b43 : Bool, r = .returned (.bool b43) ∧ (Go.Sx.Fr S w0 w20 ∧ Go.Sx.Mild [g30, g25, g18, g7, g6] w19 w20) ∧ 
    ((b8 = true →
    (
     Calls Try.prog 12 #[(.agg #[.slice A22 n23 n24])] w20 fun r w21 => ∃ i44 : Int, r = .returned (.int .i64 i44) ∧ (Go.Sx.Fr S w0 w21 ∧ Go.Sx.Mild [g30, g25, g18, g7, g6] w20 w21) ∧ 
     ((i44 = (3 : Int) →
     ((b43 = true →
      (
       Calls Try.prog 14 #[(.agg #[.slice A22 n23 n24]), (.agg #[.slice A9 n10 n11])] w21 fun r w22 => ∃ b45 : Bool, r = .returned (.bool b45) ∧ (Go.Sx.Fr S w0 w22 ∧ Go.Sx.Mild [g30, g25, g18, g7, g6] w21 w22) ∧ 
       ((b45 = false →
       (
        Calls Try.prog 14 #[(.agg #[.slice A9 n10 n11]), (.agg #[.slice A22 n23 n24])] w22 fun r w23 => ∃ b46 : Bool, r = .returned (.bool b46) ∧ (Go.Sx.Fr S w0 w23 ∧ Go.Sx.Mild [g30, g25, g18, g7, g6] w22 w23) ∧ 
        (R (.returned (.bool (!b46))) w23))) ∧
       (b45 = true →
       (R (.returned (.bool false)) w22))))) ∧
      (b43 = false →
      (R (.returned (.bool false)) w21)))) ∧
     (¬ i44 = (3 : Int) →
     (R (.returned (.bool false)) w21))))) ∧
    (b8 = false →
    (R (.returned (.bool false)) w20))))))))) ∧
    ((
    Calls Try.prog 15 #[(.agg #[.slice A9 n10 n11])] w14 fun r w15 => ∃ A30 : Option Addr, ∃ n31 : Nat, ∃ n32 : Nat, r = .returned (.slice A30 n31 n32) ∧ (Go.Sx.Fr S w0 w15 ∧ Go.Sx.Mild [g25, g18, g7, g6] w14 w15) ∧ Go.Sx.Keep w12.heap.size [] w14 w15 ∧ 
    ∀ g33 : Nat, w0.heap.size ≤ g33 → (∀ w16 : World, Go.Sx.Fr S w0 w16 → Below w15.heap.size w15 w16 → w15.heap.size ≤ g33 → w16.heap[g33]? = some (.cells #[] 23 (0, 0)) → 
    ∃ w17 : World, ∃ A34 : Option Addr, ∃ n35 : Nat, ∃ n36 : Nat, (Builtin.append_ #[43, 43] 43 #[(.slice (some ⟨g33, 0, none⟩) 0 0), (.slice A30 n31 n32)]).run Try.prog w16 = .ok (.slice A34 n35 n36) w17 ∧ (Go.Sx.Fr S w0 w17 ∧ Go.Sx.Mild [g33, g25, g18, g7, g6] w16 w17) ∧ Go.Sx.Keep w12.heap.size [] w16 w17 ∧ 
    (
    Calls Try.prog 15 #[(.agg #[.slice A12 n13 n14])] w17 fun r w18 => ∃ A37 : Option Addr, ∃ n38 : Nat, ∃ n39 : Nat, r = .returned (.slice A37 n38 n39) ∧ (Go.Sx.Fr S w0 w18 ∧ Go.Sx.Mild [g33, g25, g18, g7, g6] w17 w18) ∧ 
    (
    ∃ w19 : World, ∃ A40 : Option Addr, ∃ n41 : Nat, ∃ n42 : Nat, (Builtin.append_ #[43, 43] 43 #[(.slice A34 n35 n36), (.slice A37 n38 n39)]).run Try.prog w18 = .ok (.slice A40 n41 n42) w19 ∧ (Go.Sx.Fr S w0 w19 ∧ Go.Sx.Mild [g33, g25, g18, g7, g6] w18 w19) ∧ 
    (
    Calls Try.prog 16 #[(.slice A27 n28 n29), (.slice A40 n41 n42)] w19 fun r w20 => ∃ b43 : Bool, r = .returned (.bool b43) ∧ (Go.Sx.Fr S w0 w20 ∧ Go.Sx.Mild [g33, g25, g18, g7, g6] w19 w20) ∧ 
    ((b8 = true →
    (
     Calls Try.prog 12 #[(.agg #[.slice A22 n23 n24])] w20 fun r w21 => ∃ i44 : Int, r = .returned (.int .i64 i44) ∧ (Go.Sx.Fr S w0 w21 ∧ Go.Sx.Mild [g33, g25, g18, g7, g6] w20 w21) ∧ 
     ((i44 = (3 : Int) →
     ((b43 = true →
      (
       Calls Try.prog 14 #[(.agg #[.slice A22 n23 n24]), (.agg #[.slice A9 n10 n11])] w21 fun r w22 => ∃ b45 : Bool, r = .returned (.bool b45) ∧ (Go.Sx.Fr S w0 w22 ∧ Go.Sx.Mild [g33, g25, g18, g7, g6] w21 w22) ∧ 
       ((b45 = false →
       (
        Calls Try.prog 14 #[(.agg #[.slice A9 n10 n11]), (.agg #[.slice A22 n23 n24])] w22 fun r w23 => ∃ b46 : Bool, r = .returned (.bool b46) ∧ (Go.Sx.Fr S w0 w23 ∧ Go.Sx.Mild [g33, g25, g18, g7, g6] w22 w23) ∧ 
        (R (.returned (.bool (!b46))) w23))) ∧
       (b45 = true →
       (R (.returned (.bool false)) w22))))) ∧
      (b43 = false →
      (R (.returned (.bool false)) w21)))) ∧
     (¬ i44 = (3 : Int) →
     (R (.returned (.bool false)) w21))))) ∧
    (b8 = false →
    (R (.returned (.bool false)) w20)))))))))))) ∧
    (∀ g27 : Nat, w0.heap.size ≤ g27 → (∀ w13 : World, Go.Sx.Fr S w0 w13 → Below w12.heap.size w12 w13 → w12.heap.size ≤ g27 → w13.heap[g27]? = some (.cells #[] 23 (0, 0)) → 
    Calls Try.prog 15 #[(.agg #[.slice A22 n23 n24])] w13 fun r w14 => ∃ A28 : Option Addr, ∃ n29 : Nat, ∃ n30 : Nat, r = .returned (.slice A28 n29 n30) ∧ (Go.Sx.Fr S w0 w14 ∧ Go.Sx.Mild [g27, g25, g18, g7, g6] w13 w14) ∧ Go.Sx.Keep w12.heap.size [] w13 w14 ∧ 
    (
    Calls Try.prog 15 #[(.agg #[.slice A9 n10 n11])] w14 fun r w15 => ∃ A31 : Option Addr, ∃ n32 : Nat, ∃ n33 : Nat, r = .returned (.slice A31 n32 n33) ∧ (Go.Sx.Fr S w0 w15 ∧ Go.Sx.Mild [g27, g25, g18, g7, g6] w14 w15) ∧ Go.Sx.Keep w12.heap.size [] w14 w15 ∧ 
    (w15.heap[g27]? = some (.cells #[] 23 (0, 0)) → 
    ∃ w16 : World, ∃ A34 : Option Addr, ∃ n35 : Nat, ∃ n36 : Nat, (Builtin.append_ #[43, 43] 43 #[(.slice (some ⟨g27, 0, none⟩) 0 0), (.slice A31 n32 n33)]).run Try.prog w15 = .ok (.slice A34 n35 n36) w16 ∧ (Go.Sx.Fr S w0 w16 ∧ Go.Sx.Mild [g27, g25, g18, g7, g6] w15 w16) ∧ Go.Sx.Keep w12.heap.size [] w15 w16 ∧ 
    (
    Calls Try.prog 15 #[(.agg #[.slice A12 n13 n14])] w16 fun r w17 => ∃ A37 : Option Addr, ∃ n38 : Nat, ∃ n39 : Nat, r = .returned (.slice A37 n38 n39) ∧ (Go.Sx.Fr S w0 w17 ∧ Go.Sx.Mild [g27, g25, g18, g7, g6] w16 w17) ∧ 
    (
    ∃ w18 : World, ∃ A40 : Option Addr, ∃ n41 : Nat, ∃ n42 : Nat, (Builtin.append_ #[43, 43] 43 #[(.slice A34 n35 n36), (.slice A37 n38 n39)]).run Try.prog w17 = .ok (.slice A40 n41 n42) w18 ∧ (Go.Sx.Fr S w0 w18 ∧ Go.Sx.Mild [g27, g25, g18, g7, g6] w17 w18) ∧ 
    (
    Calls Try.prog 16 #[(.slice A28 n29 n30), (.slice A40 n41 n42)] w18 fun r w19 => ∃ b43 : Bool, r = .returned (.bool b43) ∧ (Go.Sx.Fr S w0 w19 ∧ Go.Sx.Mild [g27, g25, g18, g7, g6] w18 w19) ∧ 
    ((b8 = true →
    (
     Calls Try.prog 12 #[(.agg #[.slice A22 n23 n24])] w19 fun r w20 => ∃ i44 : Int, r = .returned (.int .i64 i44) ∧ (Go.Sx.Fr S w0 w20 ∧ Go.Sx.Mild [g27, g25, g18, g7, g6] w19 w20) ∧ 
     ((i44 = (3 : Int) →
     ((b43 = true →
      (
       Calls Try.prog 14 #[(.agg #[.slice A22 n23 n24]), (.agg #[.slice A9 n10 n11])] w20 fun r w21 => ∃ b45 : Bool, r = .returned (.bool b45) ∧ (Go.Sx.Fr S w0 w21 ∧ Go.Sx.Mild [g27, g25, g18, g7, g6] w20 w21) ∧ 
       ((b45 = false →
       (
        Calls Try.prog 14 #[(.agg #[.slice A9 n10 n11]), (.agg #[.slice A22 n23 n24])] w21 fun r w22 => ∃ b46 : Bool, r = .returned (.bool b46) ∧ (Go.Sx.Fr S w0 w22 ∧ Go.Sx.Mild [g27, g25, g18, g7, g6] w21 w22) ∧ 
        (R (.returned (.bool (!b46))) w22))) ∧
       (b45 = true →
       (R (.returned (.bool false)) w21))))) ∧
      (b43 = false →
      (R (.returned (.bool false)) w20)))) ∧
     (¬ i44 = (3 : Int) →
     (R (.returned (.bool false)) w20))))) ∧
    (b8 = false →
    (R (.returned (.bool false)) w19))))))))))))) ∧
   ((n23 : Int) ≤ (6 : Int) →
   (∀ w12 : World, Go.Sx.Fr S w0 w12 → Below w11.heap.size w11 w12 → w11.heap.size ≤ g25 → w12.heap[g25]? = some (.cells #[.slice A22 n23 n24] 38 (0, 0)) → 
    (((∀ w13 : World, Go.Sx.Fr S w0 w13 → Below w12.heap.size w12 w13 → 
    Calls Try.prog 15 #[(.agg #[.slice A22 n23 n24])] w13 fun r w14 => ∃ A27 : Option Addr, ∃ n28 : Nat, ∃ n29 : Nat, r = .returned (.slice A27 n28 n29) ∧ (Go.Sx.Fr S w0 w14 ∧ Go.Sx.Mild [g25, g18, g7, g6] w13 w14) ∧ Go.Sx.Keep w12.heap.size [] w13 w14 ∧ 
    ((∀ g30 : Nat, w0.heap.size ≤ g30 → (∀ w15 : World, Go.Sx.Fr S w0 w15 → Below w14.heap.size w14 w15 → w14.heap.size ≤ g30 → w15.heap[g30]? = some (.cells #[] 23 (0, 0)) → 
    Calls Try.prog 15 #[(.agg #[.slice A9 n10 n11])] w15 fun r w16 => ∃ A31 : Option Addr, ∃ n32 : Nat, ∃ n33 : Nat, r = .returned (.slice A31 n32 n33) ∧ (Go.Sx.Fr S w0 w16 ∧ Go.Sx.Mild [g30, g25, g18, g7, g6] w15 w16) ∧ Go.Sx.Keep w12.heap.size [] w15 w16 ∧ 
    (w16.heap[g30]? = some (.cells #[] 23 (0, 0)) → 
    ∃ w17 : World, ∃ A34 : Option Addr, ∃ n35 : Nat, ∃ n36 : Nat, (Builtin.append_ #[43, 43] 43 #[(.slice (some ⟨g30, 0, none⟩) 0 0), (.slice A31 n32 n33)]).run Try.prog w16 = .ok (.slice A34 n35 n36) w17 ∧ (Go.Sx.Fr S w0 w17 ∧ Go.Sx.Mild [g30, g25, g18, g7, g6] w16 w17) ∧ Go.Sx.Keep w12.heap.size [] w16 w17 ∧ 
    (
    Calls Try.prog 15 #[(.agg #[.slice A12 n13 n14])] w17 fun r w18 => ∃ A37 : Option Addr, ∃ n38 : Nat, ∃ n39 : Nat, r = .returned (.slice A37 n38 n39) ∧ (Go.Sx.Fr S w0 w18 ∧ Go.Sx.Mild [g30, g25, g18, g7, g6] w17 w18) ∧ 
    (
    ∃ w19 : World, ∃ A40 : Option Addr, ∃ n41 : Nat, ∃ n42 : Nat, (Builtin.append_ #[43, 43] 43 #[(.slice A34 n35 n36), (.slice A37 n38 n39)]).run Try.prog w18 = .ok (.slice A40 n41 n42) w19 ∧ (Go.Sx.Fr S w0 w19 ∧ Go.Sx.Mild [g30, g25, g18, g7, g6] w18 w19) ∧ 
    (
    Calls Try.prog 16 #[(.slice A27 n28 n29), (.slice A40 n41 n42)] w19 fun r w20 => ∃ b43 : Bool, r = .returned (.bool b43) ∧ (Go.Sx.Fr S w0 w20 ∧ Go.Sx.Mild [g30, g25, g18, g7, g6] w19 w20) ∧ 
    ((b8 = true →
    (
     Calls Try.prog 12 #[(.agg #[.slice A22 n23 n24])] w20 fun r w21 => ∃ i44 : Int, r = .returned (.int .i64 i44) ∧ (Go.Sx.Fr S w0 w21 ∧ Go.Sx.Mild [g30, g25, g18, g7, g6] w20 w21) ∧ 
     ((i44 = (0 : Int) →
     ((b43 = true →
      (
       Calls Try.prog 14 #[(.agg #[.slice A22 n23 n24]), (.agg #[.slice A9 n10 n11])] w21 fun r w22 => ∃ b45 : Bool, r = .returned (.bool b45) ∧ (Go.Sx.Fr S w0 w22 ∧ Go.Sx.Mild [g30, g25, g18, g7, g6] w21 w22) ∧ 
       ((b45 = false →
       (
        Calls Try.prog 14 #[(.agg #[.slice A9 n10 n11]), (.agg #[.slice A22 n23 n24])] w22 fun r w23 => ∃ b46 : Bool, r = .returned (.bool b46) ∧ (Go.Sx.Fr S w0 w23 ∧ Go.Sx.Mild [g30, g25, g18, g7, g6] w22 w23) ∧ 
        (R (.returned (.bool (!b46))) w23))) ∧
       (b45 = true →
       (R (.returned (.bool false)) w22))))) ∧
      (b43 = false →
      (R (.returned (.bool false)) w21)))) ∧
     (¬ i44 = (0 : Int) →
     (R (.returned (.bool false)) w21))))) ∧
    (b8 = false →
    (R (.returned (.bool false)) w20))))))))) ∧
    ((
    Calls Try.prog 15 #[(.agg #[.slice A9 n10 n11])] w14 fun r w15 => ∃ A30 : Option Addr, ∃ n31 : Nat, ∃ n32 : Nat, r = .returned (.slice A30 n31 n32) ∧ (Go.Sx.Fr S w0 w15 ∧ Go.Sx.Mild [g25, g18, g7, g6] w14 w15) ∧ Go.Sx.Keep w12.heap.size [] w14 w15 ∧ 
    ∀ g33 : Nat, w0.heap.size ≤ g33 → (∀ w16 : World, Go.Sx.Fr S w0 w16 → Below w15.heap.size w15 w16 → w15.heap.size ≤ g33 → w16.heap[g33]? = some (.cells #[] 23 (0, 0)) → 
    ∃ w17 : World, ∃ A34 : Option Addr, ∃ n35 : Nat, ∃ n36 : Nat, (Builtin.append_ #[43, 43] 43 #[(.slice (some ⟨g33, 0, none⟩) 0 0), (.slice A30 n31 n32)]).run Try.prog w16 = .ok (.slice A34 n35 n36) w17 ∧ (Go.Sx.Fr S w0 w17 ∧ Go.Sx.Mild [g33, g25, g18, g7, g6] w16 w17) ∧ Go.Sx.Keep w12.heap.size [] w16 w17 ∧ 
    (
    Calls Try.prog 15 #[(.agg #[.slice A12 n13 n14])] w17 fun r w18 => ∃ A37 : Option Addr, ∃ n38 : Nat, ∃ n39 : Nat, r = .returned (.slice A37 n38 n39) ∧ (Go.Sx.Fr S w0 w18 ∧ Go.Sx.Mild [g33, g25, g18, g7, g6] w17 w18) ∧ 
    (
    ∃ w19 : World, ∃ A40 : Option Addr, ∃ n41 : Nat, ∃ n42 : Nat, (Builtin.append_ #[43, 43] 43 #[(.slice A34 n35 n36), (.slice A37 n38 n39)]).run Try.prog w18 = .ok (.slice A40 n41 n42) w19 ∧ (Go.Sx.Fr S w0 w19 ∧ Go.Sx.Mild [g33, g25, g18, g7, g6] w18 w19) ∧ 
    (
    Calls Try.prog 16 #[(.slice A27 n28 n29), (.slice A40 n41 n42)] w19 fun r w20 => ∃ b43 : Bool, r = .returned (.bool b43) ∧ (Go.Sx.Fr S w0 w20 ∧ Go.Sx.Mild [g33, g25, g18, g7, g6] w19 w20) ∧ 
    ((b8 = true →
    (
     Calls Try.prog 12 #[(.agg #[.slice A22 n23 n24])] w20 fun r w21 => ∃ i44 : Int, r = .returned (.int .i64 i44) ∧ (Go.Sx.Fr S w0 w21 ∧ Go.Sx.Mild [g33, g25, g18, g7, g6] w20 w21) ∧ 
     ((i44 = (0 : Int) →
     ((b43 = true →
      (
       Calls Try.prog 14 #[(.agg #[.slice A22 n23 n24]), (.agg #[.slice A9 n10 n11])] w21 fun r w22 => ∃ b45 : Bool, r = .returned (.bool b45) ∧ (Go.Sx.Fr S w0 w22 ∧ Go.Sx.Mild [g33, g25, g18, g7, g6] w21 w22) ∧ 
       ((b45 = false →
       (
        Calls Try.prog 14 #[(.agg #[.slice A9 n10 n11]), (.agg #[.slice A22 n23 n24])] w22 fun r w23 => ∃ b46 : Bool, r = .returned (.bool b46) ∧ (Go.Sx.Fr S w0 w23 ∧ Go.Sx.Mild [g33, g25, g18, g7, g6] w22 w23) ∧ 
        (R (.returned (.bool (!b46))) w23))) ∧
       (b45 = true →
       (R (.returned (.bool false)) w22))))) ∧
      (b43 = false →
      (R (.returned (.bool false)) w21)))) ∧
     (¬ i44 = (0 : Int) →
     (R (.returned (.bool false)) w21))))) ∧
    (b8 = false →
    (R (.returned (.bool false)) w20)))))))))))) ∧
    (∀ g27 : Nat, w0.heap.size ≤ g27 → (∀ w13 : World, Go.Sx.Fr S w0 w13 → Below w12.heap.size w12 w13 → w12.heap.size ≤ g27 → w13.heap[g27]? = some (.cells #[] 23 (0, 0)) → 
    Calls Try.prog 15 #[(.agg #[.slice A22 n23 n24])] w13 fun r w14 => ∃ A28 : Option Addr, ∃ n29 : Nat, ∃ n30 : Nat, r = .returned (.slice A28 n29 n30) ∧ (Go.Sx.Fr S w0 w14 ∧ Go.Sx.Mild [g27, g25, g18, g7, g6] w13 w14) ∧ Go.Sx.Keep w12.heap.size [] w13 w14 ∧ 
    (
    Calls Try.prog 15 #[(.agg #[.slice A9 n10 n11])] w14 fun r w15 => ∃ A31 : Option Addr, ∃ n32 : Nat, ∃ n33 : Nat, r = .returned (.slice A31 n32 n33) ∧ (Go.Sx.Fr S w0 w15 ∧ Go.Sx.Mild [g27, g25, g18, g7, g6] w14 w15) ∧ Go.Sx.Keep w12.heap.size [] w14 w15 ∧ 
    (w15.heap[g27]? = some (.cells #[] 23 (0, 0)) → 
    ∃ w16 : World, ∃ A34 : Option Addr, ∃ n35 : Nat, ∃ n36 : Nat, (Builtin.append_ #[43, 43] 43 #[(.slice (some ⟨g27, 0, none⟩) 0 0), (.slice A31 n32 n33)]).run Try.prog w15 = .ok (.slice A34 n35 n36) w16 ∧ (Go.Sx.Fr S w0 w16 ∧ Go.Sx.Mild [g27, g25, g18, g7, g6] w15 w16) ∧ Go.Sx.Keep w12.heap.size [] w15 w16 ∧ 
    (
    Calls Try.prog 15 #[(.agg #[.slice A12 n13 n14])] w16 fun r w17 => ∃ A37 : Option Addr, ∃ n38 : Nat, ∃ n39 : Nat, r = .returned (.slice A37 n38 n39) ∧ (Go.Sx.Fr S w0 w17 ∧ Go.Sx.Mild [g27, g25, g18, g7, g6] w16 w17) ∧ 
    (
    ∃ w18 : World, ∃ A40 : Option Addr, ∃ n41 : Nat, ∃ n42 : Nat, (Builtin.append_ #[43, 43] 43 #[(.slice A34 n35 n36), (.slice A37 n38 n39)]).run Try.prog w17 = .ok (.slice A40 n41 n42) w18 ∧ (Go.Sx.Fr S w0 w18 ∧ Go.Sx.Mild [g27, g25, g18, g7, g6] w17 w18) ∧ 
    (
    Calls Try.prog 16 #[(.slice A28 n29 n30), (.slice A40 n41 n42)] w18 fun r w19 => ∃ b43 : Bool, r = .returned (.bool b43) ∧ (Go.Sx.Fr S w0 w19 ∧ Go.Sx.Mild [g27, g25, g18, g7, g6] w18 w19) ∧ 
    ((b8 = true →
    (
     Calls Try.prog 12 #[(.agg #[.slice A22 n23 n24])] w19 fun r w20 => ∃ i44 : Int, r = .returned (.int .i64 i44) ∧ (Go.Sx.Fr S w0 w20 ∧ Go.Sx.Mild [g27, g25, g18, g7, g6] w19 w20) ∧ 
     ((i44 = (0 : Int) →
     ((b43 = true →
      (
       Calls Try.prog 14 #[(.agg #[.slice A22 n23 n24]), (.agg #[.slice A9 n10 n11])] w20 fun r w21 => ∃ b45 : Bool, r = .returned (.bool b45) ∧ (Go.Sx.Fr S w0 w21 ∧ Go.Sx.Mild [g27, g25, g18, g7, g6] w20 w21) ∧ 
       ((b45 = false →
       (
        Calls Try.prog 14 #[(.agg #[.slice A9 n10 n11]), (.agg #[.slice A22 n23 n24])] w21 fun r w22 => ∃ b46 : Bool, r = .returned (.bool b46) ∧ (Go.Sx.Fr S w0 w22 ∧ Go.Sx.Mild [g27, g25, g18, g7, g6] w21 w22) ∧ 
        (R (.returned (.bool (!b46))) w22))) ∧
       (b45 = true →
       (R (.returned (.bool false)) w21))))) ∧
      (b43 = false →
      (R (.returned (.bool false)) w20)))) ∧
     (¬ i44 = (0 : Int) →
     (R (.returned (.bool false)) w20))))) ∧
    (b8 = false →
    (R (.returned (.bool false)) w19)))))))))))))))) ∧
   (∀ g22 : Nat, w0.heap.size ≤ g22 → (∀ w11 : World, Go.Sx.Fr S w0 w11 → Below w10.heap.size w10 w11 → w10.heap.size ≤ g22 → w11.heap[g22]? = some (.cells #[.slice none 0 0] 38 (0, 0)) → 
   ∃ w12 : World, ∃ A23 : Option Addr, ∃ n24 : Nat, ∃ n25 : Nat, (Builtin.append_ #[36, 36] 36 #[(.slice A19 n20 n21), (.slice A12 n13 n14)]).run Try.prog w11 = .ok (.slice A23 n24 n25) w12 ∧ (Go.Sx.Fr S w0 w12 ∧ Go.Sx.Mild [g22, g18, g7, g6] w11 w12) ∧ 
   (((6 : Int) < (n24 : Int) →
   (∀ w13 : World, Go.Sx.Fr S w0 w13 → Go.Sx.Fr (fun b => b ∈ [g22]) w12 w13 → 
    (((∀ w14 : World, Go.Sx.Fr S w0 w14 → Below w13.heap.size w13 w14 → 
    Calls Try.prog 15 #[(.agg #[.slice A23 n24 n25])] w14 fun r w15 => ∃ A27 : Option Addr, ∃ n28 : Nat, ∃ n29 : Nat, r = .returned (.slice A27 n28 n29) ∧ (Go.Sx.Fr S w0 w15 ∧ Go.Sx.Mild [g22, g18, g7, g6] w14 w15) ∧ Go.Sx.Keep w13.heap.size [] w14 w15 ∧ 
    ((∀ g30 : Nat, w0.heap.size ≤ g30 → (∀ w16 : World, Go.Sx.Fr S w0 w16 → Below w15.heap.size w15 w16 → w15.heap.size ≤ g30 → w16.heap[g30]? = some (.cells #[] 23 (0, 0)) → 
    Calls Try.prog 15 #[(.agg #[.slice A9 n10 n11])] w16 fun r w17 => ∃ A31 : Option Addr, ∃ n32 : Nat, ∃ n33 : Nat, r = .returned (.slice A31 n32 n33) ∧ (Go.Sx.Fr S w0 w17 ∧ Go.Sx.Mild [g30, g22, g18, g7, g6] w16 w17) ∧ Go.Sx.Keep w13.heap.size [] w16 w17 ∧ 
    (w17.heap[g30]? = some (.cells #[] 23 (0, 0)) → 
    ∃ w18 : World, ∃ A34 : Option Addr, ∃ n35 : Nat, ∃ n36 : Nat, (Builtin.append_ #[43, 43] 43 #[(.slice (some ⟨g30, 0, none⟩) 0 0), (.slice A31 n32 n33)]).run Try.prog w17 = .ok (.slice A34 n35 n36) w18 ∧ (Go.Sx.Fr S w0 w18 ∧ Go.Sx.Mild [g30, g22, g18, g7, g6] w17 w18) ∧ Go.Sx.Keep w13.heap.size [] w17 w18 ∧ 
    (
    Calls Try.prog 15 #[(.agg #[.slice A12 n13 n14])] w18 fun r w19 => ∃ A37 : Option Addr, ∃ n38 : Nat, ∃ n39 : Nat, r = .returned (.slice A37 n38 n39) ∧ (Go.Sx.Fr S w0 w19 ∧ Go.Sx.Mild [g30, g22, g18, g7, g6] w18 w19) ∧ 
    (
    ∃ w20 : World, ∃ A40 : Option Addr, ∃ n41 : Nat, ∃ n42 : Nat, (Builtin.append_ #[43, 43] 43 #[(.slice A34 n35 n36), (.slice A37 n38 n39)]).run Try.prog w19 = .ok (.slice A40 n41 n42) w20 ∧ (Go.Sx.Fr S w0 w20 ∧ Go.Sx.Mild [g30, g22, g18, g7, g6] w19 w20) ∧ 
    (
    Calls Try.prog 16 #[(.slice A27 n28 n29), (.slice A40 n41 n42)] w20 fun r w21 => ∃ b43 : Bool, r = .returned (.bool b43) ∧ (Go.Sx.Fr S w0 w21 ∧ Go.Sx.Mild [g30, g22, g18, g7, g6] w20 w21) ∧ 
    ((b8 = true →
    (
     Calls Try.prog 12 #[(.agg #[.slice A23 n24 n25])] w21 fun r w22 => ∃ i44 : Int, r = .returned (.int .i64 i44) ∧ (Go.Sx.Fr S w0 w22 ∧ Go.Sx.Mild [g30, g22, g18, g7, g6] w21 w22) ∧ 
     ((i44 = (3 : Int) →
     ((b43 = true →
      (
       Calls Try.prog 14 #[(.agg #[.slice A23 n24 n25]), (.agg #[.slice A9 n10 n11])] w22 fun r w23 => ∃ b45 : Bool, r = .returned (.bool b45) ∧ (Go.Sx.Fr S w0 w23 ∧ Go.Sx.Mild [g30, g22, g18, g7, g6] w22 w23) ∧ 
       ((b45 = false →
       (
        Calls Try.prog 14 #[(.agg #[.slice A9 n10 n11]), (.agg #[.slice A23 n24 n25])] w23 fun r w24 => ∃ b46 : Bool, r = .returned (.bool b46) ∧ (Go.Sx.Fr S w0 w24 ∧ Go.Sx.Mild [g30, g22, g18, g7, g6] w23 w24) ∧ 
        (R (.returned (.bool (!b46))) w24))) ∧
       (b45 = true →
       (R (.returned (.bool false)) w23))))) ∧
      (b43 = false →
      (R (.returned (.bool false)) w22)))) ∧
     (¬ i44 = (3 : Int) →
     (R (.returned (.bool false)) w22))))) ∧
    (b8 = false →
    (R (.returned (.bool false)) w21))))))))) ∧
    ((
    Calls Try.prog 15 #[(.agg #[.slice A9 n10 n11])] w15 fun r w16 => ∃ A30 : Option Addr, ∃ n31 : Nat, ∃ n32 : Nat, r = .returned (.slice A30 n31 n32) ∧ (Go.Sx.Fr S w0 w16 ∧ Go.Sx.Mild [g22, g18, g7, g6] w15 w16) ∧ Go.Sx.Keep w13.heap.size [] w15 w16 ∧ 
    ∀ g33 : Nat, w0.heap.size ≤ g33 → (∀ w17 : World, Go.Sx.Fr S w0 w17 → Below w16.heap.size w16 w17 → w16.heap.size ≤ g33 → w17.heap[g33]? = some (.cells #[] 23 (0, 0)) → 
    ∃ w18 : World, ∃ A34 : Option Addr, ∃ n35 : Nat, ∃ n36 : Nat, (Builtin.append_ #[43, 43] 43 #[(.slice (some ⟨g33, 0, none⟩) 0 0), (.slice A30 n31 n32)]).run Try.prog w17 = .ok (.slice A34 n35 n36) w18 ∧ (Go.Sx.Fr S w0 w18 ∧ Go.Sx.Mild [g33, g22, g18, g7, g6] w17 w18) ∧ Go.Sx.Keep w13.heap.size [] w17 w18 ∧ 
    (
    Calls Try.prog 15 #[(.agg #[.slice A12 n13 n14])] w18 fun r w19 => ∃ A37 : Option Addr, ∃ n38 : Nat, ∃ n39 : Nat, r = .returned (.slice A37 n38 n39) ∧ (Go.Sx.Fr S w0 w19 ∧ Go.Sx.Mild [g33, g22, g18, g7, g6] w18 w19) ∧ 
    (
    ∃ w20 : World, ∃ A40 : Option Addr, ∃ n41 : Nat, ∃ n42 : Nat, (Builtin.append_ #[43, 43] 43 #[(.slice A34 n35 n36), (.slice A37 n38 n39)]).run Try.prog w19 = .ok (.slice A40 n41 n42) w20 ∧ (Go.Sx.Fr S w0 w20 ∧ Go.Sx.Mild [g33, g22, g18, g7, g6] w19 w20) ∧ 
    (
    Calls Try.prog 16 #[(.slice A27 n28 n29), (.slice A40 n41 n42)] w20 fun r w21 => ∃ b43 : Bool, r = .returned (.bool b43) ∧ (Go.Sx.Fr S w0 w21 ∧ Go.Sx.Mild [g33, g22, g18, g7, g6] w20 w21) ∧ 
    ((b8 = true →
    (
     Calls Try.prog 12 #[(.agg #[.slice A23 n24 n25])] w21 fun r w22 => ∃ i44 : Int, r = .returned (.int .i64 i44) ∧ (Go.Sx.Fr S w0 w22 ∧ Go.Sx.Mild [g33, g22, g18, g7, g6] w21 w22) ∧ 
     ((i44 = (3 : Int) →
     ((b43 = true →
      (
       Calls Try.prog 14 #[(.agg #[.slice A23 n24 n25]), (.agg #[.slice A9 n10 n11])] w22 fun r w23 => ∃ b45 : Bool, r = .returned (.bool b45) ∧ (Go.Sx.Fr S w0 w23 ∧ Go.Sx.Mild [g33, g22, g18, g7, g6] w22 w23) ∧ 
       ((b45 = false →
       (
        Calls Try.prog 14 #[(.agg #[.slice A9 n10 n11]), (.agg #[.slice A23 n24 n25])] w23 fun r w24 => ∃ b46 : Bool, r = .returned (.bool b46) ∧ (Go.Sx.Fr S w0 w24 ∧ Go.Sx.Mild [g33, g22, g18, g7, g6] w23 w24) ∧ 
        (R (.returned (.bool (!b46))) w24))) ∧
       (b45 = true →
       (R (.returned (.bool false)) w23))))) ∧
      (b43 = false →
      (R (.returned (.bool false)) w22)))) ∧
     (¬ i44 = (3 : Int) →
     (R (.returned (.bool false)) w22))))) ∧
    (b8 = false →
    (R (.returned (.bool false)) w21)))))))))))) ∧
    (∀ g27 : Nat, w0.heap.size ≤ g27 → (∀ w14 : World, Go.Sx.Fr S w0 w14 → Below w13.heap.size w13 w14 → w13.heap.size ≤ g27 → w14.heap[g27]? = some (.cells #[] 23 (0, 0)) → 
    Calls Try.prog 15 #[(.agg #[.slice A23 n24 n25])] w14 fun r w15 => ∃ A28 : Option Addr, ∃ n29 : Nat, ∃ n30 : Nat, r = .returned (.slice A28 n29 n30) ∧ (Go.Sx.Fr S w0 w15 ∧ Go.Sx.Mild [g27, g22, g18, g7, g6] w14 w15) ∧ Go.Sx.Keep w13.heap.size [] w14 w15 ∧ 
    (
    Calls Try.prog 15 #[(.agg #[.slice A9 n10 n11])] w15 fun r w16 => ∃ A31 : Option Addr, ∃ n32 : Nat, ∃ n33 : Nat, r = .returned (.slice A31 n32 n33) ∧ (Go.Sx.Fr S w0 w16 ∧ Go.Sx.Mild [g27, g22, g18, g7, g6] w15 w16) ∧ Go.Sx.Keep w13.heap.size [] w15 w16 ∧ 
    (w16.heap[g27]? = some (.cells #[] 23 (0, 0)) → 
    ∃ w17 : World, ∃ A34 : Option Addr, ∃ n35 : Nat, ∃ n36 : Nat, (Builtin.append_ #[43, 43] 43 #[(.slice (some ⟨g27, 0, none⟩) 0 0), (.slice A31 n32 n33)]).run Try.prog w16 = .ok (.slice A34 n35 n36) w17 ∧ (Go.Sx.Fr S w0 w17 ∧ Go.Sx.Mild [g27, g22, g18, g7, g6] w16 w17) ∧ Go.Sx.Keep w13.heap.size [] w16 w17 ∧ 
    (
    Calls Try.prog 15 #[(.agg #[.slice A12 n13 n14])] w17 fun r w18 => ∃ A37 : Option Addr, ∃ n38 : Nat, ∃ n39 : Nat, r = .returned (.slice A37 n38 n39) ∧ (Go.Sx.Fr S w0 w18 ∧ Go.Sx.Mild [g27, g22, g18, g7, g6] w17 w18) ∧ 
    (
    ∃ w19 : World, ∃ A40 : Option Addr, ∃ n41 : Nat, ∃ n42 : Nat, (Builtin.append_ #[43, 43] 43 #[(.slice A34 n35 n36), (.slice A37 n38 n39)]).run Try.prog w18 = .ok (.slice A40 n41 n42) w19 ∧ (Go.Sx.Fr S w0 w19 ∧ Go.Sx.Mild [g27, g22, g18, g7, g6] w18 w19) ∧ 
    (
    Calls Try.prog 16 #[(.slice A28 n29 n30), (.slice A40 n41 n42)] w19 fun r w20 => ∃ b43 : Bool, r = .returned (.bool b43) ∧ (Go.Sx.Fr S w0 w20 ∧ Go.Sx.Mild [g27, g22, g18, g7, g6] w19 w20) ∧ 
    ((b8 = true →
    (
     Calls Try.prog 12 #[(.agg #[.slice A23 n24 n25])] w20 fun r w21 => ∃ i44 : Int, r = .returned (.int .i64 i44) ∧ (Go.Sx.Fr S w0 w21 ∧ Go.Sx.Mild [g27, g22, g18, g7, g6] w20 w21) ∧ 
     ((i44 = (3 : Int) →
     ((b43 = true →
      (
       Calls Try.prog 14 #[(.agg #[.slice A23 n24 n25]), (.agg #[.slice A9 n10 n11])] w21 fun r w22 => ∃ b45 : Bool, r = .returned (.bool b45) ∧ (Go.Sx.Fr S w0 w22 ∧ Go.Sx.Mild [g27, g22, g18, g7, g6] w21 w22) ∧ 
       ((b45 = false →
       (
        Calls Try.prog 14 #[(.agg #[.slice A9 n10 n11]), (.agg #[.slice A23 n24 n25])] w22 fun r w23 => ∃ b46 : Bool, r = .returned (.bool b46) ∧ (Go.Sx.Fr S w0 w23 ∧ Go.Sx.Mild [g27, g22, g18, g7, g6] w22 w23) ∧ 
        (R (.returned (.bool (!b46))) w23))) ∧
       (b45 = true →
       (R (.returned (.bool false)) w22))))) ∧
      (b43 = false →
      (R (.returned (.bool false)) w21)))) ∧
     (¬ i44 = (3 : Int) →
     (R (.returned (.bool false)) w21))))) ∧
    (b8 = false →
    (R (.returned (.bool false)) w20))))))))))))) ∧
   ((n24 : Int) ≤ (6 : Int) →
   (∀ w13 : World, Go.Sx.Fr S w0 w13 → Go.Sx.Fr (fun b => b ∈ [g22]) w12 w13 → 
    (((∀ w14 : World, Go.Sx.Fr S w0 w14 → Below w13.heap.size w13 w14 → 
    Calls Try.prog 15 #[(.agg #[.slice A23 n24 n25])] w14 fun r w15 => ∃ A27 : Option Addr, ∃ n28 : Nat, ∃ n29 : Nat, r = .returned (.slice A27 n28 n29) ∧ (Go.Sx.Fr S w0 w15 ∧ Go.Sx.Mild [g22, g18, g7, g6] w14 w15) ∧ Go.Sx.Keep w13.heap.size [] w14 w15 ∧ 
    ((∀ g30 : Nat, w0.heap.size ≤ g30 → (∀ w16 : World, Go.Sx.Fr S w0 w16 → Below w15.heap.size w15 w16 → w15.heap.size ≤ g30 → w16.heap[g30]? = some (.cells #[] 23 (0, 0)) → 
    Calls Try.prog 15 #[(.agg #[.slice A9 n10 n11])] w16 fun r w17 => ∃ A31 : Option Addr, ∃ n32 : Nat, ∃ n33 : Nat, r = .returned (.slice A31 n32 n33) ∧ (Go.Sx.Fr S w0 w17 ∧ Go.Sx.Mild [g30, g22, g18, g7, g6] w16 w17) ∧ Go.Sx.Keep w13.heap.size [] w16 w17 ∧ 
    (w17.heap[g30]? = some (.cells #[] 23 (0, 0)) → 
    ∃ w18 : World, ∃ A34 : Option Addr, ∃ n35 : Nat, ∃ n36 : Nat, (Builtin.append_ #[43, 43] 43 #[(.slice (some ⟨g30, 0, none⟩) 0 0), (.slice A31 n32 n33)]).run Try.prog w17 = .ok (.slice A34 n35 n36) w18 ∧ (Go.Sx.Fr S w0 w18 ∧ Go.Sx.Mild [g30, g22, g18, g7, g6] w17 w18) ∧ Go.Sx.Keep w13.heap.size [] w17 w18 ∧ 
    (
    Calls Try.prog 15 #[(.agg #[.slice A12 n13 n14])] w18 fun r w19 => ∃ A37 : Option Addr, ∃ n38 : Nat, ∃ n39 : Nat, r = .returned (.slice A37 n38 n39) ∧ (Go.Sx.Fr S w0 w19 ∧ Go.Sx.Mild [g30, g22, g18, g7, g6] w18 w19) ∧ 
    (
    ∃ w20 : World, ∃ A40 : Option Addr, ∃ n41 : Nat, ∃ n42 : Nat, (Builtin.append_ #[43, 43] 43 #[(.slice A34 n35 n36), (.slice A37 n38 n39)]).run Try.prog w19 = .ok (.slice A40 n41 n42) w20 ∧ (Go.Sx.Fr S w0 w20 ∧ Go.Sx.Mild [g30, g22, g18, g7, g6] w19 w20) ∧ 
    (
    Calls Try.prog 16 #[(.slice A27 n28 n29), (.slice A40 n41 n42)] w20 fun r w21 => ∃ b43 : Bool, r = .returned (.bool b43) ∧ (Go.Sx.Fr S w0 w21 ∧ Go.Sx.Mild [g30, g22, g18, g7, g6] w20 w21) ∧ 
    ((b8 = true →
    (
     Calls Try.prog 12 #[(.agg #[.slice A23 n24 n25])] w21 fun r w22 => ∃ i44 : Int, r = .returned (.int .i64 i44) ∧ (Go.Sx.Fr S w0 w22 ∧ Go.Sx.Mild [g30, g22, g18, g7, g6] w21 w22) ∧ 
     ((i44 = (0 : Int) →
     ((b43 = true →
      (
       Calls Try.prog 14 #[(.agg #[.slice A23 n24 n25]), (.agg #[.slice A9 n10 n11])] w22 fun r w23 => ∃ b45 : Bool, r = .returned (.bool b45) ∧ (Go.Sx.Fr S w0 w23 ∧ Go.Sx.Mild [g30, g22, g18, g7, g6] w22 w23) ∧ 
       ((b45 = false →
       (
        Calls Try.prog 14 #[(.agg #[.slice A9 n10 n11]), (.agg #[.slice A23 n24 n25])] w23 fun r w24 => ∃ b46 : Bool, r = .returned (.bool b46) ∧ (Go.Sx.Fr S w0 w24 ∧ Go.Sx.Mild [g30, g22, g18, g7, g6] w23 w24) ∧ 
        (R (.returned (.bool (!b46))) w24))) ∧
       (b45 = true →
       (R (.returned (.bool false)) w23))))) ∧
      (b43 = false →
      (R (.returned (.bool false)) w22)))) ∧
     (¬ i44 = (0 : Int) →
     (R (.returned (.bool false)) w22))))) ∧
    (b8 = false →
    (R (.returned (.bool false)) w21))))))))) ∧
    ((
    Calls Try.prog 15 #[(.agg #[.slice A9 n10 n11])] w15 fun r w16 => ∃ A30 : Option Addr, ∃ n31 : Nat, ∃ n32 : Nat, r = .returned (.slice A30 n31 n32) ∧ (Go.Sx.Fr S w0 w16 ∧ Go.Sx.Mild [g22, g18, g7, g6] w15 w16) ∧ Go.Sx.Keep w13.heap.size [] w15 w16 ∧ 
    ∀ g33 : Nat, w0.heap.size ≤ g33 → (∀ w17 : World, Go.Sx.Fr S w0 w17 → Below w16.heap.size w16 w17 → w16.heap.size ≤ g33 → w17.heap[g33]? = some (.cells #[] 23 (0, 0)) → 
    ∃ w18 : World, ∃ A34 : Option Addr, ∃ n35 : Nat, ∃ n36 : Nat, (Builtin.append_ #[43, 43] 43 #[(.slice (some ⟨g33, 0, none⟩) 0 0), (.slice A30 n31 n32)]).run Try.prog w17 = .ok (.slice A34 n35 n36) w18 ∧ (Go.Sx.Fr S w0 w18 ∧ Go.Sx.Mild [g33, g22, g18, g7, g6] w17 w18) ∧ Go.Sx.Keep w13.heap.size [] w17 w18 ∧ 
    (
    Calls Try.prog 15 #[(.agg #[.slice A12 n13 n14])] w18 fun r w19 => ∃ A37 : Option Addr, ∃ n38 : Nat, ∃ n39 : Nat, r = .returned (.slice A37 n38 n39) ∧ (Go.Sx.Fr S w0 w19 ∧ Go.Sx.Mild [g33, g22, g18, g7, g6] w18 w19) ∧ 
    (
    ∃ w20 : World, ∃ A40 : Option Addr, ∃ n41 : Nat, ∃ n42 : Nat, (Builtin.append_ #[43, 43] 43 #[(.slice A34 n35 n36), (.slice A37 n38 n39)]).run Try.prog w19 = .ok (.slice A40 n41 n42) w20 ∧ (Go.Sx.Fr S w0 w20 ∧ Go.Sx.Mild [g33, g22, g18, g7, g6] w19 w20) ∧ 
    (
    Calls Try.prog 16 #[(.slice A27 n28 n29), (.slice A40 n41 n42)] w20 fun r w21 => ∃ b43 : Bool, r = .returned (.bool b43) ∧ (Go.Sx.Fr S w0 w21 ∧ Go.Sx.Mild [g33, g22, g18, g7, g6] w20 w21) ∧ 
    ((b8 = true →
    (
     Calls Try.prog 12 #[(.agg #[.slice A23 n24 n25])] w21 fun r w22 => ∃ i44 : Int, r = .returned (.int .i64 i44) ∧ (Go.Sx.Fr S w0 w22 ∧ Go.Sx.Mild [g33, g22, g18, g7, g6] w21 w22) ∧ 
     ((i44 = (0 : Int) →
     ((b43 = true →
      (
       Calls Try.prog 14 #[(.agg #[.slice A23 n24 n25]), (.agg #[.slice A9 n10 n11])] w22 fun r w23 => ∃ b45 : Bool, r = .returned (.bool b45) ∧ (Go.Sx.Fr S w0 w23 ∧ Go.Sx.Mild [g33, g22, g18, g7, g6] w22 w23) ∧ 
       ((b45 = false →
       (
        Calls Try.prog 14 #[(.agg #[.slice A9 n10 n11]), (.agg #[.slice A23 n24 n25])] w23 fun r w24 => ∃ b46 : Bool, r = .returned (.bool b46) ∧ (Go.Sx.Fr S w0 w24 ∧ Go.Sx.Mild [g33, g22, g18, g7, g6] w23 w24) ∧ 
        (R (.returned (.bool (!b46))) w24))) ∧
       (b45 = true →
       (R (.returned (.bool false)) w23))))) ∧
      (b43 = false →
      (R (.returned (.bool false)) w22)))) ∧
     (¬ i44 = (0 : Int) →
     (R (.returned (.bool false)) w22))))) ∧
    (b8 = false →
    (R (.returned (.bool false)) w21)))))))))))) ∧
    (∀ g27 : Nat, w0.heap.size ≤ g27 → (∀ w14 : World, Go.Sx.Fr S w0 w14 → Below w13.heap.size w13 w14 → w13.heap.size ≤ g27 → w14.heap[g27]? = some (.cells #[] 23 (0, 0)) → 
    Calls Try.prog 15 #[(.agg #[.slice A23 n24 n25])] w14 fun r w15 => ∃ A28 : Option Addr, ∃ n29 : Nat, ∃ n30 : Nat, r = .returned (.slice A28 n29 n30) ∧ (Go.Sx.Fr S w0 w15 ∧ Go.Sx.Mild [g27, g22, g18, g7, g6] w14 w15) ∧ Go.Sx.Keep w13.heap.size [] w14 w15 ∧ 
    (
    Calls Try.prog 15 #[(.agg #[.slice A9 n10 n11])] w15 fun r w16 => ∃ A31 : Option Addr, ∃ n32 : Nat, ∃ n33 : Nat, r = .returned (.slice A31 n32 n33) ∧ (Go.Sx.Fr S w0 w16 ∧ Go.Sx.Mild [g27, g22, g18, g7, g6] w15 w16) ∧ Go.Sx.Keep w13.heap.size [] w15 w16 ∧ 
    (w16.heap[g27]? = some (.cells #[] 23 (0, 0)) → 
    ∃ w17 : World, ∃ A34 : Option Addr, ∃ n35 : Nat, ∃ n36 : Nat, (Builtin.append_ #[43, 43] 43 #[(.slice (some ⟨g27, 0, none⟩) 0 0), (.slice A31 n32 n33)]).run Try.prog w16 = .ok (.slice A34 n35 n36) w17 ∧ (Go.Sx.Fr S w0 w17 ∧ Go.Sx.Mild [g27, g22, g18, g7, g6] w16 w17) ∧ Go.Sx.Keep w13.heap.size [] w16 w17 ∧ 
    (
    Calls Try.prog 15 #[(.agg #[.slice A12 n13 n14])] w17 fun r w18 => ∃ A37 : Option Addr, ∃ n38 : Nat, ∃ n39 : Nat, r = .returned (.slice A37 n38 n39) ∧ (Go.Sx.Fr S w0 w18 ∧ Go.Sx.Mild [g27, g22, g18, g7, g6] w17 w18) ∧ 
    (
    ∃ w19 : World, ∃ A40 : Option Addr, ∃ n41 : Nat, ∃ n42 : Nat, (Builtin.append_ #[43, 43] 43 #[(.slice A34 n35 n36), (.slice A37 n38 n39)]).run Try.prog w18 = .ok (.slice A40 n41 n42) w19 ∧ (Go.Sx.Fr S w0 w19 ∧ Go.Sx.Mild [g27, g22, g18, g7, g6] w18 w19) ∧ 
    (
    Calls Try.prog 16 #[(.slice A28 n29 n30), (.slice A40 n41 n42)] w19 fun r w20 => ∃ b43 : Bool, r = .returned (.bool b43) ∧ (Go.Sx.Fr S w0 w20 ∧ Go.Sx.Mild [g27, g22, g18, g7, g6] w19 w20) ∧ 
    ((b8 = true →
    (
     Calls Try.prog 12 #[(.agg #[.slice A23 n24 n25])] w20 fun r w21 => ∃ i44 : Int, r = .returned (.int .i64 i44) ∧ (Go.Sx.Fr S w0 w21 ∧ Go.Sx.Mild [g27, g22, g18, g7, g6] w20 w21) ∧ 
     ((i44 = (0 : Int) →
     ((b43 = true →
      (
       Calls Try.prog 14 #[(.agg #[.slice A23 n24 n25]), (.agg #[.slice A9 n10 n11])] w21 fun r w22 => ∃ b45 : Bool, r = .returned (.bool b45) ∧ (Go.Sx.Fr S w0 w22 ∧ Go.Sx.Mild [g27, g22, g18, g7, g6] w21 w22) ∧ 
       ((b45 = false →
       (
        Calls Try.prog 14 #[(.agg #[.slice A9 n10 n11]), (.agg #[.slice A23 n24 n25])] w22 fun r w23 => ∃ b46 : Bool, r = .returned (.bool b46) ∧ (Go.Sx.Fr S w0 w23 ∧ Go.Sx.Mild [g27, g22, g18, g7, g6] w22 w23) ∧ 
        (R (.returned (.bool (!b46))) w23))) ∧
       (b45 = true →
       (R (.returned (.bool false)) w22))))) ∧
      (b43 = false →
      (R (.returned (.bool false)) w21)))) ∧
     (¬ i44 = (0 : Int) →
     (R (.returned (.bool false)) w21))))) ∧
    (b8 = false →
    (R (.returned (.bool false)) w20))))))))))))))))))) ∧
   (∀ g19 : Nat, w0.heap.size ≤ g19 → (∀ w9 : World, Go.Sx.Fr S w0 w9 → Below w8.heap.size w8 w9 → w8.heap.size ≤ g19 → w9.heap[g19]? = some (.cells #[.slice none 0 0] 38 (0, 0)) → w8.heap.size ≤ g18 → w9.heap[g18]? = some (.cells #[] 29 (0, 0)) → 
   ∃ w10 : World, ∃ A20 : Option Addr, ∃ n21 : Nat, ∃ n22 : Nat, (Builtin.append_ #[36, 36] 36 #[(.slice (some ⟨g18, 0, none⟩) 0 0), (.slice A9 n10 n11)]).run Try.prog w9 = .ok (.slice A20 n21 n22) w10 ∧ (Go.Sx.Fr S w0 w10 ∧ Go.Sx.Mild [g19, g18, g7, g6] w9 w10) ∧ Go.Sx.Keep w8.heap.size [] w9 w10 ∧ 
   (
   ∃ w11 : World, ∃ A23 : Option Addr, ∃ n24 : Nat, ∃ n25 : Nat, (Builtin.append_ #[36, 36] 36 #[(.slice A20 n21 n22), (.slice A12 n13 n14)]).run Try.prog w10 = .ok (.slice A23 n24 n25) w11 ∧ (Go.Sx.Fr S w0 w11 ∧ Go.Sx.Mild [g19, g18, g7, g6] w10 w11) ∧ 
   (((6 : Int) < (n24 : Int) →
   (∀ w12 : World, Go.Sx.Fr S w0 w12 → Go.Sx.Fr (fun b => b ∈ [g19]) w11 w12 → 
    (((∀ w13 : World, Go.Sx.Fr S w0 w13 → Below w12.heap.size w12 w13 → 
    Calls Try.prog 15 #[(.agg #[.slice A23 n24 n25])] w13 fun r w14 => ∃ A27 : Option Addr, ∃ n28 : Nat, ∃ n29 : Nat, r = .returned (.slice A27 n28 n29) ∧ (Go.Sx.Fr S w0 w14 ∧ Go.Sx.Mild [g19, g18, g7, g6] w13 w14) ∧ Go.Sx.Keep w12.heap.size [] w13 w14 ∧ 
    ((∀ g30 : Nat, w0.heap.size ≤ g30 → (∀ w15 : World, Go.Sx.Fr S w0 w15 → Below w14.heap.size w14 w15 → w14.heap.size ≤ g30 → w15.heap[g30]? = some (.cells #[] 23 (0, 0)) → 
    Calls Try.prog 15 #[(.agg #[.slice A9 n10 n11])] w15 fun r w16 => ∃ A31 : Option Addr, ∃ n32 : Nat, ∃ n33 : Nat, r = .returned (.slice A31 n32 n33) ∧ (Go.Sx.Fr S w0 w16 ∧ Go.Sx.Mild [g30, g19, g18, g7, g6] w15 w16) ∧ Go.Sx.Keep w12.heap.size [] w15 w16 ∧ 
    (w16.heap[g30]? = some (.cells #[] 23 (0, 0)) → 
    ∃ w17 : World, ∃ A34 : Option Addr, ∃ n35 : Nat, ∃ n36 : Nat, (Builtin.append_ #[43, 43] 43 #[(.slice (some ⟨g30, 0, none⟩) 0 0), (.slice A31 n32 n33)]).run Try.prog w16 = .ok (.slice A34 n35 n36) w17 ∧ (Go.Sx.Fr S w0 w17 ∧ Go.Sx.Mild [g30, g19, g18, g7, g6] w16 w17) ∧ Go.Sx.Keep w12.heap.size [] w16 w17 ∧ 
    (
    Calls Try.prog 15 #[(.agg #[.slice A12 n13 n14])] w17 fun r w18 => ∃ A37 : Option Addr, ∃ n38 : Nat, ∃ n39 : Nat, r = .returned (.slice A37 n38 n39) ∧ (Go.Sx.Fr S w0 w18 ∧ Go.Sx.Mild [g30, g19, g18, g7, g6] w17 w18) ∧ 
    (
    ∃ w19 : World, ∃ A40 : Option Addr, ∃ n41 : Nat, ∃ n42 : Nat, (Builtin.append_ #[43, 43] 43 #[(.slice A34 n35 n36), (.slice A37 n38 n39)]).run Try.prog w18 = .ok (.slice A40 n41 n42) w19 ∧ (Go.Sx.Fr S w0 w19 ∧ Go.Sx.Mild [g30, g19, g18, g7, g6] w18 w19) ∧ 
    (
    Calls Try.prog 16 #[(.slice A27 n28 n29), (.slice A40 n41 n42)] w19 fun r w20 => ∃ b43 : Bool, r = .returned (.bool b43) ∧ (Go.Sx.Fr S w0 w20 ∧ Go.Sx.Mild [g30, g19, g18, g7, g6] w19 w20) ∧ 
    ((b8 = true →
    (
     Calls Try.prog 12 #[(.agg #[.slice A23 n24 n25])] w20 fun r w21 => ∃ i44 : Int, r = .returned (.int .i64 i44) ∧ (Go.Sx.Fr S w0 w21 ∧ Go.Sx.Mild [g30, g19, g18, g7, g6] w20 w21) ∧ 
     ((i44 = (3 : Int) →
     ((b43 = true →
      (
       Calls Try.prog 14 #[(.agg #[.slice A23 n24 n25]), (.agg #[.slice A9 n10 n11])] w21 fun r w22 => ∃ b45 : Bool, r = .returned (.bool b45) ∧ (Go.Sx.Fr S w0 w22 ∧ Go.Sx.Mild [g30, g19, g18, g7, g6] w21 w22) ∧ 
       ((b45 = false →
       (
        Calls Try.prog 14 #[(.agg #[.slice A9 n10 n11]), (.agg #[.slice A23 n24 n25])] w22 fun r w23 => ∃ b46 : Bool, r = .returned (.bool b46) ∧ (Go.Sx.Fr S w0 w23 ∧ Go.Sx.Mild [g30, g19, g18, g7, g6] w22 w23) ∧ 
        (R (.returned (.bool (!b46))) w23))) ∧
       (b45 = true →
       (R (.returned (.bool false)) w22))))) ∧
      (b43 = false →
      (R (.returned (.bool false)) w21)))) ∧
     (¬ i44 = (3 : Int) →
     (R (.returned (.bool false)) w21))))) ∧
    (b8 = false →
    (R (.returned (.bool false)) w20))))))))) ∧
    ((
    Calls Try.prog 15 #[(.agg #[.slice A9 n10 n11])] w14 fun r w15 => ∃ A30 : Option Addr, ∃ n31 : Nat, ∃ n32 : Nat, r = .returned (.slice A30 n31 n32) ∧ (Go.Sx.Fr S w0 w15 ∧ Go.Sx.Mild [g19, g18, g7, g6] w14 w15) ∧ Go.Sx.Keep w12.heap.size [] w14 w15 ∧ 
    ∀ g33 : Nat, w0.heap.size ≤ g33 → (∀ w16 : World, Go.Sx.Fr S w0 w16 → Below w15.heap.size w15 w16 → w15.heap.size ≤ g33 → w16.heap[g33]? = some (.cells #[] 23 (0, 0)) → 
    ∃ w17 : World, ∃ A34 : Option Addr, ∃ n35 : Nat, ∃ n36 : Nat, (Builtin.append_ #[43, 43] 43 #[(.slice (some ⟨g33, 0, none⟩) 0 0), (.slice A30 n31 n32)]).run Try.prog w16 = .ok (.slice A34 n35 n36) w17 ∧ (Go.Sx.Fr S w0 w17 ∧ Go.Sx.Mild [g33, g19, g18, g7, g6] w16 w17) ∧ Go.Sx.Keep w12.heap.size [] w16 w17 ∧ 
    (
    Calls Try.prog 15 #[(.agg #[.slice A12 n13 n14])] w17 fun r w18 => ∃ A37 : Option Addr, ∃ n38 : Nat, ∃ n39 : Nat, r = .returned (.slice A37 n38 n39) ∧ (Go.Sx.Fr S w0 w18 ∧ Go.Sx.Mild [g33, g19, g18, g7, g6] w17 w18) ∧ 
    (
    ∃ w19 : World, ∃ A40 : Option Addr, ∃ n41 : Nat, ∃ n42 : Nat, (Builtin.append_ #[43, 43] 43 #[(.slice A34 n35 n36), (.slice A37 n38 n39)]).run Try.prog w18 = .ok (.slice A40 n41 n42) w19 ∧ (Go.Sx.Fr S w0 w19 ∧ Go.Sx.Mild [g33, g19, g18, g7, g6] w18 w19) ∧ 
    (
    Calls Try.prog 16 #[(.slice A27 n28 n29), (.slice A40 n41 n42)] w19 fun r w20 => ∃ b43 : Bool, r = .returned (.bool b43) ∧ (Go.Sx.Fr S w0 w20 ∧ Go.Sx.Mild [g33, g19, g18, g7, g6] w19 w20) ∧ 
    ((b8 = true →
    (
     Calls Try.prog 12 #[(.agg #[.slice A23 n24 n25])] w20 fun r w21 => ∃ i44 : Int, r = .returned (.int .i64 i44) ∧ (Go.Sx.Fr S w0 w21 ∧ Go.Sx.Mild [g33, g19, g18, g7, g6] w20 w21) ∧ 
     ((i44 = (3 : Int) →
     ((b43 = true →
      (
       Calls Try.prog 14 #[(.agg #[.slice A23 n24 n25]), (.agg #[.slice A9 n10 n11])] w21 fun r w22 => ∃ b45 : Bool, r = .returned (.bool b45) ∧ (Go.Sx.Fr S w0 w22 ∧ Go.Sx.Mild [g33, g19, g18, g7, g6] w21 w22) ∧ 
       ((b45 = false →
       (
        Calls Try.prog 14 #[(.agg #[.slice A9 n10 n11]), (.agg #[.slice A23 n24 n25])] w22 fun r w23 => ∃ b46 : Bool, r = .returned (.bool b46) ∧ (Go.Sx.Fr S w0 w23 ∧ Go.Sx.Mild [g33, g19, g18, g7, g6] w22 w23) ∧ 
        (R (.returned (.bool (!b46))) w23))) ∧
       (b45 = true →
       (R (.returned (.bool false)) w22))))) ∧
      (b43 = false →
      (R (.returned (.bool false)) w21)))) ∧
     (¬ i44 = (3 : Int) →
     (R (.returned (.bool false)) w21))))) ∧
    (b8 = false →
    (R (.returned (.bool false)) w20)))))))))))) ∧
    (∀ g27 : Nat, w0.heap.size ≤ g27 → (∀ w13 : World, Go.Sx.Fr S w0 w13 → Below w12.heap.size w12 w13 → w12.heap.size ≤ g27 → w13.heap[g27]? = some (.cells #[] 23 (0, 0)) → 
    Calls Try.prog 15 #[(.agg #[.slice A23 n24 n25])] w13 fun r w14 => ∃ A28 : Option Addr, ∃ n29 : Nat, ∃ n30 : Nat, r = .returned (.slice A28 n29 n30) ∧ (Go.Sx.Fr S w0 w14 ∧ Go.Sx.Mild [g27, g19, g18, g7, g6] w13 w14) ∧ Go.Sx.Keep w12.heap.size [] w13 w14 ∧ 
    (
    Calls Try.prog 15 #[(.agg #[.slice A9 n10 n11])] w14 fun r w15 => ∃ A31 : Option Addr, ∃ n32 : Nat, ∃ n33 : Nat, r = .returned (.slice A31 n32 n33) ∧ (Go.Sx.Fr S w0 w15 ∧ Go.Sx.Mild [g27, g19, g18, g7, g6] w14 w15) ∧ Go.Sx.Keep w12.heap.size [] w14 w15 ∧ 
    (w15.heap[g27]? = some (.cells #[] 23 (0, 0)) → 
    ∃ w16 : World, ∃ A34 : Option Addr, ∃ n35 : Nat, ∃ n36 : Nat, (Builtin.append_ #[43, 43] 43 #[(.slice (some ⟨g27, 0, none⟩) 0 0), (.slice A31 n32 n33)]).run Try.prog w15 = .ok (.slice A34 n35 n36) w16 ∧ (Go.Sx.Fr S w0 w16 ∧ Go.Sx.Mild [g27, g19, g18, g7, g6] w15 w16) ∧ Go.Sx.Keep w12.heap.size [] w15 w16 ∧ 
    (
    Calls Try.prog 15 #[(.agg #[.slice A12 n13 n14])] w16 fun r w17 => ∃ A37 : Option Addr, ∃ n38 : Nat, ∃ n39 : Nat, r = .returned (.slice A37 n38 n39) ∧ (Go.Sx.Fr S w0 w17 ∧ Go.Sx.Mild [g27, g19, g18, g7, g6] w16 w17) ∧ 
    (
    ∃ w18 : World, ∃ A40 : Option Addr, ∃ n41 : Nat, ∃ n42 : Nat, (Builtin.append_ #[43, 43] 43 #[(.slice A34 n35 n36), (.slice A37 n38 n39)]).run Try.prog w17 = .ok (.slice A40 n41 n42) w18 ∧ (Go.Sx.Fr S w0 w18 ∧ Go.Sx.Mild [g27, g19, g18, g7, g6] w17 w18) ∧ 
    (
    Calls Try.prog 16 #[(.slice A28 n29 n30), (.slice A40 n41 n42)] w18 fun r w19 => ∃ b43 : Bool, r = .returned (.bool b43) ∧ (Go.Sx.Fr S w0 w19 ∧ Go.Sx.Mild [g27, g19, g18, g7, g6] w18 w19) ∧ 
    ((b8 = true →
    (
     Calls Try.prog 12 #[(.agg #[.slice A23 n24 n25])] w19 fun r w20 => ∃ i44 : Int, r = .returned (.int .i64 i44) ∧ (Go.Sx.Fr S w0 w20 ∧ Go.Sx.Mild [g27, g19, g18, g7, g6] w19 w20) ∧ 
     ((i44 = (3 : Int) →
     ((b43 = true →
      (
       Calls Try.prog 14 #[(.agg #[.slice A23 n24 n25]), (.agg #[.slice A9 n10 n11])] w20 fun r w21 => ∃ b45 : Bool, r = .returned (.bool b45) ∧ (Go.Sx.Fr S w0 w21 ∧ Go.Sx.Mild [g27, g19, g18, g7, g6] w20 w21) ∧ 
       ((b45 = false →
       (
        Calls Try.prog 14 #[(.agg #[.slice A9 n10 n11]), (.agg #[.slice A23 n24 n25])] w21 fun r w22 => ∃ b46 : Bool, r = .returned (.bool b46) ∧ (Go.Sx.Fr S w0 w22 ∧ Go.Sx.Mild [g27, g19, g18, g7, g6] w21 w22) ∧ 
        (R (.returned (.bool (!b46))) w22))) ∧
       (b45 = true →
       (R (.returned (.bool false)) w21))))) ∧
      (b43 = false →
      (R (.returned (.bool false)) w20)))) ∧
     (¬ i44 = (3 : Int) →
     (R (.returned (.bool false)) w20))))) ∧
    (b8 = false →
    (R (.returned (.bool false)) w19))))))))))))) ∧
   ((n24 : Int) ≤ (6 : Int) →
   (∀ w12 : World, Go.Sx.Fr S w0 w12 → Go.Sx.Fr (fun b => b ∈ [g19]) w11 w12 → 
    (((∀ w13 : World, Go.Sx.Fr S w0 w13 → Below w12.heap.size w12 w13 → 
    Calls Try.prog 15 #[(.agg #[.slice A23 n24 n25])] w13 fun r w14 => ∃ A27 : Option Addr, ∃ n28 : Nat, ∃ n29 : Nat, r = .returned (.slice A27 n28 n29) ∧ (Go.Sx.Fr S w0 w14 ∧ Go.Sx.Mild [g19, g18, g7, g6] w13 w14) ∧ Go.Sx.Keep w12.heap.size [] w13 w14 ∧ 
    ((∀ g30 : Nat, w0.heap.size ≤ g30 → (∀ w15 : World, Go.Sx.Fr S w0 w15 → Below w14.heap.size w14 w15 → w14.heap.size ≤ g30 → w15.heap[g30]? = some (.cells #[] 23 (0, 0)) → 
    Calls Try.prog 15 #[(.agg #[.slice A9 n10 n11])] w15 fun r w16 => ∃ A31 : Option Addr, ∃ n32 : Nat, ∃ n33 : Nat, r = .returned (.slice A31 n32 n33) ∧ (Go.Sx.Fr S w0 w16 ∧ Go.Sx.Mild [g30, g19, g18, g7, g6] w15 w16) ∧ Go.Sx.Keep w12.heap.size [] w15 w16 ∧ 
    (w16.heap[g30]? = some (.cells #[] 23 (0, 0)) → 
    ∃ w17 : World, ∃ A34 : Option Addr, ∃ n35 : Nat, ∃ n36 : Nat, (Builtin.append_ #[43, 43] 43 #[(.slice (some ⟨g30, 0, none⟩) 0 0), (.slice A31 n32 n33)]).run Try.prog w16 = .ok (.slice A34 n35 n36) w17 ∧ (Go.Sx.Fr S w0 w17 ∧ Go.Sx.Mild [g30, g19, g18, g7, g6] w16 w17) ∧ Go.Sx.Keep w12.heap.size [] w16 w17 ∧ 
    (
    Calls Try.prog 15 #[(.agg #[.slice A12 n13 n14])] w17 fun r w18 => ∃ A37 : Option Addr, ∃ n38 : Nat, ∃ n39 : Nat, r = .returned (.slice A37 n38 n39) ∧ (Go.Sx.Fr S w0 w18 ∧ Go.Sx.Mild [g30, g19, g18, g7, g6] w17 w18) ∧ 
    (
    ∃ w19 : World, ∃ A40 : Option Addr, ∃ n41 : Nat, ∃ n42 : Nat, (Builtin.append_ #[43, 43] 43 #[(.slice A34 n35 n36), (.slice A37 n38 n39)]).run Try.prog w18 = .ok (.slice A40 n41 n42) w19 ∧ (Go.Sx.Fr S w0 w19 ∧ Go.Sx.Mild [g30, g19, g18, g7, g6] w18 w19) ∧ 
    (
    Calls Try.prog 16 #[(.slice A27 n28 n29), (.slice A40 n41 n42)] w19 fun r w20 => ∃ b43 : Bool, r = .returned (.bool b43) ∧ (Go.Sx.Fr S w0 w20 ∧ Go.Sx.Mild [g30, g19, g18, g7, g6] w19 w20) ∧ 
    ((b8 = true →
    (
     Calls Try.prog 12 #[(.agg #[.slice A23 n24 n25])] w20 fun r w21 => ∃ i44 : Int, r = .returned (.int .i64 i44) ∧ (Go.Sx.Fr S w0 w21 ∧ Go.Sx.Mild [g30, g19, g18, g7, g6] w20 w21) ∧ 
     ((i44 = (0 : Int) →
     ((b43 = true →
      (
       Calls Try.prog 14 #[(.agg #[.slice A23 n24 n25]), (.agg #[.slice A9 n10 n11])] w21 fun r w22 => ∃ b45 : Bool, r = .returned (.bool b45) ∧ (Go.Sx.Fr S w0 w22 ∧ Go.Sx.Mild [g30, g19, g18, g7, g6] w21 w22) ∧ 
       ((b45 = false →
       (
        Calls Try.prog 14 #[(.agg #[.slice A9 n10 n11]), (.agg #[.slice A23 n24 n25])] w22 fun r w23 => ∃ b46 : Bool, r = .returned (.bool b46) ∧ (Go.Sx.Fr S w0 w23 ∧ Go.Sx.Mild [g30, g19, g18, g7, g6] w22 w23) ∧ 
        (R (.returned (.bool (!b46))) w23))) ∧
       (b45 = true →
       (R (.returned (.bool false)) w22))))) ∧
      (b43 = false →
      (R (.returned (.bool false)) w21)))) ∧
     (¬ i44 = (0 : Int) →
     (R (.returned (.bool false)) w21))))) ∧
    (b8 = false →
    (R (.returned (.bool false)) w20))))))))) ∧
    ((
    Calls Try.prog 15 #[(.agg #[.slice A9 n10 n11])] w14 fun r w15 => ∃ A30 : Option Addr, ∃ n31 : Nat, ∃ n32 : Nat, r = .returned (.slice A30 n31 n32) ∧ (Go.Sx.Fr S w0 w15 ∧ Go.Sx.Mild [g19, g18, g7, g6] w14 w15) ∧ Go.Sx.Keep w12.heap.size [] w14 w15 ∧ 
    ∀ g33 : Nat, w0.heap.size ≤ g33 → (∀ w16 : World, Go.Sx.Fr S w0 w16 → Below w15.heap.size w15 w16 → w15.heap.size ≤ g33 → w16.heap[g33]? = some (.cells #[] 23 (0, 0)) → 
    ∃ w17 : World, ∃ A34 : Option Addr, ∃ n35 : Nat, ∃ n36 : Nat, (Builtin.append_ #[43, 43] 43 #[(.slice (some ⟨g33, 0, none⟩) 0 0), (.slice A30 n31 n32)]).run Try.prog w16 = .ok (.slice A34 n35 n36) w17 ∧ (Go.Sx.Fr S w0 w17 ∧ Go.Sx.Mild [g33, g19, g18, g7, g6] w16 w17) ∧ Go.Sx.Keep w12.heap.size [] w16 w17 ∧ 
    (
    Calls Try.prog 15 #[(.agg #[.slice A12 n13 n14])] w17 fun r w18 => ∃ A37 : Option Addr, ∃ n38 : Nat, ∃ n39 : Nat, r = .returned (.slice A37 n38 n39) ∧ (Go.Sx.Fr S w0 w18 ∧ Go.Sx.Mild [g33, g19, g18, g7, g6] w17 w18) ∧ 
    (
    ∃ w19 : World, ∃ A40 : Option Addr, ∃ n41 : Nat, ∃ n42 : Nat, (Builtin.append_ #[43, 43] 43 #[(.slice A34 n35 n36), (.slice A37 n38 n39)]).run Try.prog w18 = .ok (.slice A40 n41 n42) w19 ∧ (Go.Sx.Fr S w0 w19 ∧ Go.Sx.Mild [g33, g19, g18, g7, g6] w18 w19) ∧ 
    (
    Calls Try.prog 16 #[(.slice A27 n28 n29), (.slice A40 n41 n42)] w19 fun r w20 => ∃ b43 : Bool, r = .returned (.bool b43) ∧ (Go.Sx.Fr S w0 w20 ∧ Go.Sx.Mild [g33, g19, g18, g7, g6] w19 w20) ∧ 
    ((b8 = true →
    (
     Calls Try.prog 12 #[(.agg #[.slice A23 n24 n25])] w20 fun r w21 => ∃ i44 : Int, r = .returned (.int .i64 i44) ∧ (Go.Sx.Fr S w0 w21 ∧ Go.Sx.Mild [g33, g19, g18, g7, g6] w20 w21) ∧ 
     ((i44 = (0 : Int) →
     ((b43 = true →
      (
       Calls Try.prog 14 #[(.agg #[.slice A23 n24 n25]), (.agg #[.slice A9 n10 n11])] w21 fun r w22 => ∃ b45 : Bool, r = .returned (.bool b45) ∧ (Go.Sx.Fr S w0 w22 ∧ Go.Sx.Mild [g33, g19, g18, g7, g6] w21 w22) ∧ 
       ((b45 = false →
       (
        Calls Try.prog 14 #[(.agg #[.slice A9 n10 n11]), (.agg #[.slice A23 n24 n25])] w22 fun r w23 => ∃ b46 : Bool, r = .returned (.bool b46) ∧ (Go.Sx.Fr S w0 w23 ∧ Go.Sx.Mild [g33, g19, g18, g7, g6] w22 w23) ∧ 
        (R (.returned (.bool (!b46))) w23))) ∧
       (b45 = true →
       (R (.returned (.bool false)) w22))))) ∧
      (b43 = false →
      (R (.returned (.bool false)) w21)))) ∧
     (¬ i44 = (0 : Int) →
     (R (.returned (.bool false)) w21))))) ∧
    (b8 = false →
    (R (.returned (.bool false)) w20)))))))))))) ∧
    (∀ g27 : Nat, w0.heap.size ≤ g27 → (∀ w13 : World, Go.Sx.Fr S w0 w13 → Below w12.heap.size w12 w13 → w12.heap.size ≤ g27 → w13.heap[g27]? = some (.cells #[] 23 (0, 0)) → 
    Calls Try.prog 15 #[(.agg #[.slice A23 n24 n25])] w13 fun r w14 => ∃ A28 : Option Addr, ∃ n29 : Nat, ∃ n30 : Nat, r = .returned (.slice A28 n29 n30) ∧ (Go.Sx.Fr S w0 w14 ∧ Go.Sx.Mild [g27, g19, g18, g7, g6] w13 w14) ∧ Go.Sx.Keep w12.heap.size [] w13 w14 ∧ 
    (
    Calls Try.prog 15 #[(.agg #[.slice A9 n10 n11])] w14 fun r w15 => ∃ A31 : Option Addr, ∃ n32 : Nat, ∃ n33 : Nat, r = .returned (.slice A31 n32 n33) ∧ (Go.Sx.Fr S w0 w15 ∧ Go.Sx.Mild [g27, g19, g18, g7, g6] w14 w15) ∧ Go.Sx.Keep w12.heap.size [] w14 w15 ∧ 
    (w15.heap[g27]? = some (.cells #[] 23 (0, 0)) → 
    ∃ w16 : World, ∃ A34 : Option Addr, ∃ n35 : Nat, ∃ n36 : Nat, (Builtin.append_ #[43, 43] 43 #[(.slice (some ⟨g27, 0, none⟩) 0 0), (.slice A31 n32 n33)]).run Try.prog w15 = .ok (.slice A34 n35 n36) w16 ∧ (Go.Sx.Fr S w0 w16 ∧ Go.Sx.Mild [g27, g19, g18, g7, g6] w15 w16) ∧ Go.Sx.Keep w12.heap.size [] w15 w16 ∧ 
    (
    Calls Try.prog 15 #[(.agg #[.slice A12 n13 n14])] w16 fun r w17 => ∃ A37 : Option Addr, ∃ n38 : Nat, ∃ n39 : Nat, r = .returned (.slice A37 n38 n39) ∧ (Go.Sx.Fr S w0 w17 ∧ Go.Sx.Mild [g27, g19, g18, g7, g6] w16 w17) ∧ 
    (
    ∃ w18 : World, ∃ A40 : Option Addr, ∃ n41 : Nat, ∃ n42 : Nat, (Builtin.append_ #[43, 43] 43 #[(.slice A34 n35 n36), (.slice A37 n38 n39)]).run Try.prog w17 = .ok (.slice A40 n41 n42) w18 ∧ (Go.Sx.Fr S w0 w18 ∧ Go.Sx.Mild [g27, g19, g18, g7, g6] w17 w18) ∧ 
    (
    Calls Try.prog 16 #[(.slice A28 n29 n30), (.slice A40 n41 n42)] w18 fun r w19 => ∃ b43 : Bool, r = .returned (.bool b43) ∧ (Go.Sx.Fr S w0 w19 ∧ Go.Sx.Mild [g27, g19, g18, g7, g6] w18 w19) ∧ 
    ((b8 = true →
    (
     Calls Try.prog 12 #[(.agg #[.slice A23 n24 n25])] w19 fun r w20 => ∃ i44 : Int, r = .returned (.int .i64 i44) ∧ (Go.Sx.Fr S w0 w20 ∧ Go.Sx.Mild [g27, g19, g18, g7, g6] w19 w20) ∧ 
     ((i44 = (0 : Int) →
     ((b43 = true →
      (
       Calls Try.prog 14 #[(.agg #[.slice A23 n24 n25]), (.agg #[.slice A9 n10 n11])] w20 fun r w21 => ∃ b45 : Bool, r = .returned (.bool b45) ∧ (Go.Sx.Fr S w0 w21 ∧ Go.Sx.Mild [g27, g19, g18, g7, g6] w20 w21) ∧ 
       ((b45 = false →
       (
        Calls Try.prog 14 #[(.agg #[.slice A9 n10 n11]), (.agg #[.slice A23 n24 n25])] w21 fun r w22 => ∃ b46 : Bool, r = .returned (.bool b46) ∧ (Go.Sx.Fr S w0 w22 ∧ Go.Sx.Mild [g27, g19, g18, g7, g6] w21 w22) ∧ 
        (R (.returned (.bool (!b46))) w22))) ∧
       (b45 = true →
       (R (.returned (.bool false)) w21))))) ∧
      (b43 = false →
      (R (.returned (.bool false)) w20)))) ∧
     (¬ i44 = (0 : Int) →
     (R (.returned (.bool false)) w20))))) ∧
    (b8 = false →
    (R (.returned (.bool false)) w19))))))))))))))))))) ∧
   (∀ g18 : Nat, w0.heap.size ≤ g18 → ∀ g19 : Nat, w0.heap.size ≤ g19 → (∀ w9 : World, Go.Sx.Fr S w0 w9 → Below w8.heap.size w8 w9 → w8.heap.size ≤ g19 → w9.heap[g19]? = some (.cells #[] 29 (0, 0)) → w8.heap.size ≤ g18 → w9.heap[g18]? = some (.cells #[.slice none 0 0] 38 (0, 0)) → 
   ∃ w10 : World, ∃ A20 : Option Addr, ∃ n21 : Nat, ∃ n22 : Nat, (Builtin.append_ #[36, 36] 36 #[(.slice (some ⟨g19, 0, none⟩) 0 0), (.slice A9 n10 n11)]).run Try.prog w9 = .ok (.slice A20 n21 n22) w10 ∧ (Go.Sx.Fr S w0 w10 ∧ Go.Sx.Mild [g19, g18, g7, g6] w9 w10) ∧ Go.Sx.Keep w8.heap.size [] w9 w10 ∧ 
   (
   ∃ w11 : World, ∃ A23 : Option Addr, ∃ n24 : Nat, ∃ n25 : Nat, (Builtin.append_ #[36, 36] 36 #[(.slice A20 n21 n22), (.slice A12 n13 n14)]).run Try.prog w10 = .ok (.slice A23 n24 n25) w11 ∧ (Go.Sx.Fr S w0 w11 ∧ Go.Sx.Mild [g19, g18, g7, g6] w10 w11) ∧ 
   (((6 : Int) < (n24 : Int) →
   (∀ w12 : World, Go.Sx.Fr S w0 w12 → Go.Sx.Fr (fun b => b ∈ [g18]) w11 w12 → 
    (((∀ w13 : World, Go.Sx.Fr S w0 w13 → Below w12.heap.size w12 w13 → 
    Calls Try.prog 15 #[(.agg #[.slice A23 n24 n25])] w13 fun r w14 => ∃ A27 : Option Addr, ∃ n28 : Nat, ∃ n29 : Nat, r = .returned (.slice A27 n28 n29) ∧ (Go.Sx.Fr S w0 w14 ∧ Go.Sx.Mild [g19, g18, g7, g6] w13 w14) ∧ Go.Sx.Keep w12.heap.size [] w13 w14 ∧ 
    ((∀ g30 : Nat, w0.heap.size ≤ g30 → (∀ w15 : World, Go.Sx.Fr S w0 w15 → Below w14.heap.size w14 w15 → w14.heap.size ≤ g30 → w15.heap[g30]? = some (.cells #[] 23 (0, 0)) → 
    Calls Try.prog 15 #[(.agg #[.slice A9 n10 n11])] w15 fun r w16 => ∃ A31 : Option Addr, ∃ n32 : Nat, ∃ n33 : Nat, r = .returned (.slice A31 n32 n33) ∧ (Go.Sx.Fr S w0 w16 ∧ Go.Sx.Mild [g30, g19, g18, g7, g6] w15 w16) ∧ Go.Sx.Keep w12.heap.size [] w15 w16 ∧ 
    (w16.heap[g30]? = some (.cells #[] 23 (0, 0)) → 
    ∃ w17 : World, ∃ A34 : Option Addr, ∃ n35 : Nat, ∃ n36 : Nat, (Builtin.append_ #[43, 43] 43 #[(.slice (some ⟨g30, 0, none⟩) 0 0), (.slice A31 n32 n33)]).run Try.prog w16 = .ok (.slice A34 n35 n36) w17 ∧ (Go.Sx.Fr S w0 w17 ∧ Go.Sx.Mild [g30, g19, g18, g7, g6] w16 w17) ∧ Go.Sx.Keep w12.heap.size [] w16 w17 ∧ 
    (
    Calls Try.prog 15 #[(.agg #[.slice A12 n13 n14])] w17 fun r w18 => ∃ A37 : Option Addr, ∃ n38 : Nat, ∃ n39 : Nat, r = .returned (.slice A37 n38 n39) ∧ (Go.Sx.Fr S w0 w18 ∧ Go.Sx.Mild [g30, g19, g18, g7, g6] w17 w18) ∧ 
    (
    ∃ w19 : World, ∃ A40 : Option Addr, ∃ n41 : Nat, ∃ n42 : Nat, (Builtin.append_ #[43, 43] 43 #[(.slice A34 n35 n36), (.slice A37 n38 n39)]).run Try.prog w18 = .ok (.slice A40 n41 n42) w19 ∧ (Go.Sx.Fr S w0 w19 ∧ Go.Sx.Mild [g30, g19, g18, g7, g6] w18 w19) ∧ 
    (
    Calls Try.prog 16 #[(.slice A27 n28 n29), (.slice A40 n41 n42)] w19 fun r w20 => ∃ b43 : Bool, r = .returned (.bool b43) ∧ (Go.Sx.Fr S w0 w20 ∧ Go.Sx.Mild [g30, g19, g18, g7, g6] w19 w20) ∧ 
    ((b8 = true →
    (
     Calls Try.prog 12 #[(.agg #[.slice A23 n24 n25])] w20 fun r w21 => ∃ i44 : Int, r = .returned (.int .i64 i44) ∧ (Go.Sx.Fr S w0 w21 ∧ Go.Sx.Mild [g30, g19, g18, g7, g6] w20 w21) ∧ 
     ((i44 = (3 : Int) →
     ((b43 = true →
      (
       Calls Try.prog 14 #[(.agg #[.slice A23 n24 n25]), (.agg #[.slice A9 n10 n11])] w21 fun r w22 => ∃ b45 : Bool, r = .returned (.bool b45) ∧ (Go.Sx.Fr S w0 w22 ∧ Go.Sx.Mild [g30, g19, g18, g7, g6] w21 w22) ∧ 
       ((b45 = false →
       (
        Calls Try.prog 14 #[(.agg #[.slice A9 n10 n11]), (.agg #[.slice A23 n24 n25])] w22 fun r w23 => ∃ b46 : Bool, r = .returned (.bool b46) ∧ (Go.Sx.Fr S w0 w23 ∧ Go.Sx.Mild [g30, g19, g18, g7, g6] w22 w23) ∧ 
        (R (.returned (.bool (!b46))) w23))) ∧
       (b45 = true →
       (R (.returned (.bool false)) w22))))) ∧
      (b43 = false →
      (R (.returned (.bool false)) w21)))) ∧
     (¬ i44 = (3 : Int) →
     (R (.returned (.bool false)) w21))))) ∧
    (b8 = false →
    (R (.returned (.bool false)) w20))))))))) ∧
    ((
    Calls Try.prog 15 #[(.agg #[.slice A9 n10 n11])] w14 fun r w15 => ∃ A30 : Option Addr, ∃ n31 : Nat, ∃ n32 : Nat, r = .returned (.slice A30 n31 n32) ∧ (Go.Sx.Fr S w0 w15 ∧ Go.Sx.Mild [g19, g18, g7, g6] w14 w15) ∧ Go.Sx.Keep w12.heap.size [] w14 w15 ∧ 
    ∀ g33 : Nat, w0.heap.size ≤ g33 → (∀ w16 : World, Go.Sx.Fr S w0 w16 → Below w15.heap.size w15 w16 → w15.heap.size ≤ g33 → w16.heap[g33]? = some (.cells #[] 23 (0, 0)) → 
    ∃ w17 : World, ∃ A34 : Option Addr, ∃ n35 : Nat, ∃ n36 : Nat, (Builtin.append_ #[43, 43] 43 #[(.slice (some ⟨g33, 0, none⟩) 0 0), (.slice A30 n31 n32)]).run Try.prog w16 = .ok (.slice A34 n35 n36) w17 ∧ (Go.Sx.Fr S w0 w17 ∧ Go.Sx.Mild [g33, g19, g18, g7, g6] w16 w17) ∧ Go.Sx.Keep w12.heap.size [] w16 w17 ∧ 
    (
    Calls Try.prog 15 #[(.agg #[.slice A12 n13 n14])] w17 fun r w18 => ∃ A37 : Option Addr, ∃ n38 : Nat, ∃ n39 : Nat, r = .returned (.slice A37 n38 n39) ∧ (Go.Sx.Fr S w0 w18 ∧ Go.Sx.Mild [g33, g19, g18, g7, g6] w17 w18) ∧ 
    (
    ∃ w19 : World, ∃ A40 : Option Addr, ∃ n41 : Nat, ∃ n42 : Nat, (Builtin.append_ #[43, 43] 43 #[(.slice A34 n35 n36), (.slice A37 n38 n39)]).run Try.prog w18 = .ok (.slice A40 n41 n42) w19 ∧ (Go.Sx.Fr S w0 w19 ∧ Go.Sx.Mild [g33, g19, g18, g7, g6] w18 w19) ∧ 
    (
    Calls Try.prog 16 #[(.slice A27 n28 n29), (.slice A40 n41 n42)] w19 fun r w20 => ∃ b43 : Bool, r = .returned (.bool b43) ∧ (Go.Sx.Fr S w0 w20 ∧ Go.Sx.Mild [g33, g19, g18, g7, g6] w19 w20) ∧ 
    ((b8 = true →
    (
     Calls Try.prog 12 #[(.agg #[.slice A23 n24 n25])] w20 fun r w21 => ∃ i44 : Int, r = .returned (.int .i64 i44) ∧ (Go.Sx.Fr S w0 w21 ∧ Go.Sx.Mild [g33, g19, g18, g7, g6] w20 w21) ∧ 
     ((i44 = (3 : Int) →
     ((b43 = true →
      (
       Calls Try.prog 14 #[(.agg #[.slice A23 n24 n25]), (.agg #[.slice A9 n10 n11])] w21 fun r w22 => ∃ b45 : Bool, r = .returned (.bool b45) ∧ (Go.Sx.Fr S w0 w22 ∧ Go.Sx.Mild [g33, g19, g18, g7, g6] w21 w22) ∧ 
       ((b45 = false →
       (
        Calls Try.prog 14 #[(.agg #[.slice A9 n10 n11]), (.agg #[.slice A23 n24 n25])] w22 fun r w23 => ∃ b46 : Bool, r = .returned (.bool b46) ∧ (Go.Sx.Fr S w0 w23 ∧ Go.Sx.Mild [g33, g19, g18, g7, g6] w22 w23) ∧ 
        (R (.returned (.bool (!b46))) w23))) ∧
       (b45 = true →
       (R (.returned (.bool false)) w22))))) ∧
      (b43 = false →
      (R (.returned (.bool false)) w21)))) ∧
     (¬ i44 = (3 : Int) →
     (R (.returned (.bool false)) w21))))) ∧
    (b8 = false →
    (R (.returned (.bool false)) w20)))))))))))) ∧
    (∀ g27 : Nat, w0.heap.size ≤ g27 → (∀ w13 : World, Go.Sx.Fr S w0 w13 → Below w12.heap.size w12 w13 → w12.heap.size ≤ g27 → w13.heap[g27]? = some (.cells #[] 23 (0, 0)) → 
    Calls Try.prog 15 #[(.agg #[.slice A23 n24 n25])] w13 fun r w14 => ∃ A28 : Option Addr, ∃ n29 : Nat, ∃ n30 : Nat, r = .returned (.slice A28 n29 n30) ∧ (Go.Sx.Fr S w0 w14 ∧ Go.Sx.Mild [g27, g19, g18, g7, g6] w13 w14) ∧ Go.Sx.Keep w12.heap.size [] w13 w14 ∧ 
    (
    Calls Try.prog 15 #[(.agg #[.slice A9 n10 n11])] w14 fun r w15 => ∃ A31 : Option Addr, ∃ n32 : Nat, ∃ n33 : Nat, r = .returned (.slice A31 n32 n33) ∧ (Go.Sx.Fr S w0 w15 ∧ Go.Sx.Mild [g27, g19, g18, g7, g6] w14 w15) ∧ Go.Sx.Keep w12.heap.size [] w14 w15 ∧ 
    (w15.heap[g27]? = some (.cells #[] 23 (0, 0)) → 
    ∃ w16 : World, ∃ A34 : Option Addr, ∃ n35 : Nat, ∃ n36 : Nat, (Builtin.append_ #[43, 43] 43 #[(.slice (some ⟨g27, 0, none⟩) 0 0), (.slice A31 n32 n33)]).run Try.prog w15 = .ok (.slice A34 n35 n36) w16 ∧ (Go.Sx.Fr S w0 w16 ∧ Go.Sx.Mild [g27, g19, g18, g7, g6] w15 w16) ∧ Go.Sx.Keep w12.heap.size [] w15 w16 ∧ 
    (
    Calls Try.prog 15 #[(.agg #[.slice A12 n13 n14])] w16 fun r w17 => ∃ A37 : Option Addr, ∃ n38 : Nat, ∃ n39 : Nat, r = .returned (.slice A37 n38 n39) ∧ (Go.Sx.Fr S w0 w17 ∧ Go.Sx.Mild [g27, g19, g18, g7, g6] w16 w17) ∧ 
    (
    ∃ w18 : World, ∃ A40 : Option Addr, ∃ n41 : Nat, ∃ n42 : Nat, (Builtin.append_ #[43, 43] 43 #[(.slice A34 n35 n36), (.slice A37 n38 n39)]).run Try.prog w17 = .ok (.slice A40 n41 n42) w18 ∧ (Go.Sx.Fr S w0 w18 ∧ Go.Sx.Mild [g27, g19, g18, g7, g6] w17 w18) ∧ 
    (
    Calls Try.prog 16 #[(.slice A28 n29 n30), (.slice A40 n41 n42)] w18 fun r w19 => ∃ b43 : Bool, r = .returned (.bool b43) ∧ (Go.Sx.Fr S w0 w19 ∧ Go.Sx.Mild [g27, g19, g18, g7, g6] w18 w19) ∧ 
    ((b8 = true →
    (
     Calls Try.prog 12 #[(.agg #[.slice A23 n24 n25])] w19 fun r w20 => ∃ i44 : Int, r = .returned (.int .i64 i44) ∧ (Go.Sx.Fr S w0 w20 ∧ Go.Sx.Mild [g27, g19, g18, g7, g6] w19 w20) ∧ 
     ((i44 = (3 : Int) →
     ((b43 = true →
      (
       Calls Try.prog 14 #[(.agg #[.slice A23 n24 n25]), (.agg #[.slice A9 n10 n11])] w20 fun r w21 => ∃ b45 : Bool, r = .returned (.bool b45) ∧ (Go.Sx.Fr S w0 w21 ∧ Go.Sx.Mild [g27, g19, g18, g7, g6] w20 w21) ∧ 
       ((b45 = false →
       (
        Calls Try.prog 14 #[(.agg #[.slice A9 n10 n11]), (.agg #[.slice A23 n24 n25])] w21 fun r w22 => ∃ b46 : Bool, r = .returned (.bool b46) ∧ (Go.Sx.Fr S w0 w22 ∧ Go.Sx.Mild [g27, g19, g18, g7, g6] w21 w22) ∧ 
        (R (.returned (.bool (!b46))) w22))) ∧
       (b45 = true →
       (R (.returned (.bool false)) w21))))) ∧
      (b43 = false →
      (R (.returned (.bool false)) w20)))) ∧
     (¬ i44 = (3 : Int) →
     (R (.returned (.bool false)) w20))))) ∧
    (b8 = false →
    (R (.returned (.bool false)) w19))))))))))))) ∧
   ((n24 : Int) ≤ (6 : Int) →
   (∀ w12 : World, Go.Sx.Fr S w0 w12 → Go.Sx.Fr (fun b => b ∈ [g18]) w11 w12 → 
    (((∀ w13 : World, Go.Sx.Fr S w0 w13 → Below w12.heap.size w12 w13 → 
    Calls Try.prog 15 #[(.agg #[.slice A23 n24 n25])] w13 fun r w14 => ∃ A27 : Option Addr, ∃ n28 : Nat, ∃ n29 : Nat, r = .returned (.slice A27 n28 n29) ∧ (Go.Sx.Fr S w0 w14 ∧ Go.Sx.Mild [g19, g18, g7, g6] w13 w14) ∧ Go.Sx.Keep w12.heap.size [] w13 w14 ∧ 
    ((∀ g30 : Nat, w0.heap.size ≤ g30 → (∀ w15 : World, Go.Sx.Fr S w0 w15 → Below w14.heap.size w14 w15 → w14.heap.size ≤ g30 → w15.heap[g30]? = some (.cells #[] 23 (0, 0)) → 
    Calls Try.prog 15 #[(.agg #[.slice A9 n10 n11])] w15 fun r w16 => ∃ A31 : Option Addr, ∃ n32 : Nat, ∃ n33 : Nat, r = .returned (.slice A31 n32 n33) ∧ (Go.Sx.Fr S w0 w16 ∧ Go.Sx.Mild [g30, g19, g18, g7, g6] w15 w16) ∧ Go.Sx.Keep w12.heap.size [] w15 w16 ∧ 
    (w16.heap[g30]? = some (.cells #[] 23 (0, 0)) → 
    ∃ w17 : World, ∃ A34 : Option Addr, ∃ n35 : Nat, ∃ n36 : Nat, (Builtin.append_ #[43, 43] 43 #[(.slice (some ⟨g30, 0, none⟩) 0 0), (.slice A31 n32 n33)]).run Try.prog w16 = .ok (.slice A34 n35 n36) w17 ∧ (Go.Sx.Fr S w0 w17 ∧ Go.Sx.Mild [g30, g19, g18, g7, g6] w16 w17) ∧ Go.Sx.Keep w12.heap.size [] w16 w17 ∧ 
    (
    Calls Try.prog 15 #[(.agg #[.slice A12 n13 n14])] w17 fun r w18 => ∃ A37 : Option Addr, ∃ n38 : Nat, ∃ n39 : Nat, r = .returned (.slice A37 n38 n39) ∧ (Go.Sx.Fr S w0 w18 ∧ Go.Sx.Mild [g30, g19, g18, g7, g6] w17 w18) ∧ 
    (
    ∃ w19 : World, ∃ A40 : Option Addr, ∃ n41 : Nat, ∃ n42 : Nat, (Builtin.append_ #[43, 43] 43 #[(.slice A34 n35 n36), (.slice A37 n38 n39)]).run Try.prog w18 = .ok (.slice A40 n41 n42) w19 ∧ (Go.Sx.Fr S w0 w19 ∧ Go.Sx.Mild [g30, g19, g18, g7, g6] w18 w19) ∧ 
    (
    Calls Try.prog 16 #[(.slice A27 n28 n29), (.slice A40 n41 n42)] w19 fun r w20 => ∃ b43 : Bool, r = .returned (.bool b43) ∧ (Go.Sx.Fr S w0 w20 ∧ Go.Sx.Mild [g30, g19, g18, g7, g6] w19 w20) ∧ 
    ((b8 = true →
    (
     Calls Try.prog 12 #[(.agg #[.slice A23 n24 n25])] w20 fun r w21 => ∃ i44 : Int, r = .returned (.int .i64 i44) ∧ (Go.Sx.Fr S w0 w21 ∧ Go.Sx.Mild [g30, g19, g18, g7, g6] w20 w21) ∧ 
     ((i44 = (0 : Int) →
     ((b43 = true →
      (
       Calls Try.prog 14 #[(.agg #[.slice A23 n24 n25]), (.agg #[.slice A9 n10 n11])] w21 fun r w22 => ∃ b45 : Bool, r = .returned (.bool b45) ∧ (Go.Sx.Fr S w0 w22 ∧ Go.Sx.Mild [g30, g19, g18, g7, g6] w21 w22) ∧ 
       ((b45 = false →
       (
        Calls Try.prog 14 #[(.agg #[.slice A9 n10 n11]), (.agg #[.slice A23 n24 n25])] w22 fun r w23 => ∃ b46 : Bool, r = .returned (.bool b46) ∧ (Go.Sx.Fr S w0 w23 ∧ Go.Sx.Mild [g30, g19, g18, g7, g6] w22 w23) ∧ 
        (R (.returned (.bool (!b46))) w23))) ∧
       (b45 = true →
       (R (.returned (.bool false)) w22))))) ∧
      (b43 = false →
      (R (.returned (.bool false)) w21)))) ∧
     (¬ i44 = (0 : Int) →
     (R (.returned (.bool false)) w21))))) ∧
    (b8 = false →
    (R (.returned (.bool false)) w20))))))))) ∧
    ((
    Calls Try.prog 15 #[(.agg #[.slice A9 n10 n11])] w14 fun r w15 => ∃ A30 : Option Addr, ∃ n31 : Nat, ∃ n32 : Nat, r = .returned (.slice A30 n31 n32) ∧ (Go.Sx.Fr S w0 w15 ∧ Go.Sx.Mild [g19, g18, g7, g6] w14 w15) ∧ Go.Sx.Keep w12.heap.size [] w14 w15 ∧ 
    ∀ g33 : Nat, w0.heap.size ≤ g33 → (∀ w16 : World, Go.Sx.Fr S w0 w16 → Below w15.heap.size w15 w16 → w15.heap.size ≤ g33 → w16.heap[g33]? = some (.cells #[] 23 (0, 0)) → 
    ∃ w17 : World, ∃ A34 : Option Addr, ∃ n35 : Nat, ∃ n36 : Nat, (Builtin.append_ #[43, 43] 43 #[(.slice (some ⟨g33, 0, none⟩) 0 0), (.slice A30 n31 n32)]).run Try.prog w16 = .ok (.slice A34 n35 n36) w17 ∧ (Go.Sx.Fr S w0 w17 ∧ Go.Sx.Mild [g33, g19, g18, g7, g6] w16 w17) ∧ Go.Sx.Keep w12.heap.size [] w16 w17 ∧ 
    (
    Calls Try.prog 15 #[(.agg #[.slice A12 n13 n14])] w17 fun r w18 => ∃ A37 : Option Addr, ∃ n38 : Nat, ∃ n39 : Nat, r = .returned (.slice A37 n38 n39) ∧ (Go.Sx.Fr S w0 w18 ∧ Go.Sx.Mild [g33, g19, g18, g7, g6] w17 w18) ∧ 
    (
    ∃ w19 : World, ∃ A40 : Option Addr, ∃ n41 : Nat, ∃ n42 : Nat, (Builtin.append_ #[43, 43] 43 #[(.slice A34 n35 n36), (.slice A37 n38 n39)]).run Try.prog w18 = .ok (.slice A40 n41 n42) w19 ∧ (Go.Sx.Fr S w0 w19 ∧ Go.Sx.Mild [g33, g19, g18, g7, g6] w18 w19) ∧ 
    (
    Calls Try.prog 16 #[(.slice A27 n28 n29), (.slice A40 n41 n42)] w19 fun r w20 => ∃ b43 : Bool, r = .returned (.bool b43) ∧ (Go.Sx.Fr S w0 w20 ∧ Go.Sx.Mild [g33, g19, g18, g7, g6] w19 w20) ∧ 
    ((b8 = true →
    (
     Calls Try.prog 12 #[(.agg #[.slice A23 n24 n25])] w20 fun r w21 => ∃ i44 : Int, r = .returned (.int .i64 i44) ∧ (Go.Sx.Fr S w0 w21 ∧ Go.Sx.Mild [g33, g19, g18, g7, g6] w20 w21) ∧ 
     ((i44 = (0 : Int) →
     ((b43 = true →
      (
       Calls Try.prog 14 #[(.agg #[.slice A23 n24 n25]), (.agg #[.slice A9 n10 n11])] w21 fun r w22 => ∃ b45 : Bool, r = .returned (.bool b45) ∧ (Go.Sx.Fr S w0 w22 ∧ Go.Sx.Mild [g33, g19, g18, g7, g6] w21 w22) ∧ 
       ((b45 = false →
       (
        Calls Try.prog 14 #[(.agg #[.slice A9 n10 n11]), (.agg #[.slice A23 n24 n25])] w22 fun r w23 => ∃ b46 : Bool, r = .returned (.bool b46) ∧ (Go.Sx.Fr S w0 w23 ∧ Go.Sx.Mild [g33, g19, g18, g7, g6] w22 w23) ∧ 
        (R (.returned (.bool (!b46))) w23))) ∧
       (b45 = true →
       (R (.returned (.bool false)) w22))))) ∧
      (b43 = false →
      (R (.returned (.bool false)) w21)))) ∧
     (¬ i44 = (0 : Int) →
     (R (.returned (.bool false)) w21))))) ∧
    (b8 = false →
    (R (.returned (.bool false)) w20)))))))))))) ∧
    (∀ g27 : Nat, w0.heap.size ≤ g27 → (∀ w13 : World, Go.Sx.Fr S w0 w13 → Below w12.heap.size w12 w13 → w12.heap.size ≤ g27 → w13.heap[g27]? = some (.cells #[] 23 (0, 0)) → 
    Calls Try.prog 15 #[(.agg #[.slice A23 n24 n25])] w13 fun r w14 => ∃ A28 : Option Addr, ∃ n29 : Nat, ∃ n30 : Nat, r = .returned (.slice A28 n29 n30) ∧ (Go.Sx.Fr S w0 w14 ∧ Go.Sx.Mild [g27, g19, g18, g7, g6] w13 w14) ∧ Go.Sx.Keep w12.heap.size [] w13 w14 ∧ 
    (
    Calls Try.prog 15 #[(.agg #[.slice A9 n10 n11])] w14 fun r w15 => ∃ A31 : Option Addr, ∃ n32 : Nat, ∃ n33 : Nat, r = .returned (.slice A31 n32 n33) ∧ (Go.Sx.Fr S w0 w15 ∧ Go.Sx.Mild [g27, g19, g18, g7, g6] w14 w15) ∧ Go.Sx.Keep w12.heap.size [] w14 w15 ∧ 
    (w15.heap[g27]? = some (.cells #[] 23 (0, 0)) → 
    ∃ w16 : World, ∃ A34 : Option Addr, ∃ n35 : Nat, ∃ n36 : Nat, (Builtin.append_ #[43, 43] 43 #[(.slice (some ⟨g27, 0, none⟩) 0 0), (.slice A31 n32 n33)]).run Try.prog w15 = .ok (.slice A34 n35 n36) w16 ∧ (Go.Sx.Fr S w0 w16 ∧ Go.Sx.Mild [g27, g19, g18, g7, g6] w15 w16) ∧ Go.Sx.Keep w12.heap.size [] w15 w16 ∧ 
    (
    Calls Try.prog 15 #[(.agg #[.slice A12 n13 n14])] w16 fun r w17 => ∃ A37 : Option Addr, ∃ n38 : Nat, ∃ n39 : Nat, r = .returned (.slice A37 n38 n39) ∧ (Go.Sx.Fr S w0 w17 ∧ Go.Sx.Mild [g27, g19, g18, g7, g6] w16 w17) ∧ 
    (
    ∃ w18 : World, ∃ A40 : Option Addr, ∃ n41 : Nat, ∃ n42 : Nat, (Builtin.append_ #[43, 43] 43 #[(.slice A34 n35 n36), (.slice A37 n38 n39)]).run Try.prog w17 = .ok (.slice A40 n41 n42) w18 ∧ (Go.Sx.Fr S w0 w18 ∧ Go.Sx.Mild [g27, g19, g18, g7, g6] w17 w18) ∧ 
    (
    Calls Try.prog 16 #[(.slice A28 n29 n30), (.slice A40 n41 n42)] w18 fun r w19 => ∃ b43 : Bool, r = .returned (.bool b43) ∧ (Go.Sx.Fr S w0 w19 ∧ Go.Sx.Mild [g27, g19, g18, g7, g6] w18 w19) ∧ 
    ((b8 = true →
    (
     Calls Try.prog 12 #[(.agg #[.slice A23 n24 n25])] w19 fun r w20 => ∃ i44 : Int, r = .returned (.int .i64 i44) ∧ (Go.Sx.Fr S w0 w20 ∧ Go.Sx.Mild [g27, g19, g18, g7, g6] w19 w20) ∧ 
     ((i44 = (0 : Int) →
     ((b43 = true →
      (
       Calls Try.prog 14 #[(.agg #[.slice A23 n24 n25]), (.agg #[.slice A9 n10 n11])] w20 fun r w21 => ∃ b45 : Bool, r = .returned (.bool b45) ∧ (Go.Sx.Fr S w0 w21 ∧ Go.Sx.Mild [g27, g19, g18, g7, g6] w20 w21) ∧ 
       ((b45 = false →
       (
        Calls Try.prog 14 #[(.agg #[.slice A9 n10 n11]), (.agg #[.slice A23 n24 n25])] w21 fun r w22 => ∃ b46 : Bool, r = .returned (.bool b46) ∧ (Go.Sx.Fr S w0 w22 ∧ Go.Sx.Mild [g27, g19, g18, g7, g6] w21 w22) ∧ 
        (R (.returned (.bool (!b46))) w22))) ∧
       (b45 = true →
       (R (.returned (.bool false)) w21))))) ∧
      (b43 = false →
      (R (.returned (.bool false)) w20)))) ∧
     (¬ i44 = (0 : Int) →
     (R (.returned (.bool false)) w20))))) ∧
    (b8 = false →
    (R (.returned (.bool false)) w19))))))))))))))))))))))))))))) :
    Calls Try.prog 8 #[(.agg #[.slice A0 n1 n2]), (.agg #[.slice A3 n4 n5])] w0 R :=
  Go.Sx.fn_sound0 (P := Try.prog) (S := S) (w0 := w0) (R := R) (ws := []) (an := [⟨999999, [], [], 0⟩]) (f := 8) (n := 6) (xs := [.agg [.slice (.var 0) (.var 1) (.var 2)], .agg [.slice (.var 3) (.var 4) (.var 5)]]) (e := [.a A0, .n n1, .n n2, .a A3, .n n4, .n n5]) rfl (by kernel_rfl) (Eq.mp (by kernel_rfl) h)


end Go.Proofs.Ytlcjlcfogcbddaa
