/- The law OpJoins. -/
import Derived.Test.YtlcjlcfogcbddaaOpQ
import Derived.Test.YtlcjlcfogcbddaaLaw09c
set_option linter.unusedSimpArgs false
set_option linter.unusedVariables false
namespace Go.Proofs.Ytlcjlcfogcbddaa
open Go Go.RowKit Go.Proofs Go.Trc Go.Sx

theorem names_app (xs ys : List OpV) : namesV (xs ++ ys) = namesV xs ++ namesV ys := by unfold namesV; rw [List.flatMap_append]
set_option maxHeartbeats 2000000 in
theorem joins_end3 {w w18 : World} {A9 A22 A27 A34 A37 : Option Addr} {n10 n11 n23 n24 n28 n29 n35 n36 n38 n39 g30 g25 g18 g7 g6 : Nat} {xs zs : List OpV} {na nb nab : List IDV}
    (r34 : Rw none w w.heap.size 23 w18 (.slice A34 n35 n36) na [g30, g25, g18, g7, g6]) (s37 : Sl w18 (fun _ => True) (.slice A37 n38 n39) nb) (s27 : Sl w18 (fun b => some b ≠ tail (.slice A34 n35 n36)) (.slice A27 n28 n29) nab)
    (s22 : Sl w18 (fun b => some b ≠ tail (.slice A34 n35 n36)) (.slice A22 n23 n24) zs) (s9 : Sl w18 (fun b => b < w.heap.size) (.slice A9 n10 n11) xs) (hn : nab = na ++ nb) (hmay : mayEditV zs = 3) (hne : ¬ zs = xs) (hl1 : na.length ≤ 100) (hl2 : nb.length ≤ 100) :
∃ w19 : World, ∃ A40 : Option Addr, ∃ n41 : Nat, ∃ n42 : Nat, (Builtin.append_ #[43, 43] 43 #[(.slice A34 n35 n36), (.slice A37 n38 n39)]).run Try.prog w18 = .ok (.slice A40 n41 n42) w19 ∧ (Go.Sx.Fr (fun _ => False) w w19 ∧ Go.Sx.Mild [g30, g25, g18, g7, g6] w18 w19) ∧ 
    (
    Calls Try.prog 16 #[(.slice A27 n28 n29), (.slice A40 n41 n42)] w19 fun r w20 => ∃ b43 : Bool, r = .returned (.bool b43) ∧ (Go.Sx.Fr (fun _ => False) w w20 ∧ Go.Sx.Mild [g30, g25, g18, g7, g6] w19 w20) ∧ 
    ((true = true →
    (
     Calls Try.prog 12 #[(.agg #[.slice A22 n23 n24])] w20 fun r w21 => ∃ i44 : Int, r = .returned (.int .i64 i44) ∧ (Go.Sx.Fr (fun _ => False) w w21 ∧ Go.Sx.Mild [g30, g25, g18, g7, g6] w20 w21) ∧ 
     ((i44 = (3 : Int) →
     ((b43 = true →
      (
       Calls Try.prog 14 #[(.agg #[.slice A22 n23 n24]), (.agg #[.slice A9 n10 n11])] w21 fun r w22 => ∃ b45 : Bool, r = .returned (.bool b45) ∧ (Go.Sx.Fr (fun _ => False) w w22 ∧ Go.Sx.Mild [g30, g25, g18, g7, g6] w21 w22) ∧ 
       ((b45 = false →
       (
        Calls Try.prog 14 #[(.agg #[.slice A9 n10 n11]), (.agg #[.slice A22 n23 n24])] w22 fun r w23 => ∃ b46 : Bool, r = .returned (.bool b46) ∧ (Go.Sx.Fr (fun _ => False) w w23 ∧ Go.Sx.Mild [g30, g25, g18, g7, g6] w22 w23) ∧ 
        ((Ret (.bool true) w) (.returned (.bool (!b46))) w23))) ∧
       (b45 = true →
       ((Ret (.bool true) w) (.returned (.bool false)) w22))))) ∧
      (b43 = false →
      ((Ret (.bool true) w) (.returned (.bool false)) w21)))) ∧
     (¬ i44 = (3 : Int) →
     ((Ret (.bool true) w) (.returned (.bool false)) w21))))) ∧
    (true = false →
    ((Ret (.bool true) w) (.returned (.bool false)) w20))))
  := by
  have h1 := r34.sl.len_eq
  have h2 := s37.len_eq
  obtain ⟨w19, A40, n41, n42, hr, m, r, gr, -, -⟩ := r34.append2 43 43 (.agg #[.int .i64 0, .int .i64 0]) 16 Try.underlying43 (by kernel_rfl) rfl s37.arg (by omega) (by omega)
  have f19 := fr_none m.1
  refine ⟨w19, A40, n41, n42, hr, ⟨f19, m.2⟩, ?_⟩
  have t27 := s27.tailed gr fun b hb => hb
  have t22 := s22.tailed gr fun b hb => hb
  refine (ids_c t27 r.sl).mono ?_
  rintro e w20 ⟨rfl, b20⟩
  have f20 := f19.step b20
  refine ⟨_, rfl, ok_ret b20 f19, fun _ => ?_, fun h => by cases h⟩
  refine (mayEdit_c w20 _ A22 n23 n24 _ (t22.below b20)).mono ?_
  rintro e w21 ⟨rfl, b21⟩
  have f21 := f20.step b21
  refine ⟨_, rfl, ok_ret b21 f20, fun _ => ⟨fun _ => ?_, fun h => by simp [hn] at h⟩, fun h => absurd hmay h⟩
  have u9 := s9.same (fr_none r34.fr) f21
  refine (same_c ((t22.below b20).below b21) u9).mono ?_
  rintro e w22 ⟨rfl, b22⟩
  have f22 := f21.step b22
  refine ⟨_, rfl, ok_ret b22 f21, fun _ => ?_, fun h => absurd (of_decide_eq_true h) hne⟩
  refine (same_c (u9.below b22) (((t22.below b20).below b21).below b22)).mono ?_
  rintro e w23 ⟨rfl, b23⟩
  exact ⟨_, rfl, ok_ret b23 f22, ret_leaf (f22.step b23) (by rw [decide_eq_false (fun h => hne h.symm)]; rfl)⟩
set_option maxHeartbeats 2000000 in
theorem joins_end0 {w w18 : World} {A9 A22 A27 A34 A37 : Option Addr} {n10 n11 n23 n24 n28 n29 n35 n36 n38 n39 g30 g25 g18 g7 g6 : Nat} {xs zs : List OpV} {na nb nab : List IDV}
    (r34 : Rw none w w.heap.size 23 w18 (.slice A34 n35 n36) na [g30, g25, g18, g7, g6]) (s37 : Sl w18 (fun _ => True) (.slice A37 n38 n39) nb) (s27 : Sl w18 (fun b => some b ≠ tail (.slice A34 n35 n36)) (.slice A27 n28 n29) nab)
    (s22 : Sl w18 (fun b => some b ≠ tail (.slice A34 n35 n36)) (.slice A22 n23 n24) zs) (s9 : Sl w18 (fun b => b < w.heap.size) (.slice A9 n10 n11) xs) (hn : nab = na ++ nb) (hmay : mayEditV zs = 0) (hne : ¬ zs = xs) (hl1 : na.length ≤ 100) (hl2 : nb.length ≤ 100) :
∃ w19 : World, ∃ A40 : Option Addr, ∃ n41 : Nat, ∃ n42 : Nat, (Builtin.append_ #[43, 43] 43 #[(.slice A34 n35 n36), (.slice A37 n38 n39)]).run Try.prog w18 = .ok (.slice A40 n41 n42) w19 ∧ (Go.Sx.Fr (fun _ => False) w w19 ∧ Go.Sx.Mild [g30, g25, g18, g7, g6] w18 w19) ∧ 
    (
    Calls Try.prog 16 #[(.slice A27 n28 n29), (.slice A40 n41 n42)] w19 fun r w20 => ∃ b43 : Bool, r = .returned (.bool b43) ∧ (Go.Sx.Fr (fun _ => False) w w20 ∧ Go.Sx.Mild [g30, g25, g18, g7, g6] w19 w20) ∧ 
    ((true = true →
    (
     Calls Try.prog 12 #[(.agg #[.slice A22 n23 n24])] w20 fun r w21 => ∃ i44 : Int, r = .returned (.int .i64 i44) ∧ (Go.Sx.Fr (fun _ => False) w w21 ∧ Go.Sx.Mild [g30, g25, g18, g7, g6] w20 w21) ∧ 
     ((i44 = (0 : Int) →
     ((b43 = true →
      (
       Calls Try.prog 14 #[(.agg #[.slice A22 n23 n24]), (.agg #[.slice A9 n10 n11])] w21 fun r w22 => ∃ b45 : Bool, r = .returned (.bool b45) ∧ (Go.Sx.Fr (fun _ => False) w w22 ∧ Go.Sx.Mild [g30, g25, g18, g7, g6] w21 w22) ∧ 
       ((b45 = false →
       (
        Calls Try.prog 14 #[(.agg #[.slice A9 n10 n11]), (.agg #[.slice A22 n23 n24])] w22 fun r w23 => ∃ b46 : Bool, r = .returned (.bool b46) ∧ (Go.Sx.Fr (fun _ => False) w w23 ∧ Go.Sx.Mild [g30, g25, g18, g7, g6] w22 w23) ∧ 
        ((Ret (.bool true) w) (.returned (.bool (!b46))) w23))) ∧
       (b45 = true →
       ((Ret (.bool true) w) (.returned (.bool false)) w22))))) ∧
      (b43 = false →
      ((Ret (.bool true) w) (.returned (.bool false)) w21)))) ∧
     (¬ i44 = (0 : Int) →
     ((Ret (.bool true) w) (.returned (.bool false)) w21))))) ∧
    (true = false →
    ((Ret (.bool true) w) (.returned (.bool false)) w20))))
  := by
  have h1 := r34.sl.len_eq
  have h2 := s37.len_eq
  obtain ⟨w19, A40, n41, n42, hr, m, r, gr, -, -⟩ := r34.append2 43 43 (.agg #[.int .i64 0, .int .i64 0]) 16 Try.underlying43 (by kernel_rfl) rfl s37.arg (by omega) (by omega)
  have f19 := fr_none m.1
  refine ⟨w19, A40, n41, n42, hr, ⟨f19, m.2⟩, ?_⟩
  have t27 := s27.tailed gr fun b hb => hb
  have t22 := s22.tailed gr fun b hb => hb
  refine (ids_c t27 r.sl).mono ?_
  rintro e w20 ⟨rfl, b20⟩
  have f20 := f19.step b20
  refine ⟨_, rfl, ok_ret b20 f19, fun _ => ?_, fun h => by cases h⟩
  refine (mayEdit_c w20 _ A22 n23 n24 _ (t22.below b20)).mono ?_
  rintro e w21 ⟨rfl, b21⟩
  have f21 := f20.step b21
  refine ⟨_, rfl, ok_ret b21 f20, fun _ => ⟨fun _ => ?_, fun h => by simp [hn] at h⟩, fun h => absurd hmay h⟩
  have u9 := s9.same (fr_none r34.fr) f21
  refine (same_c ((t22.below b20).below b21) u9).mono ?_
  rintro e w22 ⟨rfl, b22⟩
  have f22 := f21.step b22
  refine ⟨_, rfl, ok_ret b22 f21, fun _ => ?_, fun h => absurd (of_decide_eq_true h) hne⟩
  refine (same_c (u9.below b22) (((t22.below b20).below b21).below b22)).mono ?_
  rintro e w23 ⟨rfl, b23⟩
  exact ⟨_, rfl, ok_ret b23 f22, ret_leaf (f22.step b23) (by rw [decide_eq_false (fun h => hne h.symm)]; rfl)⟩

theorem tail_new {w' : World} {v : Value} {k : Nat} (h : ∀ k, tail v = some k → tail (Value.slice (some ⟨k, 0, none⟩) 0 0) = some k ∨ k = w'.heap.size) : True := trivial
theorem ne_tail {w' : World} {v u : Value} (h : ∀ k, tail v = some k → tail u = some k ∨ k = w'.heap.size) (hu : tail u = none) {b : Nat} (hb : b < w'.heap.size) : some b ≠ tail v := by
  intro he
  rcases h b he.symm with h | h
  · rw [hu] at h; cases h
  · omega
set_option maxHeartbeats 4000000 in
theorem joins_mid3 {w w12 : World} {A9 A12 A22 : Option Addr} {n10 n11 n13 n14 n23 n24 g25 g18 g7 g6 : Nat} {xs ys zs : List OpV} (f12 : Fr (fun _ => False) w w12) (s9 : Sl w12 (fun b => b < w.heap.size) (.slice A9 n10 n11) xs) (s12 : Sl w12 (fun b => b < w.heap.size) (.slice A12 n13 n14) ys)
    (s22 : Sl w12 (fun b => b < w12.heap.size) (.slice A22 n23 n24) zs) (hz : zs = xs ++ ys) (hnames : ∀ g ∈ [g25, g18, g7, g6], g < w12.heap.size) (hmay : mayEditV zs = 3) (hne : ¬ zs = xs) (hl : n10 ≤ 10) (hl' : n13 ≤ 10) (hl2 : n23 ≤ 20) :
(((∀ w13 : World, Go.Sx.Fr (fun _ => False) w w13 → Below w12.heap.size w12 w13 → 
    Calls Try.prog 15 #[(.agg #[.slice A22 n23 n24])] w13 fun r w14 => ∃ A27 : Option Addr, ∃ n28 : Nat, ∃ n29 : Nat, r = .returned (.slice A27 n28 n29) ∧ (Go.Sx.Fr (fun _ => False) w w14 ∧ Go.Sx.Mild [g25, g18, g7, g6] w13 w14) ∧ Go.Sx.Keep w12.heap.size [] w13 w14 ∧ 
    ((∀ g30 : Nat, w.heap.size ≤ g30 → (∀ w15 : World, Go.Sx.Fr (fun _ => False) w w15 → Below w14.heap.size w14 w15 → w14.heap.size ≤ g30 → w15.heap[g30]? = some (.cells #[] 23 (0, 0)) → 
    Calls Try.prog 15 #[(.agg #[.slice A9 n10 n11])] w15 fun r w16 => ∃ A31 : Option Addr, ∃ n32 : Nat, ∃ n33 : Nat, r = .returned (.slice A31 n32 n33) ∧ (Go.Sx.Fr (fun _ => False) w w16 ∧ Go.Sx.Mild [g30, g25, g18, g7, g6] w15 w16) ∧ Go.Sx.Keep w12.heap.size [] w15 w16 ∧ 
    (w16.heap[g30]? = some (.cells #[] 23 (0, 0)) → 
    ∃ w17 : World, ∃ A34 : Option Addr, ∃ n35 : Nat, ∃ n36 : Nat, (Builtin.append_ #[43, 43] 43 #[(.slice (some ⟨g30, 0, none⟩) 0 0), (.slice A31 n32 n33)]).run Try.prog w16 = .ok (.slice A34 n35 n36) w17 ∧ (Go.Sx.Fr (fun _ => False) w w17 ∧ Go.Sx.Mild [g30, g25, g18, g7, g6] w16 w17) ∧ Go.Sx.Keep w12.heap.size [] w16 w17 ∧ 
    (
    Calls Try.prog 15 #[(.agg #[.slice A12 n13 n14])] w17 fun r w18 => ∃ A37 : Option Addr, ∃ n38 : Nat, ∃ n39 : Nat, r = .returned (.slice A37 n38 n39) ∧ (Go.Sx.Fr (fun _ => False) w w18 ∧ Go.Sx.Mild [g30, g25, g18, g7, g6] w17 w18) ∧ 
    (
    ∃ w19 : World, ∃ A40 : Option Addr, ∃ n41 : Nat, ∃ n42 : Nat, (Builtin.append_ #[43, 43] 43 #[(.slice A34 n35 n36), (.slice A37 n38 n39)]).run Try.prog w18 = .ok (.slice A40 n41 n42) w19 ∧ (Go.Sx.Fr (fun _ => False) w w19 ∧ Go.Sx.Mild [g30, g25, g18, g7, g6] w18 w19) ∧ 
    (
    Calls Try.prog 16 #[(.slice A27 n28 n29), (.slice A40 n41 n42)] w19 fun r w20 => ∃ b43 : Bool, r = .returned (.bool b43) ∧ (Go.Sx.Fr (fun _ => False) w w20 ∧ Go.Sx.Mild [g30, g25, g18, g7, g6] w19 w20) ∧ 
    ((true = true →
    (
     Calls Try.prog 12 #[(.agg #[.slice A22 n23 n24])] w20 fun r w21 => ∃ i44 : Int, r = .returned (.int .i64 i44) ∧ (Go.Sx.Fr (fun _ => False) w w21 ∧ Go.Sx.Mild [g30, g25, g18, g7, g6] w20 w21) ∧ 
     ((i44 = (3 : Int) →
     ((b43 = true →
      (
       Calls Try.prog 14 #[(.agg #[.slice A22 n23 n24]), (.agg #[.slice A9 n10 n11])] w21 fun r w22 => ∃ b45 : Bool, r = .returned (.bool b45) ∧ (Go.Sx.Fr (fun _ => False) w w22 ∧ Go.Sx.Mild [g30, g25, g18, g7, g6] w21 w22) ∧ 
       ((b45 = false →
       (
        Calls Try.prog 14 #[(.agg #[.slice A9 n10 n11]), (.agg #[.slice A22 n23 n24])] w22 fun r w23 => ∃ b46 : Bool, r = .returned (.bool b46) ∧ (Go.Sx.Fr (fun _ => False) w w23 ∧ Go.Sx.Mild [g30, g25, g18, g7, g6] w22 w23) ∧ 
        ((Ret (.bool true) w) (.returned (.bool (!b46))) w23))) ∧
       (b45 = true →
       ((Ret (.bool true) w) (.returned (.bool false)) w22))))) ∧
      (b43 = false →
      ((Ret (.bool true) w) (.returned (.bool false)) w21)))) ∧
     (¬ i44 = (3 : Int) →
     ((Ret (.bool true) w) (.returned (.bool false)) w21))))) ∧
    (true = false →
    ((Ret (.bool true) w) (.returned (.bool false)) w20))))))))) ∧
    ((
    Calls Try.prog 15 #[(.agg #[.slice A9 n10 n11])] w14 fun r w15 => ∃ A30 : Option Addr, ∃ n31 : Nat, ∃ n32 : Nat, r = .returned (.slice A30 n31 n32) ∧ (Go.Sx.Fr (fun _ => False) w w15 ∧ Go.Sx.Mild [g25, g18, g7, g6] w14 w15) ∧ Go.Sx.Keep w12.heap.size [] w14 w15 ∧ 
    ∀ g33 : Nat, w.heap.size ≤ g33 → (∀ w16 : World, Go.Sx.Fr (fun _ => False) w w16 → Below w15.heap.size w15 w16 → w15.heap.size ≤ g33 → w16.heap[g33]? = some (.cells #[] 23 (0, 0)) → 
    ∃ w17 : World, ∃ A34 : Option Addr, ∃ n35 : Nat, ∃ n36 : Nat, (Builtin.append_ #[43, 43] 43 #[(.slice (some ⟨g33, 0, none⟩) 0 0), (.slice A30 n31 n32)]).run Try.prog w16 = .ok (.slice A34 n35 n36) w17 ∧ (Go.Sx.Fr (fun _ => False) w w17 ∧ Go.Sx.Mild [g33, g25, g18, g7, g6] w16 w17) ∧ Go.Sx.Keep w12.heap.size [] w16 w17 ∧ 
    (
    Calls Try.prog 15 #[(.agg #[.slice A12 n13 n14])] w17 fun r w18 => ∃ A37 : Option Addr, ∃ n38 : Nat, ∃ n39 : Nat, r = .returned (.slice A37 n38 n39) ∧ (Go.Sx.Fr (fun _ => False) w w18 ∧ Go.Sx.Mild [g33, g25, g18, g7, g6] w17 w18) ∧ 
    (
    ∃ w19 : World, ∃ A40 : Option Addr, ∃ n41 : Nat, ∃ n42 : Nat, (Builtin.append_ #[43, 43] 43 #[(.slice A34 n35 n36), (.slice A37 n38 n39)]).run Try.prog w18 = .ok (.slice A40 n41 n42) w19 ∧ (Go.Sx.Fr (fun _ => False) w w19 ∧ Go.Sx.Mild [g33, g25, g18, g7, g6] w18 w19) ∧ 
    (
    Calls Try.prog 16 #[(.slice A27 n28 n29), (.slice A40 n41 n42)] w19 fun r w20 => ∃ b43 : Bool, r = .returned (.bool b43) ∧ (Go.Sx.Fr (fun _ => False) w w20 ∧ Go.Sx.Mild [g33, g25, g18, g7, g6] w19 w20) ∧ 
    ((true = true →
    (
     Calls Try.prog 12 #[(.agg #[.slice A22 n23 n24])] w20 fun r w21 => ∃ i44 : Int, r = .returned (.int .i64 i44) ∧ (Go.Sx.Fr (fun _ => False) w w21 ∧ Go.Sx.Mild [g33, g25, g18, g7, g6] w20 w21) ∧ 
     ((i44 = (3 : Int) →
     ((b43 = true →
      (
       Calls Try.prog 14 #[(.agg #[.slice A22 n23 n24]), (.agg #[.slice A9 n10 n11])] w21 fun r w22 => ∃ b45 : Bool, r = .returned (.bool b45) ∧ (Go.Sx.Fr (fun _ => False) w w22 ∧ Go.Sx.Mild [g33, g25, g18, g7, g6] w21 w22) ∧ 
       ((b45 = false →
       (
        Calls Try.prog 14 #[(.agg #[.slice A9 n10 n11]), (.agg #[.slice A22 n23 n24])] w22 fun r w23 => ∃ b46 : Bool, r = .returned (.bool b46) ∧ (Go.Sx.Fr (fun _ => False) w w23 ∧ Go.Sx.Mild [g33, g25, g18, g7, g6] w22 w23) ∧ 
        ((Ret (.bool true) w) (.returned (.bool (!b46))) w23))) ∧
       (b45 = true →
       ((Ret (.bool true) w) (.returned (.bool false)) w22))))) ∧
      (b43 = false →
      ((Ret (.bool true) w) (.returned (.bool false)) w21)))) ∧
     (¬ i44 = (3 : Int) →
     ((Ret (.bool true) w) (.returned (.bool false)) w21))))) ∧
    (true = false →
    ((Ret (.bool true) w) (.returned (.bool false)) w20)))))))))))) ∧
    (∀ g27 : Nat, w.heap.size ≤ g27 → (∀ w13 : World, Go.Sx.Fr (fun _ => False) w w13 → Below w12.heap.size w12 w13 → w12.heap.size ≤ g27 → w13.heap[g27]? = some (.cells #[] 23 (0, 0)) → 
    Calls Try.prog 15 #[(.agg #[.slice A22 n23 n24])] w13 fun r w14 => ∃ A28 : Option Addr, ∃ n29 : Nat, ∃ n30 : Nat, r = .returned (.slice A28 n29 n30) ∧ (Go.Sx.Fr (fun _ => False) w w14 ∧ Go.Sx.Mild [g27, g25, g18, g7, g6] w13 w14) ∧ Go.Sx.Keep w12.heap.size [] w13 w14 ∧ 
    (
    Calls Try.prog 15 #[(.agg #[.slice A9 n10 n11])] w14 fun r w15 => ∃ A31 : Option Addr, ∃ n32 : Nat, ∃ n33 : Nat, r = .returned (.slice A31 n32 n33) ∧ (Go.Sx.Fr (fun _ => False) w w15 ∧ Go.Sx.Mild [g27, g25, g18, g7, g6] w14 w15) ∧ Go.Sx.Keep w12.heap.size [] w14 w15 ∧ 
    (w15.heap[g27]? = some (.cells #[] 23 (0, 0)) → 
    ∃ w16 : World, ∃ A34 : Option Addr, ∃ n35 : Nat, ∃ n36 : Nat, (Builtin.append_ #[43, 43] 43 #[(.slice (some ⟨g27, 0, none⟩) 0 0), (.slice A31 n32 n33)]).run Try.prog w15 = .ok (.slice A34 n35 n36) w16 ∧ (Go.Sx.Fr (fun _ => False) w w16 ∧ Go.Sx.Mild [g27, g25, g18, g7, g6] w15 w16) ∧ Go.Sx.Keep w12.heap.size [] w15 w16 ∧ 
    (
    Calls Try.prog 15 #[(.agg #[.slice A12 n13 n14])] w16 fun r w17 => ∃ A37 : Option Addr, ∃ n38 : Nat, ∃ n39 : Nat, r = .returned (.slice A37 n38 n39) ∧ (Go.Sx.Fr (fun _ => False) w w17 ∧ Go.Sx.Mild [g27, g25, g18, g7, g6] w16 w17) ∧ 
    (
    ∃ w18 : World, ∃ A40 : Option Addr, ∃ n41 : Nat, ∃ n42 : Nat, (Builtin.append_ #[43, 43] 43 #[(.slice A34 n35 n36), (.slice A37 n38 n39)]).run Try.prog w17 = .ok (.slice A40 n41 n42) w18 ∧ (Go.Sx.Fr (fun _ => False) w w18 ∧ Go.Sx.Mild [g27, g25, g18, g7, g6] w17 w18) ∧ 
    (
    Calls Try.prog 16 #[(.slice A28 n29 n30), (.slice A40 n41 n42)] w18 fun r w19 => ∃ b43 : Bool, r = .returned (.bool b43) ∧ (Go.Sx.Fr (fun _ => False) w w19 ∧ Go.Sx.Mild [g27, g25, g18, g7, g6] w18 w19) ∧ 
    ((true = true →
    (
     Calls Try.prog 12 #[(.agg #[.slice A22 n23 n24])] w19 fun r w20 => ∃ i44 : Int, r = .returned (.int .i64 i44) ∧ (Go.Sx.Fr (fun _ => False) w w20 ∧ Go.Sx.Mild [g27, g25, g18, g7, g6] w19 w20) ∧ 
     ((i44 = (3 : Int) →
     ((b43 = true →
      (
       Calls Try.prog 14 #[(.agg #[.slice A22 n23 n24]), (.agg #[.slice A9 n10 n11])] w20 fun r w21 => ∃ b45 : Bool, r = .returned (.bool b45) ∧ (Go.Sx.Fr (fun _ => False) w w21 ∧ Go.Sx.Mild [g27, g25, g18, g7, g6] w20 w21) ∧ 
       ((b45 = false →
       (
        Calls Try.prog 14 #[(.agg #[.slice A9 n10 n11]), (.agg #[.slice A22 n23 n24])] w21 fun r w22 => ∃ b46 : Bool, r = .returned (.bool b46) ∧ (Go.Sx.Fr (fun _ => False) w w22 ∧ Go.Sx.Mild [g27, g25, g18, g7, g6] w21 w22) ∧ 
        ((Ret (.bool true) w) (.returned (.bool (!b46))) w22))) ∧
       (b45 = true →
       ((Ret (.bool true) w) (.returned (.bool false)) w21))))) ∧
      (b43 = false →
      ((Ret (.bool true) w) (.returned (.bool false)) w20)))) ∧
     (¬ i44 = (3 : Int) →
     ((Ret (.bool true) w) (.returned (.bool false)) w20))))) ∧
    (true = false →
    ((Ret (.bool true) w) (.returned (.bool false)) w19)))))))))))
  := by
  have h9 := s9.len
  have h12 := s12.len
  have h22 := s22.len
  have l1 := namesV_len xs
  have l2 := namesV_len ys
  have l3 := namesV_len zs
  have K9 : ∀ {w'}, Fr (fun _ => False) w w' → Sl w' (fun b => b < w.heap.size) (.slice A9 n10 n11) xs := fun f => s9.same f12 f
  have K12 : ∀ {w'}, Fr (fun _ => False) w w' → Sl w' (fun b => b < w.heap.size) (.slice A12 n13 n14) ys := fun f => s12.same f12 f
  have K22 : ∀ {w'}, Below w12.heap.size w12 w' → Sl w' (fun b => b < w12.heap.size) (.slice A22 n23 n24) zs := fun f => s22.below f
  have hsz : w.heap.size ≤ w12.heap.size := f12.size
  refine ⟨fun w13 f13 b13 => ?_, ?_⟩
  · skip
    -- the names of both
    refine (names_c (K22 b13) (by omega)).mono ?_
    rintro e w14 ⟨A27, n28, n29, rfl, o27, b14⟩
    have f14 := f13.step b14
    have B14 := (b13).trans (b14.mono (b13).size)
    refine ⟨A27, n28, n29, rfl, ok_ret b14 f13, keep_below b14 (b13).size, ?_⟩
    have q14 := o27.sl.here
    refine ⟨fun g30 hg30 w15 f15 b15 lo30 t30 => ?_, ?_⟩
    · refine (names_c (K9 f15) (by omega)).mono ?_
      rintro e w16 ⟨A31, n32, n33, rfl, o31, b16⟩
      have f16 := f15.step b16
      have B15 := B14.trans (b15.mono B14.size)
      have B16 := B15.trans (b16.mono B15.size)
      refine ⟨A31, n32, n33, rfl, ok_ret b16 f15, keep_below b16 B15.size, fun t30' => ?_⟩
      -- the own row of names, with those of the second edit, and the end
      have hG : ∀ g ∈ [g30, g25, g18, g7, g6], g < w16.heap.size := by
        intro g hg
        rcases List.mem_cons.1 hg with rfl | hg
        · exact heap_lt t30'
        · exact Nat.lt_of_lt_of_le (hnames g hg) (B16).size
      have r0 : Rw none w w.heap.size 23 w16 (.slice (some ⟨g30, 0, none⟩) 0 0) ([] : List IDV) [g30, g25, g18, g7, g6] := Rw.first f16 hg30 t30' hG
      obtain ⟨wb, A34, n35, n36, hr, m, r, gr, -, tl⟩ := r0.append2 43 43 (.agg #[.int .i64 0, .int .i64 0]) 16 Try.underlying43 (by kernel_rfl) rfl (o31.sl).arg (by simp only [List.length_nil]; omega) (by simp only [List.length_nil]; omega)
      rw [tail_full] at gr
      have bb := below_of_grown gr
      have fb := fr_none m.1
      refine ⟨wb, A34, n35, n36, hr, ⟨fb, m.2⟩, keep_below bb (B16).size, ?_⟩
      refine (names_c (K12 fb) (by omega)).mono ?_
      rintro e wc ⟨A37, n38, n39, rfl, o37, bc⟩
      have fc := fb.step bc
      refine ⟨A37, n38, n39, rfl, ok_ret bc fb, ?_⟩
      refine joins_end3 (r.below bc) o37.sl.any (Sl.weaken (((q14.below b15).below b16).below (bb.trans (bc.mono bb.size))) fun b hb _ => ne_tail tl (tail_full _ _) (Nat.lt_of_lt_of_le hb (Nat.le_trans b15.size b16.size))) (Sl.weaken (K22 ((B16).trans ((bb.trans (bc.mono bb.size)).mono (B16).size))) fun b hb _ => ne_tail tl (tail_full _ _) (Nat.lt_of_lt_of_le hb (B16).size)) (K9 fc) (by rw [hz, names_app]; rfl) hmay hne (by simp; omega) (by omega)
    · refine (names_c (K9 f14) (by omega)).mono ?_
      rintro e w15 ⟨A30, n31, n32, rfl, o31, b15⟩
      have f15 := f14.step b15
      have B15 := B14.trans (b15.mono B14.size)
      refine ⟨A30, n31, n32, rfl, ok_ret b15 f14, keep_below b15 B14.size, ?_⟩
      intro g33 hg33 w16 f16 b16 lo33 t33
      have B16 := B15.trans (b16.mono B15.size)
      -- the own row of names, with those of the second edit, and the end
      have hG : ∀ g ∈ [g33, g25, g18, g7, g6], g < w16.heap.size := by
        intro g hg
        rcases List.mem_cons.1 hg with rfl | hg
        · exact heap_lt t33
        · exact Nat.lt_of_lt_of_le (hnames g hg) (B16).size
      have r0 : Rw none w w.heap.size 23 w16 (.slice (some ⟨g33, 0, none⟩) 0 0) ([] : List IDV) [g33, g25, g18, g7, g6] := Rw.first f16 hg33 t33 hG
      obtain ⟨wb, A34, n35, n36, hr, m, r, gr, -, tl⟩ := r0.append2 43 43 (.agg #[.int .i64 0, .int .i64 0]) 16 Try.underlying43 (by kernel_rfl) rfl (((o31.below b16).sl)).arg (by simp only [List.length_nil]; omega) (by simp only [List.length_nil]; omega)
      rw [tail_full] at gr
      have bb := below_of_grown gr
      have fb := fr_none m.1
      refine ⟨wb, A34, n35, n36, hr, ⟨fb, m.2⟩, keep_below bb (B16).size, ?_⟩
      refine (names_c (K12 fb) (by omega)).mono ?_
      rintro e wc ⟨A37, n38, n39, rfl, o37, bc⟩
      have fc := fb.step bc
      refine ⟨A37, n38, n39, rfl, ok_ret bc fb, ?_⟩
      refine joins_end3 (r.below bc) o37.sl.any (Sl.weaken (((q14.below b15).below b16).below (bb.trans (bc.mono bb.size))) fun b hb _ => ne_tail tl (tail_full _ _) (Nat.lt_of_lt_of_le hb (Nat.le_trans b15.size b16.size))) (Sl.weaken (K22 ((B16).trans ((bb.trans (bc.mono bb.size)).mono (B16).size))) fun b hb _ => ne_tail tl (tail_full _ _) (Nat.lt_of_lt_of_le hb (B16).size)) (K9 fc) (by rw [hz, names_app]; rfl) hmay hne (by simp; omega) (by omega)
  · intro g27 hg27 w13 f13 b13 lo27 t27
    -- the names of both
    refine (names_c (K22 b13) (by omega)).mono ?_
    rintro e w14 ⟨A27, n28, n29, rfl, o27, b14⟩
    have f14 := f13.step b14
    have B14 := (b13).trans (b14.mono (b13).size)
    refine ⟨A27, n28, n29, rfl, ok_ret b14 f13, keep_below b14 (b13).size, ?_⟩
    have q14 := o27.sl.here
    refine (names_c (K9 f14) (by omega)).mono ?_
    rintro e w15 ⟨A31, n32, n33, rfl, o31, b15⟩
    have f15 := f14.step b15
    have B15 := B14.trans (b15.mono B14.size)
    refine ⟨A31, n32, n33, rfl, ok_ret b15 f14, keep_below b15 B14.size, fun t27' => ?_⟩
    -- the own row of names, with those of the second edit, and the end
    have hG : ∀ g ∈ [g27, g25, g18, g7, g6], g < w15.heap.size := by
      intro g hg
      rcases List.mem_cons.1 hg with rfl | hg
      · exact heap_lt t27'
      · exact Nat.lt_of_lt_of_le (hnames g hg) (B15).size
    have r0 : Rw none w w.heap.size 23 w15 (.slice (some ⟨g27, 0, none⟩) 0 0) ([] : List IDV) [g27, g25, g18, g7, g6] := Rw.first f15 hg27 t27' hG
    obtain ⟨wb, A34, n35, n36, hr, m, r, gr, -, tl⟩ := r0.append2 43 43 (.agg #[.int .i64 0, .int .i64 0]) 16 Try.underlying43 (by kernel_rfl) rfl (o31.sl).arg (by simp only [List.length_nil]; omega) (by simp only [List.length_nil]; omega)
    rw [tail_full] at gr
    have bb := below_of_grown gr
    have fb := fr_none m.1
    refine ⟨wb, A34, n35, n36, hr, ⟨fb, m.2⟩, keep_below bb (B15).size, ?_⟩
    refine (names_c (K12 fb) (by omega)).mono ?_
    rintro e wc ⟨A37, n38, n39, rfl, o37, bc⟩
    have fc := fb.step bc
    refine ⟨A37, n38, n39, rfl, ok_ret bc fb, ?_⟩
    refine joins_end3 (r.below bc) o37.sl.any (Sl.weaken ((q14.below b15).below (bb.trans (bc.mono bb.size))) fun b hb _ => ne_tail tl (tail_full _ _) (Nat.lt_of_lt_of_le hb b15.size)) (Sl.weaken (K22 ((B15).trans ((bb.trans (bc.mono bb.size)).mono (B15).size))) fun b hb _ => ne_tail tl (tail_full _ _) (Nat.lt_of_lt_of_le hb (B15).size)) (K9 fc) (by rw [hz, names_app]; rfl) hmay hne (by simp; omega) (by omega)
set_option maxHeartbeats 4000000 in
theorem joins_mid0 {w w12 : World} {A9 A12 A22 : Option Addr} {n10 n11 n13 n14 n23 n24 g25 g18 g7 g6 : Nat} {xs ys zs : List OpV} (f12 : Fr (fun _ => False) w w12) (s9 : Sl w12 (fun b => b < w.heap.size) (.slice A9 n10 n11) xs) (s12 : Sl w12 (fun b => b < w.heap.size) (.slice A12 n13 n14) ys)
    (s22 : Sl w12 (fun b => b < w12.heap.size) (.slice A22 n23 n24) zs) (hz : zs = xs ++ ys) (hnames : ∀ g ∈ [g25, g18, g7, g6], g < w12.heap.size) (hmay : mayEditV zs = 0) (hne : ¬ zs = xs) (hl : n10 ≤ 10) (hl' : n13 ≤ 10) (hl2 : n23 ≤ 20) :
(((∀ w13 : World, Go.Sx.Fr (fun _ => False) w w13 → Below w12.heap.size w12 w13 → 
    Calls Try.prog 15 #[(.agg #[.slice A22 n23 n24])] w13 fun r w14 => ∃ A27 : Option Addr, ∃ n28 : Nat, ∃ n29 : Nat, r = .returned (.slice A27 n28 n29) ∧ (Go.Sx.Fr (fun _ => False) w w14 ∧ Go.Sx.Mild [g25, g18, g7, g6] w13 w14) ∧ Go.Sx.Keep w12.heap.size [] w13 w14 ∧ 
    ((∀ g30 : Nat, w.heap.size ≤ g30 → (∀ w15 : World, Go.Sx.Fr (fun _ => False) w w15 → Below w14.heap.size w14 w15 → w14.heap.size ≤ g30 → w15.heap[g30]? = some (.cells #[] 23 (0, 0)) → 
    Calls Try.prog 15 #[(.agg #[.slice A9 n10 n11])] w15 fun r w16 => ∃ A31 : Option Addr, ∃ n32 : Nat, ∃ n33 : Nat, r = .returned (.slice A31 n32 n33) ∧ (Go.Sx.Fr (fun _ => False) w w16 ∧ Go.Sx.Mild [g30, g25, g18, g7, g6] w15 w16) ∧ Go.Sx.Keep w12.heap.size [] w15 w16 ∧ 
    (w16.heap[g30]? = some (.cells #[] 23 (0, 0)) → 
    ∃ w17 : World, ∃ A34 : Option Addr, ∃ n35 : Nat, ∃ n36 : Nat, (Builtin.append_ #[43, 43] 43 #[(.slice (some ⟨g30, 0, none⟩) 0 0), (.slice A31 n32 n33)]).run Try.prog w16 = .ok (.slice A34 n35 n36) w17 ∧ (Go.Sx.Fr (fun _ => False) w w17 ∧ Go.Sx.Mild [g30, g25, g18, g7, g6] w16 w17) ∧ Go.Sx.Keep w12.heap.size [] w16 w17 ∧ 
    (
    Calls Try.prog 15 #[(.agg #[.slice A12 n13 n14])] w17 fun r w18 => ∃ A37 : Option Addr, ∃ n38 : Nat, ∃ n39 : Nat, r = .returned (.slice A37 n38 n39) ∧ (Go.Sx.Fr (fun _ => False) w w18 ∧ Go.Sx.Mild [g30, g25, g18, g7, g6] w17 w18) ∧ 
    (
    ∃ w19 : World, ∃ A40 : Option Addr, ∃ n41 : Nat, ∃ n42 : Nat, (Builtin.append_ #[43, 43] 43 #[(.slice A34 n35 n36), (.slice A37 n38 n39)]).run Try.prog w18 = .ok (.slice A40 n41 n42) w19 ∧ (Go.Sx.Fr (fun _ => False) w w19 ∧ Go.Sx.Mild [g30, g25, g18, g7, g6] w18 w19) ∧ 
    (
    Calls Try.prog 16 #[(.slice A27 n28 n29), (.slice A40 n41 n42)] w19 fun r w20 => ∃ b43 : Bool, r = .returned (.bool b43) ∧ (Go.Sx.Fr (fun _ => False) w w20 ∧ Go.Sx.Mild [g30, g25, g18, g7, g6] w19 w20) ∧ 
    ((true = true →
    (
     Calls Try.prog 12 #[(.agg #[.slice A22 n23 n24])] w20 fun r w21 => ∃ i44 : Int, r = .returned (.int .i64 i44) ∧ (Go.Sx.Fr (fun _ => False) w w21 ∧ Go.Sx.Mild [g30, g25, g18, g7, g6] w20 w21) ∧ 
     ((i44 = (0 : Int) →
     ((b43 = true →
      (
       Calls Try.prog 14 #[(.agg #[.slice A22 n23 n24]), (.agg #[.slice A9 n10 n11])] w21 fun r w22 => ∃ b45 : Bool, r = .returned (.bool b45) ∧ (Go.Sx.Fr (fun _ => False) w w22 ∧ Go.Sx.Mild [g30, g25, g18, g7, g6] w21 w22) ∧ 
       ((b45 = false →
       (
        Calls Try.prog 14 #[(.agg #[.slice A9 n10 n11]), (.agg #[.slice A22 n23 n24])] w22 fun r w23 => ∃ b46 : Bool, r = .returned (.bool b46) ∧ (Go.Sx.Fr (fun _ => False) w w23 ∧ Go.Sx.Mild [g30, g25, g18, g7, g6] w22 w23) ∧ 
        ((Ret (.bool true) w) (.returned (.bool (!b46))) w23))) ∧
       (b45 = true →
       ((Ret (.bool true) w) (.returned (.bool false)) w22))))) ∧
      (b43 = false →
      ((Ret (.bool true) w) (.returned (.bool false)) w21)))) ∧
     (¬ i44 = (0 : Int) →
     ((Ret (.bool true) w) (.returned (.bool false)) w21))))) ∧
    (true = false →
    ((Ret (.bool true) w) (.returned (.bool false)) w20))))))))) ∧
    ((
    Calls Try.prog 15 #[(.agg #[.slice A9 n10 n11])] w14 fun r w15 => ∃ A30 : Option Addr, ∃ n31 : Nat, ∃ n32 : Nat, r = .returned (.slice A30 n31 n32) ∧ (Go.Sx.Fr (fun _ => False) w w15 ∧ Go.Sx.Mild [g25, g18, g7, g6] w14 w15) ∧ Go.Sx.Keep w12.heap.size [] w14 w15 ∧ 
    ∀ g33 : Nat, w.heap.size ≤ g33 → (∀ w16 : World, Go.Sx.Fr (fun _ => False) w w16 → Below w15.heap.size w15 w16 → w15.heap.size ≤ g33 → w16.heap[g33]? = some (.cells #[] 23 (0, 0)) → 
    ∃ w17 : World, ∃ A34 : Option Addr, ∃ n35 : Nat, ∃ n36 : Nat, (Builtin.append_ #[43, 43] 43 #[(.slice (some ⟨g33, 0, none⟩) 0 0), (.slice A30 n31 n32)]).run Try.prog w16 = .ok (.slice A34 n35 n36) w17 ∧ (Go.Sx.Fr (fun _ => False) w w17 ∧ Go.Sx.Mild [g33, g25, g18, g7, g6] w16 w17) ∧ Go.Sx.Keep w12.heap.size [] w16 w17 ∧ 
    (
    Calls Try.prog 15 #[(.agg #[.slice A12 n13 n14])] w17 fun r w18 => ∃ A37 : Option Addr, ∃ n38 : Nat, ∃ n39 : Nat, r = .returned (.slice A37 n38 n39) ∧ (Go.Sx.Fr (fun _ => False) w w18 ∧ Go.Sx.Mild [g33, g25, g18, g7, g6] w17 w18) ∧ 
    (
    ∃ w19 : World, ∃ A40 : Option Addr, ∃ n41 : Nat, ∃ n42 : Nat, (Builtin.append_ #[43, 43] 43 #[(.slice A34 n35 n36), (.slice A37 n38 n39)]).run Try.prog w18 = .ok (.slice A40 n41 n42) w19 ∧ (Go.Sx.Fr (fun _ => False) w w19 ∧ Go.Sx.Mild [g33, g25, g18, g7, g6] w18 w19) ∧ 
    (
    Calls Try.prog 16 #[(.slice A27 n28 n29), (.slice A40 n41 n42)] w19 fun r w20 => ∃ b43 : Bool, r = .returned (.bool b43) ∧ (Go.Sx.Fr (fun _ => False) w w20 ∧ Go.Sx.Mild [g33, g25, g18, g7, g6] w19 w20) ∧ 
    ((true = true →
    (
     Calls Try.prog 12 #[(.agg #[.slice A22 n23 n24])] w20 fun r w21 => ∃ i44 : Int, r = .returned (.int .i64 i44) ∧ (Go.Sx.Fr (fun _ => False) w w21 ∧ Go.Sx.Mild [g33, g25, g18, g7, g6] w20 w21) ∧ 
     ((i44 = (0 : Int) →
     ((b43 = true →
      (
       Calls Try.prog 14 #[(.agg #[.slice A22 n23 n24]), (.agg #[.slice A9 n10 n11])] w21 fun r w22 => ∃ b45 : Bool, r = .returned (.bool b45) ∧ (Go.Sx.Fr (fun _ => False) w w22 ∧ Go.Sx.Mild [g33, g25, g18, g7, g6] w21 w22) ∧ 
       ((b45 = false →
       (
        Calls Try.prog 14 #[(.agg #[.slice A9 n10 n11]), (.agg #[.slice A22 n23 n24])] w22 fun r w23 => ∃ b46 : Bool, r = .returned (.bool b46) ∧ (Go.Sx.Fr (fun _ => False) w w23 ∧ Go.Sx.Mild [g33, g25, g18, g7, g6] w22 w23) ∧ 
        ((Ret (.bool true) w) (.returned (.bool (!b46))) w23))) ∧
       (b45 = true →
       ((Ret (.bool true) w) (.returned (.bool false)) w22))))) ∧
      (b43 = false →
      ((Ret (.bool true) w) (.returned (.bool false)) w21)))) ∧
     (¬ i44 = (0 : Int) →
     ((Ret (.bool true) w) (.returned (.bool false)) w21))))) ∧
    (true = false →
    ((Ret (.bool true) w) (.returned (.bool false)) w20)))))))))))) ∧
    (∀ g27 : Nat, w.heap.size ≤ g27 → (∀ w13 : World, Go.Sx.Fr (fun _ => False) w w13 → Below w12.heap.size w12 w13 → w12.heap.size ≤ g27 → w13.heap[g27]? = some (.cells #[] 23 (0, 0)) → 
    Calls Try.prog 15 #[(.agg #[.slice A22 n23 n24])] w13 fun r w14 => ∃ A28 : Option Addr, ∃ n29 : Nat, ∃ n30 : Nat, r = .returned (.slice A28 n29 n30) ∧ (Go.Sx.Fr (fun _ => False) w w14 ∧ Go.Sx.Mild [g27, g25, g18, g7, g6] w13 w14) ∧ Go.Sx.Keep w12.heap.size [] w13 w14 ∧ 
    (
    Calls Try.prog 15 #[(.agg #[.slice A9 n10 n11])] w14 fun r w15 => ∃ A31 : Option Addr, ∃ n32 : Nat, ∃ n33 : Nat, r = .returned (.slice A31 n32 n33) ∧ (Go.Sx.Fr (fun _ => False) w w15 ∧ Go.Sx.Mild [g27, g25, g18, g7, g6] w14 w15) ∧ Go.Sx.Keep w12.heap.size [] w14 w15 ∧ 
    (w15.heap[g27]? = some (.cells #[] 23 (0, 0)) → 
    ∃ w16 : World, ∃ A34 : Option Addr, ∃ n35 : Nat, ∃ n36 : Nat, (Builtin.append_ #[43, 43] 43 #[(.slice (some ⟨g27, 0, none⟩) 0 0), (.slice A31 n32 n33)]).run Try.prog w15 = .ok (.slice A34 n35 n36) w16 ∧ (Go.Sx.Fr (fun _ => False) w w16 ∧ Go.Sx.Mild [g27, g25, g18, g7, g6] w15 w16) ∧ Go.Sx.Keep w12.heap.size [] w15 w16 ∧ 
    (
    Calls Try.prog 15 #[(.agg #[.slice A12 n13 n14])] w16 fun r w17 => ∃ A37 : Option Addr, ∃ n38 : Nat, ∃ n39 : Nat, r = .returned (.slice A37 n38 n39) ∧ (Go.Sx.Fr (fun _ => False) w w17 ∧ Go.Sx.Mild [g27, g25, g18, g7, g6] w16 w17) ∧ 
    (
    ∃ w18 : World, ∃ A40 : Option Addr, ∃ n41 : Nat, ∃ n42 : Nat, (Builtin.append_ #[43, 43] 43 #[(.slice A34 n35 n36), (.slice A37 n38 n39)]).run Try.prog w17 = .ok (.slice A40 n41 n42) w18 ∧ (Go.Sx.Fr (fun _ => False) w w18 ∧ Go.Sx.Mild [g27, g25, g18, g7, g6] w17 w18) ∧ 
    (
    Calls Try.prog 16 #[(.slice A28 n29 n30), (.slice A40 n41 n42)] w18 fun r w19 => ∃ b43 : Bool, r = .returned (.bool b43) ∧ (Go.Sx.Fr (fun _ => False) w w19 ∧ Go.Sx.Mild [g27, g25, g18, g7, g6] w18 w19) ∧ 
    ((true = true →
    (
     Calls Try.prog 12 #[(.agg #[.slice A22 n23 n24])] w19 fun r w20 => ∃ i44 : Int, r = .returned (.int .i64 i44) ∧ (Go.Sx.Fr (fun _ => False) w w20 ∧ Go.Sx.Mild [g27, g25, g18, g7, g6] w19 w20) ∧ 
     ((i44 = (0 : Int) →
     ((b43 = true →
      (
       Calls Try.prog 14 #[(.agg #[.slice A22 n23 n24]), (.agg #[.slice A9 n10 n11])] w20 fun r w21 => ∃ b45 : Bool, r = .returned (.bool b45) ∧ (Go.Sx.Fr (fun _ => False) w w21 ∧ Go.Sx.Mild [g27, g25, g18, g7, g6] w20 w21) ∧ 
       ((b45 = false →
       (
        Calls Try.prog 14 #[(.agg #[.slice A9 n10 n11]), (.agg #[.slice A22 n23 n24])] w21 fun r w22 => ∃ b46 : Bool, r = .returned (.bool b46) ∧ (Go.Sx.Fr (fun _ => False) w w22 ∧ Go.Sx.Mild [g27, g25, g18, g7, g6] w21 w22) ∧ 
        ((Ret (.bool true) w) (.returned (.bool (!b46))) w22))) ∧
       (b45 = true →
       ((Ret (.bool true) w) (.returned (.bool false)) w21))))) ∧
      (b43 = false →
      ((Ret (.bool true) w) (.returned (.bool false)) w20)))) ∧
     (¬ i44 = (0 : Int) →
     ((Ret (.bool true) w) (.returned (.bool false)) w20))))) ∧
    (true = false →
    ((Ret (.bool true) w) (.returned (.bool false)) w19)))))))))))
  := by
  have h9 := s9.len
  have h12 := s12.len
  have h22 := s22.len
  have l1 := namesV_len xs
  have l2 := namesV_len ys
  have l3 := namesV_len zs
  have K9 : ∀ {w'}, Fr (fun _ => False) w w' → Sl w' (fun b => b < w.heap.size) (.slice A9 n10 n11) xs := fun f => s9.same f12 f
  have K12 : ∀ {w'}, Fr (fun _ => False) w w' → Sl w' (fun b => b < w.heap.size) (.slice A12 n13 n14) ys := fun f => s12.same f12 f
  have K22 : ∀ {w'}, Below w12.heap.size w12 w' → Sl w' (fun b => b < w12.heap.size) (.slice A22 n23 n24) zs := fun f => s22.below f
  have hsz : w.heap.size ≤ w12.heap.size := f12.size
  refine ⟨fun w13 f13 b13 => ?_, ?_⟩
  · skip
    -- the names of both
    refine (names_c (K22 b13) (by omega)).mono ?_
    rintro e w14 ⟨A27, n28, n29, rfl, o27, b14⟩
    have f14 := f13.step b14
    have B14 := (b13).trans (b14.mono (b13).size)
    refine ⟨A27, n28, n29, rfl, ok_ret b14 f13, keep_below b14 (b13).size, ?_⟩
    have q14 := o27.sl.here
    refine ⟨fun g30 hg30 w15 f15 b15 lo30 t30 => ?_, ?_⟩
    · refine (names_c (K9 f15) (by omega)).mono ?_
      rintro e w16 ⟨A31, n32, n33, rfl, o31, b16⟩
      have f16 := f15.step b16
      have B15 := B14.trans (b15.mono B14.size)
      have B16 := B15.trans (b16.mono B15.size)
      refine ⟨A31, n32, n33, rfl, ok_ret b16 f15, keep_below b16 B15.size, fun t30' => ?_⟩
      -- the own row of names, with those of the second edit, and the end
      have hG : ∀ g ∈ [g30, g25, g18, g7, g6], g < w16.heap.size := by
        intro g hg
        rcases List.mem_cons.1 hg with rfl | hg
        · exact heap_lt t30'
        · exact Nat.lt_of_lt_of_le (hnames g hg) (B16).size
      have r0 : Rw none w w.heap.size 23 w16 (.slice (some ⟨g30, 0, none⟩) 0 0) ([] : List IDV) [g30, g25, g18, g7, g6] := Rw.first f16 hg30 t30' hG
      obtain ⟨wb, A34, n35, n36, hr, m, r, gr, -, tl⟩ := r0.append2 43 43 (.agg #[.int .i64 0, .int .i64 0]) 16 Try.underlying43 (by kernel_rfl) rfl (o31.sl).arg (by simp only [List.length_nil]; omega) (by simp only [List.length_nil]; omega)
      rw [tail_full] at gr
      have bb := below_of_grown gr
      have fb := fr_none m.1
      refine ⟨wb, A34, n35, n36, hr, ⟨fb, m.2⟩, keep_below bb (B16).size, ?_⟩
      refine (names_c (K12 fb) (by omega)).mono ?_
      rintro e wc ⟨A37, n38, n39, rfl, o37, bc⟩
      have fc := fb.step bc
      refine ⟨A37, n38, n39, rfl, ok_ret bc fb, ?_⟩
      refine joins_end0 (r.below bc) o37.sl.any (Sl.weaken (((q14.below b15).below b16).below (bb.trans (bc.mono bb.size))) fun b hb _ => ne_tail tl (tail_full _ _) (Nat.lt_of_lt_of_le hb (Nat.le_trans b15.size b16.size))) (Sl.weaken (K22 ((B16).trans ((bb.trans (bc.mono bb.size)).mono (B16).size))) fun b hb _ => ne_tail tl (tail_full _ _) (Nat.lt_of_lt_of_le hb (B16).size)) (K9 fc) (by rw [hz, names_app]; rfl) hmay hne (by simp; omega) (by omega)
    · refine (names_c (K9 f14) (by omega)).mono ?_
      rintro e w15 ⟨A30, n31, n32, rfl, o31, b15⟩
      have f15 := f14.step b15
      have B15 := B14.trans (b15.mono B14.size)
      refine ⟨A30, n31, n32, rfl, ok_ret b15 f14, keep_below b15 B14.size, ?_⟩
      intro g33 hg33 w16 f16 b16 lo33 t33
      have B16 := B15.trans (b16.mono B15.size)
      -- the own row of names, with those of the second edit, and the end
      have hG : ∀ g ∈ [g33, g25, g18, g7, g6], g < w16.heap.size := by
        intro g hg
        rcases List.mem_cons.1 hg with rfl | hg
        · exact heap_lt t33
        · exact Nat.lt_of_lt_of_le (hnames g hg) (B16).size
      have r0 : Rw none w w.heap.size 23 w16 (.slice (some ⟨g33, 0, none⟩) 0 0) ([] : List IDV) [g33, g25, g18, g7, g6] := Rw.first f16 hg33 t33 hG
      obtain ⟨wb, A34, n35, n36, hr, m, r, gr, -, tl⟩ := r0.append2 43 43 (.agg #[.int .i64 0, .int .i64 0]) 16 Try.underlying43 (by kernel_rfl) rfl (((o31.below b16).sl)).arg (by simp only [List.length_nil]; omega) (by simp only [List.length_nil]; omega)
      rw [tail_full] at gr
      have bb := below_of_grown gr
      have fb := fr_none m.1
      refine ⟨wb, A34, n35, n36, hr, ⟨fb, m.2⟩, keep_below bb (B16).size, ?_⟩
      refine (names_c (K12 fb) (by omega)).mono ?_
      rintro e wc ⟨A37, n38, n39, rfl, o37, bc⟩
      have fc := fb.step bc
      refine ⟨A37, n38, n39, rfl, ok_ret bc fb, ?_⟩
      refine joins_end0 (r.below bc) o37.sl.any (Sl.weaken (((q14.below b15).below b16).below (bb.trans (bc.mono bb.size))) fun b hb _ => ne_tail tl (tail_full _ _) (Nat.lt_of_lt_of_le hb (Nat.le_trans b15.size b16.size))) (Sl.weaken (K22 ((B16).trans ((bb.trans (bc.mono bb.size)).mono (B16).size))) fun b hb _ => ne_tail tl (tail_full _ _) (Nat.lt_of_lt_of_le hb (B16).size)) (K9 fc) (by rw [hz, names_app]; rfl) hmay hne (by simp; omega) (by omega)
  · intro g27 hg27 w13 f13 b13 lo27 t27
    -- the names of both
    refine (names_c (K22 b13) (by omega)).mono ?_
    rintro e w14 ⟨A27, n28, n29, rfl, o27, b14⟩
    have f14 := f13.step b14
    have B14 := (b13).trans (b14.mono (b13).size)
    refine ⟨A27, n28, n29, rfl, ok_ret b14 f13, keep_below b14 (b13).size, ?_⟩
    have q14 := o27.sl.here
    refine (names_c (K9 f14) (by omega)).mono ?_
    rintro e w15 ⟨A31, n32, n33, rfl, o31, b15⟩
    have f15 := f14.step b15
    have B15 := B14.trans (b15.mono B14.size)
    refine ⟨A31, n32, n33, rfl, ok_ret b15 f14, keep_below b15 B14.size, fun t27' => ?_⟩
    -- the own row of names, with those of the second edit, and the end
    have hG : ∀ g ∈ [g27, g25, g18, g7, g6], g < w15.heap.size := by
      intro g hg
      rcases List.mem_cons.1 hg with rfl | hg
      · exact heap_lt t27'
      · exact Nat.lt_of_lt_of_le (hnames g hg) (B15).size
    have r0 : Rw none w w.heap.size 23 w15 (.slice (some ⟨g27, 0, none⟩) 0 0) ([] : List IDV) [g27, g25, g18, g7, g6] := Rw.first f15 hg27 t27' hG
    obtain ⟨wb, A34, n35, n36, hr, m, r, gr, -, tl⟩ := r0.append2 43 43 (.agg #[.int .i64 0, .int .i64 0]) 16 Try.underlying43 (by kernel_rfl) rfl (o31.sl).arg (by simp only [List.length_nil]; omega) (by simp only [List.length_nil]; omega)
    rw [tail_full] at gr
    have bb := below_of_grown gr
    have fb := fr_none m.1
    refine ⟨wb, A34, n35, n36, hr, ⟨fb, m.2⟩, keep_below bb (B15).size, ?_⟩
    refine (names_c (K12 fb) (by omega)).mono ?_
    rintro e wc ⟨A37, n38, n39, rfl, o37, bc⟩
    have fc := fb.step bc
    refine ⟨A37, n38, n39, rfl, ok_ret bc fb, ?_⟩
    refine joins_end0 (r.below bc) o37.sl.any (Sl.weaken ((q14.below b15).below (bb.trans (bc.mono bb.size))) fun b hb _ => ne_tail tl (tail_full _ _) (Nat.lt_of_lt_of_le hb b15.size)) (Sl.weaken (K22 ((B15).trans ((bb.trans (bc.mono bb.size)).mono (B15).size))) fun b hb _ => ne_tail tl (tail_full _ _) (Nat.lt_of_lt_of_le hb (B15).size)) (K9 fc) (by rw [hz, names_app]; rfl) hmay hne (by simp; omega) (by omega)

theorem joins_law {xs ys : List OpV} (h1 : mayEditV xs = 0) (h2 : mayEditV ys = 0) : ¬ (xs ++ ys) = xs ∧ ((6 < (xs ++ ys).length → mayEditV (xs ++ ys) = 3) ∧ ((xs ++ ys).length ≤ 6 → mayEditV (xs ++ ys) = 0)) := by
  obtain ⟨a1, a2⟩ := mayEdit_zero.1 h1
  obtain ⟨b1, b2⟩ := mayEdit_zero.1 h2
  refine ⟨fun h => ?_, fun h => ?_, fun h => ?_⟩
  · have := congrArg List.length h
    simp at this
    subst this
    simp at b1
  · unfold mayEditV; rw [if_pos (.inr h)]
  · refine mayEdit_zero.2 ⟨⟨by simp; omega, h⟩, fun o ho => ?_⟩
    rcases List.mem_append.1 ho with ho | ho
    · exact a2 o ho
    · exact b2 o ho
theorem names4 {w : World} {a b c d : Nat} (h1 : a < w.heap.size) (h2 : b < w.heap.size) (h3 : c < w.heap.size) (h4 : d < w.heap.size) : ∀ g ∈ [a, b, c, d], g < w.heap.size := by
  intro g hg
  simp only [List.mem_cons, List.not_mem_nil, or_false] at hg
  rcases hg with rfl | rfl | rfl | rfl <;> assumption
theorem names3 {w : World} {a b c : Nat} (h1 : a < w.heap.size) (h2 : b < w.heap.size) (h3 : c < w.heap.size) : ∀ g ∈ [a, b, c], g < w.heap.size := by
  intro g hg
  simp only [List.mem_cons, List.not_mem_nil, or_false] at hg
  rcases hg with rfl | rfl | rfl <;> assumption
theorem past_typed {w w' : World} {base g : Nat} {e t : TypeId} {v : Value} {zs : List OpV} {C : Array Value} {fr : Nat × Nat} (h : OwnF w base e v zs) (hg : w.heap[g]? = some (.cells C t fr)) (ht : t ≠ e) (q : Fr (fun b => b ∈ [g]) w w') : Sl w' (fun b => b < w'.heap.size) v zs :=
  Sl.here (Sl.past (OwnF.sl_ne h (own_ne' h hg ht)) q (by simp))

set_option maxHeartbeats 8000000 in
theorem opJoins_wk {w : World} {A A' : Option Addr} {n c n' c' : Nat} {xs ys : List OpV} (h : Sl w (fun b => b < w.heap.size) (.slice A n c) xs) (h' : Sl w (fun b => b < w.heap.size) (.slice A' n' c') ys) :
    Calls Try.prog 8 #[.agg #[.slice A n c], .agg #[.slice A' n' c']] w (Ret (.bool true) w) := by
  refine opJoins_sx _ (fun _ => False) w A n c A' n' c' ?_
  intro g6 hg6 g7 hg7 w1 f1 b1 lo7 t7 lo6 t6
  have l6 := heap_lt t6
  have l7 := heap_lt t7
  refine (shown_c w1).mono ?_
  rintro e w2 ⟨rfl, b2⟩
  have f2 := f1.step b2
  refine ⟨_, rfl, ok_ret b2 f1, ?_⟩
  refine (few_c (h.below (fr_below f2))).mono ?_
  rintro e w3 ⟨n10, rfl, hn3, s3, b3⟩
  have f3 := f2.step b3
  refine ⟨A, n10, c, rfl, ok_ret b3 f2, fun w4 f4 q4 => ?_⟩
  refine (few_c (h'.below (fr_below f4))).mono ?_
  rintro e w5 ⟨n13, rfl, hn5, s5, b5⟩
  have f5 := f4.step b5
  refine ⟨A', n13, c', rfl, ok_ret b5 f4, fun w6 f6 q6 => ?_⟩
  have s9 := s3.same f2 f6
  have s12 := s5.same f4 f6
  clear s3 s5 h h'
  generalize xs.take 10 = xs at s9
  generalize ys.take 10 = ys at s12
  refine (mayEdit_c w6 _ A n10 c _ s9).mono ?_
  rintro e w7 ⟨rfl, b7⟩
  have f7 := f6.step b7
  refine ⟨_, rfl, ok_ret b7 f6, fun _ => ret_leaf f7 rfl, fun hm1 => ?_⟩
  refine (mayEdit_c w7 _ A' n13 c' _ (s12.same f6 f7)).mono ?_
  rintro e w8 ⟨rfl, b8⟩
  have f8 := f7.step b8
  refine ⟨_, rfl, ok_ret b8 f7, fun _ => ret_leaf f8 rfl, fun hm2 => ?_⟩
  have s9 := s9.same f6 f8
  have s12 := s12.same f6 f8
  have h9 := s9.len
  have h12 := s12.len
  have jl := joins_law hm1 hm2
  have z8 : w1.heap.size ≤ w8.heap.size := Nat.le_trans b2.size (Nat.le_trans b3.size (Nat.le_trans q4.size (Nat.le_trans b5.size (Nat.le_trans q6.size (Nat.le_trans b7.size b8.size)))))
  refine ⟨fun g18 hg18 => ⟨fun w9 f9 b9 lo18 t18 => ?_, fun g19 hg19 w9 f9 b9 lo19 t19 lo18 t18 => ?_⟩, fun g18 hg18 g19 hg19 w9 f9 b9 lo19 t19 lo18 t18 => ?_⟩
  · have z9 := b9.size
    -- a copy of the first edit's operations
    have r0 : Rw none w w.heap.size 29 w9 (.slice (some ⟨g18, 0, none⟩) 0 0) ([] : List OpV) [g18,g7,g6] := Rw.first f9 hg18 t18 (by
      intro g hg
      simp only [List.mem_cons, List.not_mem_nil, or_false] at hg
      rcases hg with rfl|rfl|rfl <;> first|exact heap_lt t18|omega)
    have bw := fr_below f9
    obtain ⟨wb, A19, n20, n21, hr, m, r1, gr, -, tl⟩ := r0.append2 36 36 (.agg OpV.zero.cells) 168 Try.underlying36 (by kernel_rfl) rfl (s9.same f8 f9).arg (by simp only [List.length_nil]; omega) (by simp only [List.length_nil]; omega)
    rw [tail_full] at gr
    have bb := below_of_grown gr
    have fb := fr_none m.1
    refine ⟨wb, A19, n20, n21, hr, ⟨fb, m.2⟩, keep_below bb b9.size, ?_⟩
    have lx : ([] ++ xs).length = xs.length := by simp
    have zb := bb.size
    refine ⟨?_, fun g22 hg22 wc fc bc lo22 t22 => ?_⟩
    · skip
      obtain ⟨wd, A22, n23, n24, hr2, m2, r2⟩ := (r1).append 36 36 (.agg OpV.zero.cells) 168 Try.underlying36 (by kernel_rfl) rfl (s12.same f8 fb).arg (by omega) (by omega)
      have fd := fr_none m2.1
      refine ⟨wd, A22, n23, n24, hr2, ⟨fd, m2.2⟩, ?_⟩
      have hz : n23 = (xs ++ ys).length := r2.sl.len
      have hzl : (xs ++ ys).length = xs.length + ys.length := by simp
      have zd := m2.2.1
      intro g25 hg25
      refine ⟨fun hlt we fe be lo25 t25 => joins_mid3 fe (s9.same f8 fe) (s12.same f8 fe) (Sl.below r2.sl.here be|>.here) rfl (names4 (heap_lt t25) (Nat.lt_of_lt_of_le (heap_lt t18) (by have:=be.size;omega)) (by have:=be.size;omega) (by have:=be.size;omega)) (jl.2.1 (by omega)) jl.1 (by omega) (by omega) (by omega), fun hle we fe be lo25 t25 => joins_mid0 fe (s9.same f8 fe) (s12.same f8 fe) (Sl.below r2.sl.here be|>.here) rfl (names4 (heap_lt t25) (Nat.lt_of_lt_of_le (heap_lt t18) (by have:=be.size;omega)) (by have:=be.size;omega) (by have:=be.size;omega)) (jl.2.2 (by omega)) jl.1 (by omega) (by omega) (by omega)⟩
    · have r1c := r1.on bc [g22] (by simp only [List.mem_singleton]; rintro _ rfl; exact ⟨lo22, heap_lt t22⟩)
      have zc := bc.size
      obtain ⟨wd, A22, n23, n24, hr2, m2, r2⟩ := (r1c).append 36 36 (.agg OpV.zero.cells) 168 Try.underlying36 (by kernel_rfl) rfl (s12.same f8 fc).arg (by omega) (by omega)
      have fd := fr_none m2.1
      refine ⟨wd, A22, n23, n24, hr2, ⟨fd, m2.2⟩, ?_⟩
      have hz : n23 = (xs ++ ys).length := r2.sl.len
      have hzl : (xs ++ ys).length = xs.length + ys.length := by simp
      have zd := m2.2.1
      have t22' : wd.heap[g22]? = some (.cells #[.slice none 0 0] 38 (0, 0)) := (m2.2.2 g22 (by simp) (heap_lt t22)).trans t22
      refine ⟨fun hlt we fe qe => joins_mid3 fe (s9.same f8 fe) (s12.same f8 fe) (past_typed r2.own t22' (by decide) qe) rfl (names4 (Nat.lt_of_lt_of_le (heap_lt t22') qe.size) (Nat.lt_of_lt_of_le (heap_lt t18) (by have:=qe.size;omega)) (by have:=qe.size;omega) (by have:=qe.size;omega)) (jl.2.1 (by omega)) jl.1 (by omega) (by omega) (by omega), fun hle we fe qe => joins_mid0 fe (s9.same f8 fe) (s12.same f8 fe) (past_typed r2.own t22' (by decide) qe) rfl (names4 (Nat.lt_of_lt_of_le (heap_lt t22') qe.size) (Nat.lt_of_lt_of_le (heap_lt t18) (by have:=qe.size;omega)) (by have:=qe.size;omega) (by have:=qe.size;omega)) (jl.2.2 (by omega)) jl.1 (by omega) (by omega) (by omega)⟩
  · have z9 := b9.size
    -- a copy of the first edit's operations
    have r0 : Rw none w w.heap.size 29 w9 (.slice (some ⟨g18, 0, none⟩) 0 0) ([] : List OpV) [g19,g18,g7,g6] := Rw.first f9 hg18 t18 (by
      intro g hg
      simp only [List.mem_cons, List.not_mem_nil, or_false] at hg
      rcases hg with rfl|rfl|rfl|rfl <;> first|exact heap_lt t18|exact heap_lt t19|omega)
    have bw := fr_below f9
    obtain ⟨wb, A19, n20, n21, hr, m, r1, gr, -, tl⟩ := r0.append2 36 36 (.agg OpV.zero.cells) 168 Try.underlying36 (by kernel_rfl) rfl (s9.same f8 f9).arg (by simp only [List.length_nil]; omega) (by simp only [List.length_nil]; omega)
    rw [tail_full] at gr
    have bb := below_of_grown gr
    have fb := fr_none m.1
    refine ⟨wb, A19, n20, n21, hr, ⟨fb, m.2⟩, keep_below bb b9.size, ?_⟩
    have lx : ([] ++ xs).length = xs.length := by simp
    have zb := bb.size
    obtain ⟨wd, A22, n23, n24, hr2, m2, r2⟩ := (r1).append 36 36 (.agg OpV.zero.cells) 168 Try.underlying36 (by kernel_rfl) rfl (s12.same f8 fb).arg (by omega) (by omega)
    have fd := fr_none m2.1
    refine ⟨wd, A22, n23, n24, hr2, ⟨fd, m2.2⟩, ?_⟩
    have hz : n23 = (xs ++ ys).length := r2.sl.len
    have hzl : (xs ++ ys).length = xs.length + ys.length := by simp
    have zd := m2.2.1
    have t19' : wd.heap[g19]? = some (.cells #[.slice none 0 0] 38 (0, 0)) := (m2.2.2 g19 (by simp) (Nat.lt_of_lt_of_le (heap_lt t19) zb)).trans ((m.2.2 g19 (by simp) (heap_lt t19)).trans t19)
    refine ⟨fun hlt we fe qe => joins_mid3 fe (s9.same f8 fe) (s12.same f8 fe) (past_typed r2.own t19' (by decide) qe) rfl (names4 (Nat.lt_of_lt_of_le (heap_lt t19') qe.size) (Nat.lt_of_lt_of_le (heap_lt t18) (by have:=qe.size;omega)) (by have:=qe.size;omega) (by have:=qe.size;omega)) (jl.2.1 (by omega)) jl.1 (by omega) (by omega) (by omega), fun hle we fe qe => joins_mid0 fe (s9.same f8 fe) (s12.same f8 fe) (past_typed r2.own t19' (by decide) qe) rfl (names4 (Nat.lt_of_lt_of_le (heap_lt t19') qe.size) (Nat.lt_of_lt_of_le (heap_lt t18) (by have:=qe.size;omega)) (by have:=qe.size;omega) (by have:=qe.size;omega)) (jl.2.2 (by omega)) jl.1 (by omega) (by omega) (by omega)⟩
  · have z9 := b9.size
    -- a copy of the first edit's operations
    have r0 : Rw none w w.heap.size 29 w9 (.slice (some ⟨g19, 0, none⟩) 0 0) ([] : List OpV) [g19,g18,g7,g6] := Rw.first f9 hg19 t19 (by
      intro g hg
      simp only [List.mem_cons, List.not_mem_nil, or_false] at hg
      rcases hg with rfl|rfl|rfl|rfl <;> first|exact heap_lt t18|exact heap_lt t19|omega)
    have bw := fr_below f9
    obtain ⟨wb, A19, n20, n21, hr, m, r1, gr, -, tl⟩ := r0.append2 36 36 (.agg OpV.zero.cells) 168 Try.underlying36 (by kernel_rfl) rfl (s9.same f8 f9).arg (by simp only [List.length_nil]; omega) (by simp only [List.length_nil]; omega)
    rw [tail_full] at gr
    have bb := below_of_grown gr
    have fb := fr_none m.1
    refine ⟨wb, A19, n20, n21, hr, ⟨fb, m.2⟩, keep_below bb b9.size, ?_⟩
    have lx : ([] ++ xs).length = xs.length := by simp
    have zb := bb.size
    obtain ⟨wd, A22, n23, n24, hr2, m2, r2⟩ := (r1).append 36 36 (.agg OpV.zero.cells) 168 Try.underlying36 (by kernel_rfl) rfl (s12.same f8 fb).arg (by omega) (by omega)
    have fd := fr_none m2.1
    refine ⟨wd, A22, n23, n24, hr2, ⟨fd, m2.2⟩, ?_⟩
    have hz : n23 = (xs ++ ys).length := r2.sl.len
    have hzl : (xs ++ ys).length = xs.length + ys.length := by simp
    have zd := m2.2.1
    have t18' : wd.heap[g18]? = some (.cells #[.slice none 0 0] 38 (0, 0)) := (m2.2.2 g18 (by simp) (Nat.lt_of_lt_of_le (heap_lt t18) zb)).trans ((m.2.2 g18 (by simp) (heap_lt t18)).trans t18)
    refine ⟨fun hlt we fe qe => joins_mid3 fe (s9.same f8 fe) (s12.same f8 fe) (past_typed r2.own t18' (by decide) qe) rfl (names4 (Nat.lt_of_lt_of_le (heap_lt t19) (by have:=qe.size;omega)) (Nat.lt_of_lt_of_le (heap_lt t18') qe.size) (by have:=qe.size;omega) (by have:=qe.size;omega)) (jl.2.1 (by omega)) jl.1 (by omega) (by omega) (by omega), fun hle we fe qe => joins_mid0 fe (s9.same f8 fe) (s12.same f8 fe) (past_typed r2.own t18' (by decide) qe) rfl (names4 (Nat.lt_of_lt_of_le (heap_lt t19) (by have:=qe.size;omega)) (Nat.lt_of_lt_of_le (heap_lt t18') qe.size) (by have:=qe.size;omega) (by have:=qe.size;omega)) (jl.2.2 (by omega)) jl.1 (by omega) (by omega) (by omega)⟩
theorem opJoins_walk (w : World) (v1 : Value) (xs : List OpV) (h1 : Rep.K w (fun b => b < w.heap.size) xs v1.cells.toList) (z1 : ∃ cs : Array Value, v1 = .agg cs)
    (v2 : Value) (ys : List OpV) (h2 : Rep.K w (fun b => b < w.heap.size) ys v2.cells.toList) (z2 : ∃ cs : Array Value, v2 = .agg cs) :
    Calls Try.prog 8 #[v1, v2] w fun e w' => e = .returned (.bool true) ∧ Below w.heap.size w w' := by
  obtain ⟨A, n, c, rfl, s⟩ := edit_of h1 z1
  obtain ⟨A', n', c', rfl, s'⟩ := edit_of h2 z2
  exact opJoins_wk s s'
end Go.Proofs.Ytlcjlcfogcbddaa
