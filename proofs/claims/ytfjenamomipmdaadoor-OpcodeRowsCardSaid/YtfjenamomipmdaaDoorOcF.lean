/- Opcode: the document's example; OpcodePuts. -/
import Derived.Test.YtfjenamomipmdaaDoorOcE
set_option linter.unusedSimpArgs false
set_option linter.unusedVariables false
namespace Go.Proofs.YtfjenamomipmdaaDoor
open Go Go.RowKit Go.Proofs Go.Trc Go.Sx
theorem edit_of {w : World} {ok : Nat → Prop} {v : Value} {xs : List OpV} (h : Rep.K w ok xs v.cells.toList) (z : ∃ cs : Array Value, v = .agg cs) : ∃ A n c, v = .agg #[.slice A n c] ∧ Sl w ok (.slice A n c) xs := by
  obtain ⟨cs, rfl⟩ := z
  obtain ⟨u, hu, hs⟩ := h
  obtain ⟨A, c, rfl, _⟩ := id hs
  refine ⟨A, _, c, ?_, hs⟩
  have : cs.toList = [.slice A xs.length c] := hu
  rw [show cs = #[.slice A xs.length c] from Array.ext' this]
theorem rd_edit : Rd Tryd.prog 25 (List OpV) := rd_struct Tryd.underlying25 (by kernel_rfl) (rdF_last (by kernel_rfl) (rd_slice Tryd.underlying23 (by kernel_rfl) rd_op))
def o0 : OpV := { OpV.zero with kd := 1, s := 2, n := 258 }
theorem str_of {w : World} {ok : Nat → Prop} {A : Option Addr} {n c : Nat} {xs : List UInt8} (h : Sl w ok (.slice A n c) xs) : (convert 22 9 (.slice A n c)).run Tryd.prog w = .ok (.string ⟨xs.toArray⟩) w :=
  h.string 22 9 5 Tryd.underlying22 Tryd.underlying5 Tryd.underlying9
theorem shown10_c (w : World) : Calls Tryd.prog 14 #[] w (Ret (.bool true) w) := by
  refine shown10_sx _ (fun _ => False) w ?_
  intro g0 hg0 w1 f1 b1 lo0 t0
  have s1 : Sl w1 (fun _ => True) (.slice (some ⟨g0, 0, none⟩) 1 1) [o0] := (OwnF.cells [o0] 1 rfl (Nat.zero_le g0) t0 (by decide) (by simp only [List.mem_singleton]; rintro _ rfl; exact ⟨⟨by unfold rng; decide, by unfold rng; decide, by unfold rng; decide, by unfold rng; decide⟩, by decide⟩)).to fun _ _ => trivial
  refine (opcodePut_c (Sl.nil0 w1 (fun _ => True)) (by omega) s1).mono ?_
  rintro e w2 ⟨A, n, c, rfl, o2, b2⟩
  have hp : putV [] [o0] = ([1, 1, 2, 0, 1, 2], 0) := by decide
  rw [hp] at o2 ⊢
  refine ⟨A, n, c, _, rfl, ok_ret b2 f1, _, str_of o2.sl, fun _ => ?_, fun hne => absurd rfl hne⟩
  exact ret_leaf (f1.step b2) rfl
set_option maxHeartbeats 1000000 in
theorem opcodePuts_wk {w : World} {ok ok' : Nat → Prop} {A A3 : Option Addr} {n c n4 c5 : Nat} {xs : List UInt8} {l : List OpV} (h : Sl w ok (.slice A n c) xs) (hops : Sl w ok' (.slice A3 n4 c5) l) :
    Calls Tryd.prog 3 #[.slice A n c, .agg #[.slice A3 n4 c5]] w (Ret (.bool true) w) := by
  refine opcodePuts_sx _ (fun _ => False) w A n c A3 n4 c5 ?_
  intro g6 hg6 w1 f1 b1 lo6 t6
  refine (shown10_c w1).mono ?_
  rintro e w2 ⟨rfl, b2⟩
  have f2 := f1.step b2
  have h2 := h.below (fr_below f2)
  refine ⟨_, rfl, ok_ret b2 f1, fun hgt => ?_, fun hle => ?_⟩
  · obtain ⟨i, hi, _⟩ := infoB2
    obtain ⟨hr, s0⟩ := run_cut (P := Tryd.prog) (w := w2) 22 5 Tryd.underlying22 hi (k := 50) h2 (by omega)
    have s00 := h.take 50 c (by have := h.len; omega) (by have := h.len_eq; omega) (Nat.le_refl _)
    refine ⟨A, 50, c, hr, ?_⟩
    -- both put the same
    refine ⟨[], by simp, ?_⟩
    intro g12 hg12 w3 f3 b3 lo12 t12
    obtain ⟨w4, A13, n14, c15, hr4, s4, b4⟩ := app_new (P := Tryd.prog) (g := g12) 22 22 5 (.int .u8 0) 1 Tryd.underlying22 infoB1 rfl (s0.below b3) (by omega)
    have f4 := f3.step b4
    refine ⟨w4, A13, n14, c15, hr4, ok_ret b4 f3, keep_below b4 b3.size, ?_⟩
    have h4 := hops.below (fr_below f4)
    refine (few10_c h4).mono ?_
    rintro e w5 ⟨A16, n17, c18, rfl, o5, b5⟩
    have f5 := f4.step b5
    refine ⟨A16, n17, c18, rfl, ok_ret b5 f4, ?_⟩
    have l4 := s4.len
    have lx := s0.len
    refine (opcodePut_c (s4.below b5) (by omega) o5.sl).mono ?_
    rintro e w6 ⟨A19, n20, c21, rfl, o6, b6⟩
    have f6 := f5.step b6
    refine ⟨A19, n20, c21, _, rfl, ok_ret b6 f5, ?_⟩
    refine (few10_c (hops.below (fr_below f6))).mono ?_
    rintro e w7 ⟨A23, n24, c25, rfl, o7, b7⟩
    have f7 := f6.step b7
    refine ⟨A23, n24, c25, rfl, ok_ret b7 f6, ?_⟩
    refine (ref10Put_c (s00.below (fr_below f7)) (by omega) o7.sl).mono ?_
    rintro e w8 ⟨A26, n27, c28, rfl, o8, b8⟩
    have f8 := f7.step b8
    refine ⟨A26, n27, c28, _, rfl, ok_ret b8 f7, fun _ => ⟨_, str_of ((o6.below b7).below b8).sl, _, str_of o8.sl, fun _ => ret_leaf f8 (by simp), fun hne => absurd rfl hne⟩, fun hb => by cases hb⟩
  · skip
    -- both put the same
    refine ⟨[], by simp, ?_⟩
    intro g12 hg12 w3 f3 b3 lo12 t12
    obtain ⟨w4, A13, n14, c15, hr4, s4, b4⟩ := app_new (P := Tryd.prog) (g := g12) 22 22 5 (.int .u8 0) 1 Tryd.underlying22 infoB1 rfl (h2.below b3) (by omega)
    have f4 := f3.step b4
    refine ⟨w4, A13, n14, c15, hr4, ok_ret b4 f3, keep_below b4 b3.size, ?_⟩
    have h4 := hops.below (fr_below f4)
    refine (few10_c h4).mono ?_
    rintro e w5 ⟨A16, n17, c18, rfl, o5, b5⟩
    have f5 := f4.step b5
    refine ⟨A16, n17, c18, rfl, ok_ret b5 f4, ?_⟩
    have l4 := s4.len
    have lx := h2.len
    refine (opcodePut_c (s4.below b5) (by omega) o5.sl).mono ?_
    rintro e w6 ⟨A19, n20, c21, rfl, o6, b6⟩
    have f6 := f5.step b6
    refine ⟨A19, n20, c21, _, rfl, ok_ret b6 f5, ?_⟩
    refine (few10_c (hops.below (fr_below f6))).mono ?_
    rintro e w7 ⟨A23, n24, c25, rfl, o7, b7⟩
    have f7 := f6.step b7
    refine ⟨A23, n24, c25, rfl, ok_ret b7 f6, ?_⟩
    refine (ref10Put_c (h.below (fr_below f7)) (by omega) o7.sl).mono ?_
    rintro e w8 ⟨A26, n27, c28, rfl, o8, b8⟩
    have f8 := f7.step b8
    refine ⟨A26, n27, c28, _, rfl, ok_ret b8 f7, fun _ => ⟨_, str_of ((o6.below b7).below b8).sl, _, str_of o8.sl, fun _ => ret_leaf f8 (by simp), fun hne => absurd rfl hne⟩, fun hb => by cases hb⟩
theorem opcodePuts_walk (w : World) (A : Option Addr) (n c : Nat) (xs : List UInt8) (h : Sl w (fun b => b < w.heap.size) (.slice A n c) xs) (v1 : Value) (l : List OpV) (h1 : Rep.K w (fun b => b < w.heap.size) l v1.cells.toList) (z1 : ∃ cs : Array Value, v1 = .agg cs) :
    Calls Tryd.prog 3 #[.slice A n c, v1] w fun e w' => e = .returned (.bool true) ∧ Below w.heap.size w w' := by
  obtain ⟨A3, n3, c3, rfl, s⟩ := edit_of h1 z1
  exact opcodePuts_wk h s
end Go.Proofs.YtfjenamomipmdaaDoor
