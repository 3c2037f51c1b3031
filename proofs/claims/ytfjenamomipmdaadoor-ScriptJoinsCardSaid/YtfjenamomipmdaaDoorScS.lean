/- ScriptSteps. -/
import Derived.Test.YtfjenamomipmdaaDoorSpB
import Derived.Test.YtfjenamomipmdaaDoorSpC
import Derived.Test.YtfjenamomipmdaaDoorScZ
set_option linter.unusedSimpArgs false
set_option linter.unusedVariables false
namespace Go.Proofs.YtfjenamomipmdaaDoor
open Go Go.RowKit Go.Proofs Go.Trc Go.Sx
theorem rd_edit' : Rd Tryd.prog 25 (List OpV) := rd_struct Tryd.underlying25 (by kernel_rfl) (rdF_last (by kernel_rfl) (rd_slice Tryd.underlying23 (by kernel_rfl) rd_op))
theorem rd_step : Rd Tryd.prog 54 StepV := rd_struct Tryd.underlying54 (by kernel_rfl)
  (rdF_cons (by kernel_rfl) (rd_int Tryd.underlying3) rfl (rdF_cons (by kernel_rfl) (rd_int Tryd.underlying3) rfl (rdF_cons (by kernel_rfl) (rd_int Tryd.underlying3) rfl (rdF_cons (by kernel_rfl) (rd_int Tryd.underlying3) rfl (rdF_last (by kernel_rfl) rd_edit')))))
theorem rd_steps : Rd Tryd.prog 51 (List StepV) := rd_slice Tryd.underlying51 (by kernel_rfl) rd_step
theorem wrap_rng (x : Int) : -9223372036854775808 ≤ IntKind.i64.wrap x ∧ IntKind.i64.wrap x ≤ 9223372036854775807 := by
  simp only [IntKind.wrap, IntKind.bits, IntKind.signed]
  simp
  omega
theorem takeS_rng (bs : List UInt8) : rngs (takeS bs).1 := by
  unfold takeS
  have z : rngs zeroS := by unfold rngs zeroS; decide
  split
  · exact z
  · split
    · exact ⟨wrap_rng _, wrap_rng _, wrap_rng _, wrap_rng _⟩
    · split
      · exact ⟨wrap_rng _, wrap_rng _, wrap_rng _, wrap_rng _⟩
      · exact z
set_option maxHeartbeats 2000000 in
theorem scSteps_wk {w : World} {ok ok' : Nat → Prop} {A A3 : Option Addr} {n c n4 c5 : Nat} {ls : List StepV} {bs : List UInt8} (h : Sl w ok (.slice A n c) ls) (hb : Sl w ok' (.slice A3 n4 c5) bs) :
    Calls Tryd.prog 9 #[.slice A n c, .slice A3 n4 c5] w (Ret (.bool true) w) := by
  refine scSteps_sx _ (fun _ => False) w A n c A3 n4 c5 ?_
  refine (shown23_c w).mono ?_
  rintro e w1 ⟨rfl, b1⟩
  have f1 := (Fr.refl (fun _ => False) w).step b1
  refine ⟨_, rfl, ok_ret b1 (Fr.refl _ _), ?_⟩
  refine (few23_c (h.below b1)).mono ?_
  rintro e w2 ⟨A7, n8, n9, rfl, R2, b2⟩
  have f2 := f1.step b2
  have hb2 := (hb.below b1).below b2
  refine ⟨A7, n8, n9, rfl, ok_ret b2 f1, fun hgt => ?_, fun hle => ?_⟩
  · have hn := hb2.len
    obtain ⟨hr, s0⟩ := hi_b hb2 (k := 600) (by omega)
    refine ⟨A3, 600, c5, hr _, ?_⟩
    -- both do the same
    intro g13 hg13 w3 f3 b3 lo13 t13
    have hys := (s0).len
    obtain ⟨w4, A14, n15, n16, hr4, s4, b4⟩ := app_new (P := Tryd.prog) (g := g13) 22 22 5 (.int .u8 0) 1 Tryd.underlying22 infoB1 rfl ((s0).below b3) (by omega)
    have f4 := f3.step b4
    refine ⟨w4, A14, n15, n16, hr4, ok_ret b4 f3, ?_⟩
    refine (scTake_c s4 (by have := s4.len; omega)).mono ?_
    rintro e w5 ⟨A21, n22, n23, rfl, o5, b5⟩
    have f5 := f4.step b5
    refine ⟨_, _, _, _, A21, n22, n23, _, rfl, ok_ret b5 f4, ?_⟩
    intro g25 hg25 w6 f6 b6 lo25 t25
    refine (refScTake_c ((((s0).below b3).below b4).below b5 |>.below b6) (by omega)).mono ?_
    rintro e w7 ⟨A30, n31, n32, rfl, o7, b7⟩
    refine ⟨_, _, _, _, A30, n31, n32, _, rfl, ok_ret b7 f6, ?_⟩
    intro g34 hg34 g35 hg35 g36 hg36 w8 f8 b8 lo36 t36 lo35 t35 lo34 t34
    have sx := one_step _ (takeS_rng _) t35 (own_nT (((o5.below b6).below b7).below b8) (by decide))
    have sy := one_step _ (takeS_rng _) t36 (own_nT (o7.below b8) (by decide))
    refine (same23_c sx sy).mono ?_
    rintro e w9 ⟨rfl, b9⟩
    refine ⟨_, rfl, ok_ret b9 f8, ?_⟩
    have R9 := ((((((R2.below b3).below b4).below b5).below b6).below b7).below b8).below b9
    have hR := R9.sl.len_eq
    refine ⟨fun _ i w' => ∃ k : Nat, i = (k : Int) ∧ k ≤ (fewS ls).length ∧ RowsT w1.heap.size w' (.slice A7 n8 n9) (fewS ls), fun _ i _ => (n8 - i : Int).toNat, ⟨0, rfl, Nat.zero_le _, R9⟩, ?_⟩
    rintro _ _ w10 f10 ⟨k, rfl, hk, R10⟩
    refine ⟨fun hlt => ?_, fun hge => ?_⟩
    · have hk' : k < (fewS ls).length := by omega
      obtain ⟨p, o, A1, n1, c1, hA, hc, hs⟩ := step_at R10.sl k hk'
      refine ⟨by omega, hlt, p, o, hA, _, _, _, _, A1, n1, c1, hc, ?_⟩
      refine (scPut_c _ hs).mono ?_
      rintro e w11 ⟨A49, n50, n51, rfl, o11, b11⟩
      have f11 := f10.step b11
      refine ⟨A49, n50, n51, _, rfl, ok_ret b11 f10, ?_⟩
      have R11 := R10.below b11
      obtain ⟨p', o', A2, n2, c2, hA', hc', hs'⟩ := step_at R11.sl k hk'
      refine ⟨by omega, hlt, p', o', hA', _, _, _, _, A2, n2, c2, hc', ?_⟩
      refine (refScPut_c _ hs').mono ?_
      rintro e w12 ⟨A62, n63, n64, rfl, o12, b12⟩
      refine ⟨A62, n63, n64, _, rfl, ok_ret b12 f11, _, str_of (o11.below b12).sl, _, str_of o12.sl, fun hb => by simp at hb, fun _ => ⟨fun hne => absurd rfl hne, fun _ => ⟨⟨k + 1, by rw [wrap_in (by omega)]; rfl, hk', R11.below b12⟩, by dsimp only; rw [wrap_in (by omega)]; omega⟩⟩⟩
    · refine (scPrint_c R10.sl).mono ?_
      rintro e w11 ⟨rfl, b11⟩
      have f11 := f10.step b11
      refine ⟨_, _, rfl, ok_ret b11 f10, ?_⟩
      refine (refScPrint_c (R10.below b11).sl).mono ?_
      rintro e w12 ⟨rfl, b12⟩
      refine ⟨_, _, rfl, ok_ret b12 f11, fun _ => ⟨fun _ => ⟨fun _ => ⟨fun _ => ret_leaf (f11.step b12) (by simp), fun hne => absurd rfl hne⟩, fun hne => absurd rfl hne⟩, fun hb => by simp at hb⟩, fun hb => by cases hb⟩
  · skip
    -- both do the same
    intro g13 hg13 w3 f3 b3 lo13 t13
    have hys := (hb2).len
    obtain ⟨w4, A14, n15, n16, hr4, s4, b4⟩ := app_new (P := Tryd.prog) (g := g13) 22 22 5 (.int .u8 0) 1 Tryd.underlying22 infoB1 rfl ((hb2).below b3) (by omega)
    have f4 := f3.step b4
    refine ⟨w4, A14, n15, n16, hr4, ok_ret b4 f3, ?_⟩
    refine (scTake_c s4 (by have := s4.len; omega)).mono ?_
    rintro e w5 ⟨A21, n22, n23, rfl, o5, b5⟩
    have f5 := f4.step b5
    refine ⟨_, _, _, _, A21, n22, n23, _, rfl, ok_ret b5 f4, ?_⟩
    intro g25 hg25 w6 f6 b6 lo25 t25
    refine (refScTake_c ((((hb2).below b3).below b4).below b5 |>.below b6) (by omega)).mono ?_
    rintro e w7 ⟨A30, n31, n32, rfl, o7, b7⟩
    refine ⟨_, _, _, _, A30, n31, n32, _, rfl, ok_ret b7 f6, ?_⟩
    intro g34 hg34 g35 hg35 g36 hg36 w8 f8 b8 lo36 t36 lo35 t35 lo34 t34
    have sx := one_step _ (takeS_rng _) t35 (own_nT (((o5.below b6).below b7).below b8) (by decide))
    have sy := one_step _ (takeS_rng _) t36 (own_nT (o7.below b8) (by decide))
    refine (same23_c sx sy).mono ?_
    rintro e w9 ⟨rfl, b9⟩
    refine ⟨_, rfl, ok_ret b9 f8, ?_⟩
    have R9 := ((((((R2.below b3).below b4).below b5).below b6).below b7).below b8).below b9
    have hR := R9.sl.len_eq
    refine ⟨fun _ i w' => ∃ k : Nat, i = (k : Int) ∧ k ≤ (fewS ls).length ∧ RowsT w1.heap.size w' (.slice A7 n8 n9) (fewS ls), fun _ i _ => (n8 - i : Int).toNat, ⟨0, rfl, Nat.zero_le _, R9⟩, ?_⟩
    rintro _ _ w10 f10 ⟨k, rfl, hk, R10⟩
    refine ⟨fun hlt => ?_, fun hge => ?_⟩
    · have hk' : k < (fewS ls).length := by omega
      obtain ⟨p, o, A1, n1, c1, hA, hc, hs⟩ := step_at R10.sl k hk'
      refine ⟨by omega, hlt, p, o, hA, _, _, _, _, A1, n1, c1, hc, ?_⟩
      refine (scPut_c _ hs).mono ?_
      rintro e w11 ⟨A49, n50, n51, rfl, o11, b11⟩
      have f11 := f10.step b11
      refine ⟨A49, n50, n51, _, rfl, ok_ret b11 f10, ?_⟩
      have R11 := R10.below b11
      obtain ⟨p', o', A2, n2, c2, hA', hc', hs'⟩ := step_at R11.sl k hk'
      refine ⟨by omega, hlt, p', o', hA', _, _, _, _, A2, n2, c2, hc', ?_⟩
      refine (refScPut_c _ hs').mono ?_
      rintro e w12 ⟨A62, n63, n64, rfl, o12, b12⟩
      refine ⟨A62, n63, n64, _, rfl, ok_ret b12 f11, _, str_of (o11.below b12).sl, _, str_of o12.sl, fun hb => by simp at hb, fun _ => ⟨fun hne => absurd rfl hne, fun _ => ⟨⟨k + 1, by rw [wrap_in (by omega)]; rfl, hk', R11.below b12⟩, by dsimp only; rw [wrap_in (by omega)]; omega⟩⟩⟩
    · refine (scPrint_c R10.sl).mono ?_
      rintro e w11 ⟨rfl, b11⟩
      have f11 := f10.step b11
      refine ⟨_, _, rfl, ok_ret b11 f10, ?_⟩
      refine (refScPrint_c (R10.below b11).sl).mono ?_
      rintro e w12 ⟨rfl, b12⟩
      refine ⟨_, _, rfl, ok_ret b12 f11, fun _ => ⟨fun _ => ⟨fun _ => ⟨fun _ => ret_leaf (f11.step b12) (by simp), fun hne => absurd rfl hne⟩, fun hne => absurd rfl hne⟩, fun hb => by simp at hb⟩, fun hb => by cases hb⟩
theorem scriptSteps_walk (w : World) (A : Option Addr) (n c : Nat) (ls : List StepV) (h : Sl w (fun b => b < w.heap.size) (.slice A n c) ls) (A3 : Option Addr) (n4 c5 : Nat) (bs : List UInt8) (hb : Sl w (fun b => b < w.heap.size) (.slice A3 n4 c5) bs) :
    Calls Tryd.prog 9 #[.slice A n c, .slice A3 n4 c5] w fun e w' => e = .returned (.bool true) ∧ Below w.heap.size w w' := scSteps_wk h hb
end Go.Proofs.YtfjenamomipmdaaDoor
