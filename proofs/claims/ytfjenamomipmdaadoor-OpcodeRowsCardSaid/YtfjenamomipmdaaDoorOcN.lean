/- Opcode: whole edits; OpcodeTakes. -/
import Derived.Test.YtfjenamomipmdaaDoorOcK
import Derived.Test.YtfjenamomipmdaaDoorOcO
set_option linter.unusedSimpArgs false
set_option linter.unusedVariables false
namespace Go.Proofs.YtfjenamomipmdaaDoor
open Go Go.RowKit Go.Proofs Go.Trc Go.Sx
def wholeK (x : ES) : List OpV × Int := if x.2.2 ≠ 0 ∨ 0 < x.2.1.length then ([], 2) else (x.1, 0)
def wholeV (bs : List UInt8) : List OpV × Int := wholeK (takeR bs)
def WholeE (w : World) (x : List OpV × Int) (e : Ending) (w' : World) : Prop :=
  ∃ A n c, e = .returned (.tuple #[.agg #[.slice A n c], .int .i64 x.2]) ∧ OwnF w' w.heap.size 39 (.slice A n c) x.1 ∧ Below w.heap.size w w'
set_option maxHeartbeats 1000000 in
theorem opcodeWhole_c {w : World} {ok : Nat → Prop} {A : Option Addr} {n c : Nat} {xs : List UInt8} (h : Sl w ok (.slice A n c) xs) (hl : n ≤ 1000000) : Calls Tryd.prog 21 #[.slice A n c] w (WholeE w (wholeV xs)) := by
  refine opcodeWhole_sx _ (fun _ => False) w A n c ?_
  -- the whole of it, or none
  intro g3 hg3 w1 f1 b1 lo3 t3
  refine (opcodeTake_c (h.below b1) hl).mono ?_
  rintro e w2 ⟨A4, n5, c6, A7, n8, c9, rfl, o2, s2, b2⟩
  have f2 := f1.step b2
  have e3 := (b2.block g3 (heap_lt t3)).trans t3
  have ho := own_ne' o2 e3 (by decide)
  skip
  have er : wholeV xs = wholeK (takeR xs) := rfl
  rw [er]
  generalize takeR xs = X at o2 s2 ⊢
  have h8 := s2.len
  refine ⟨A4, n5, c6, A7, n8, c9, _, rfl, ok_ret b2 f1, fun g11 hg11 => ⟨fun hne w3 f3 q3 lo t => ?_, fun he => ⟨fun hpos w3 f3 q3 lo t => ?_, fun hz w3 f3 q3 lo t => ?_⟩⟩⟩
  · unfold wholeK; rw [if_pos (.inl hne)]
    exact ⟨none, 0, 0, rfl, OwnF.nil _ _ _, fr_below f3⟩
  · unfold wholeK; rw [if_pos (.inr (by omega))]
    exact ⟨none, 0, 0, rfl, OwnF.nil _ _ _, fr_below f3⟩
  · unfold wholeK; rw [if_neg (by rintro (h | h); exact h he; omega)]
    exact ⟨A4, n5, c6, rfl, (past_own o2 q3 ho).base' (fun k hk => Nat.le_trans b1.size (Own.base o2 k hk)), fr_below f3⟩
set_option maxHeartbeats 1000000 in
theorem ref10Whole_c {w : World} {ok : Nat → Prop} {A : Option Addr} {n c : Nat} {xs : List UInt8} (h : Sl w ok (.slice A n c) xs) (hl : n ≤ 1000000) : Calls Tryd.prog 22 #[.slice A n c] w (WholeE w (wholeV xs)) := by
  refine ref10Whole_sx _ (fun _ => False) w A n c ?_
  -- the whole of it, or none
  intro g3 hg3 w1 f1 b1 lo3 t3
  refine (ref10Take_c (h.below b1) hl).mono ?_
  rintro e w2 ⟨A4, n5, c6, A7, n8, c9, rfl, o2, s2, b2⟩
  have f2 := f1.step b2
  have e3 := (b2.block g3 (heap_lt t3)).trans t3
  have ho := own_ne' o2 e3 (by decide)
  rw [← take_same] at o2 s2 ⊢
  have er : wholeV xs = wholeK (takeR xs) := rfl
  rw [er]
  generalize takeR xs = X at o2 s2 ⊢
  have h8 := s2.len
  refine ⟨A4, n5, c6, A7, n8, c9, _, rfl, ok_ret b2 f1, fun g11 hg11 => ⟨fun hne w3 f3 q3 lo t => ?_, fun he => ⟨fun hpos w3 f3 q3 lo t => ?_, fun hz w3 f3 q3 lo t => ?_⟩⟩⟩
  · unfold wholeK; rw [if_pos (.inl hne)]
    exact ⟨none, 0, 0, rfl, OwnF.nil _ _ _, fr_below f3⟩
  · unfold wholeK; rw [if_pos (.inr (by omega))]
    exact ⟨none, 0, 0, rfl, OwnF.nil _ _ _, fr_below f3⟩
  · unfold wholeK; rw [if_neg (by rintro (h | h); exact h he; omega)]
    exact ⟨A4, n5, c6, rfl, (past_own o2 q3 ho).base' (fun k hk => Nat.le_trans b1.size (Own.base o2 k hk)), fr_below f3⟩
set_option maxHeartbeats 2000000 in
theorem opcodeTakes_walk (w : World) (A : Option Addr) (n c : Nat) (xs : List UInt8) (h : Sl w (fun b => b < w.heap.size) (.slice A n c) xs) :
    Calls Tryd.prog 6 #[.slice A n c] w (Ret (.bool true) w) := by
  refine opcodeTakes_sx _ (fun _ => False) w A n c ?_
  refine (shown10_c w).mono ?_
  rintro e w1 ⟨rfl, b1⟩
  have f1 : Fr (fun _ => False) w w1 := (Fr.refl _ _).step b1
  have h1 := h.below b1
  refine ⟨_, rfl, ok_ret b1 (Fr.refl _ _), fun hgt => ?_, fun hle => ?_⟩
  · obtain ⟨hr, s0⟩ := hi_b h (k := 400) (by omega)
    refine ⟨A, 400, c, hr w1, ?_⟩
    have s1 := s0.below b1
    -- both take the same
    intro g7 hg7 w2 f2 b2 lo7 t7
    obtain ⟨w3, A8, n9, c10, hr3, s3, b3⟩ := app_new (P := Tryd.prog) (g := g7) 22 22 5 (.int .u8 0) 1 Tryd.underlying22 infoB1 rfl (s1.below b2) (by omega)
    have f3 := f2.step b3
    have l3 := s3.len
    have lx := s1.len
    refine ⟨w3, A8, n9, c10, hr3, ok_ret b3 f2, ?_⟩
    refine (opcodeTake_c s3 (by omega)).mono ?_
    rintro e w4 ⟨A11, n12, c13, A14, n15, c16, rfl, o4, s4, b4⟩
    have f4 := f3.step b4
    refine ⟨A11, n12, c13, A14, n15, c16, _, rfl, ok_ret b4 f3, fun g18 hg18 w5 f5 b5 lo18 t18 => ?_⟩
    refine (ref10Take_c (s0.below (fr_below f5)) (by omega)).mono ?_
    rintro e w6 ⟨A19, n20, c21, A22, n23, c24, rfl, o6, s6, b6⟩
    rw [← take_same] at o6 s6 ⊢
    have f6 := f5.step b6
    refine ⟨A19, n20, c21, A22, n23, c24, _, rfl, ok_ret b6 f5, fun g26 hg26 g27 hg27 w7 f7 b7 lo27 t27 lo26 t26 => ?_⟩
    obtain ⟨w8, A28, n29, c30, hr8, s8, b8⟩ := app_new (P := Tryd.prog) (g := g27) 22 22 5 (.int .u8 0) 1 Tryd.underlying22 infoB1 rfl (s0.below (fr_below f7)) (by omega)
    have f8 := f7.step b8
    have l8 := s8.len
    refine ⟨w8, A28, n29, c30, hr8, ok_ret b8 f7, ?_⟩
    refine (opcodeWhole_c s8 (by omega)).mono ?_
    rintro e w9 ⟨A31, n32, c33, rfl, o9, b9⟩
    have f9 := f8.step b9
    refine ⟨A31, n32, c33, _, rfl, ok_ret b9 f8, fun g35 hg35 w10 f10 b10 lo35 t35 => ?_⟩
    refine (ref10Whole_c (s0.below (fr_below f10)) (by omega)).mono ?_
    rintro e w11 ⟨A36, n37, c38, rfl, o11, b11⟩
    have f11 := f10.step b11
    refine ⟨A36, n37, c38, _, rfl, ok_ret b11 f10, fun g40 hg40 w12 f12 b12 lo40 t40 => ?_⟩
    have b56 := b5.trans (b6.mono b5.size)
    have b412 := ((((((b56.trans (b7.mono b56.size)).trans (b8.mono (Nat.le_trans b56.size b7.size))).trans (b9.mono (Nat.le_trans (Nat.le_trans b56.size b7.size) b8.size))).trans (b10.mono (Nat.le_trans (Nat.le_trans (Nat.le_trans b56.size b7.size) b8.size) b9.size))).trans (b11.mono (Nat.le_trans (Nat.le_trans (Nat.le_trans (Nat.le_trans b56.size b7.size) b8.size) b9.size) b10.size))).trans (b12.mono (Nat.le_trans (Nat.le_trans (Nat.le_trans (Nat.le_trans (Nat.le_trans b56.size b7.size) b8.size) b9.size) b10.size) b11.size)))
    have b612 : Below w6.heap.size w6 w12 := (((((b7.trans (b8.mono b7.size)).trans (b9.mono (Nat.le_trans b7.size b8.size))).trans (b10.mono (Nat.le_trans (Nat.le_trans b7.size b8.size) b9.size))).trans (b11.mono (Nat.le_trans (Nat.le_trans (Nat.le_trans b7.size b8.size) b9.size) b10.size))).trans (b12.mono (Nat.le_trans (Nat.le_trans (Nat.le_trans (Nat.le_trans b7.size b8.size) b9.size) b10.size) b11.size)))
    have b912 : Below w9.heap.size w9 w12 := (b10.trans (b11.mono b10.size)).trans (b12.mono (Nat.le_trans b10.size b11.size))
    refine (ref_same_c (o4.below b412).sl (o6.below b612).sl).mono ?_
    rintro e w13 ⟨rfl, b13⟩
    have f13 := f12.step b13
    refine ⟨_, rfl, ok_ret b13 f12, ?_⟩
    refine (ref_same_c ((o9.below b912).below b13).sl ((o11.below b12).below b13).sl).mono ?_
    rintro e w14 ⟨rfl, b14⟩
    have f14 := f13.step b14
    refine ⟨_, rfl, ok_ret b14 f13, fun _ => ⟨fun _ => ⟨_, str_of (((s4.below b412).below b13).below b14), _, str_of (((s6.below b612).below b13).below b14), fun _ => ⟨fun _ => ⟨fun _ => ret_leaf f14 (by simp), fun hb => by simp at hb⟩, fun hne => absurd rfl hne⟩, fun hne => absurd rfl hne⟩, fun hb => by simp at hb⟩, fun hb => by cases hb⟩
  · skip
    -- both take the same
    intro g7 hg7 w2 f2 b2 lo7 t7
    obtain ⟨w3, A8, n9, c10, hr3, s3, b3⟩ := app_new (P := Tryd.prog) (g := g7) 22 22 5 (.int .u8 0) 1 Tryd.underlying22 infoB1 rfl (h1.below b2) (by omega)
    have f3 := f2.step b3
    have l3 := s3.len
    have lx := h1.len
    refine ⟨w3, A8, n9, c10, hr3, ok_ret b3 f2, ?_⟩
    refine (opcodeTake_c s3 (by omega)).mono ?_
    rintro e w4 ⟨A11, n12, c13, A14, n15, c16, rfl, o4, s4, b4⟩
    have f4 := f3.step b4
    refine ⟨A11, n12, c13, A14, n15, c16, _, rfl, ok_ret b4 f3, fun g18 hg18 w5 f5 b5 lo18 t18 => ?_⟩
    refine (ref10Take_c (h.below (fr_below f5)) (by omega)).mono ?_
    rintro e w6 ⟨A19, n20, c21, A22, n23, c24, rfl, o6, s6, b6⟩
    rw [← take_same] at o6 s6 ⊢
    have f6 := f5.step b6
    refine ⟨A19, n20, c21, A22, n23, c24, _, rfl, ok_ret b6 f5, fun g26 hg26 g27 hg27 w7 f7 b7 lo27 t27 lo26 t26 => ?_⟩
    obtain ⟨w8, A28, n29, c30, hr8, s8, b8⟩ := app_new (P := Tryd.prog) (g := g27) 22 22 5 (.int .u8 0) 1 Tryd.underlying22 infoB1 rfl (h.below (fr_below f7)) (by omega)
    have f8 := f7.step b8
    have l8 := s8.len
    refine ⟨w8, A28, n29, c30, hr8, ok_ret b8 f7, ?_⟩
    refine (opcodeWhole_c s8 (by omega)).mono ?_
    rintro e w9 ⟨A31, n32, c33, rfl, o9, b9⟩
    have f9 := f8.step b9
    refine ⟨A31, n32, c33, _, rfl, ok_ret b9 f8, fun g35 hg35 w10 f10 b10 lo35 t35 => ?_⟩
    refine (ref10Whole_c (h.below (fr_below f10)) (by omega)).mono ?_
    rintro e w11 ⟨A36, n37, c38, rfl, o11, b11⟩
    have f11 := f10.step b11
    refine ⟨A36, n37, c38, _, rfl, ok_ret b11 f10, fun g40 hg40 w12 f12 b12 lo40 t40 => ?_⟩
    have b56 := b5.trans (b6.mono b5.size)
    have b412 := ((((((b56.trans (b7.mono b56.size)).trans (b8.mono (Nat.le_trans b56.size b7.size))).trans (b9.mono (Nat.le_trans (Nat.le_trans b56.size b7.size) b8.size))).trans (b10.mono (Nat.le_trans (Nat.le_trans (Nat.le_trans b56.size b7.size) b8.size) b9.size))).trans (b11.mono (Nat.le_trans (Nat.le_trans (Nat.le_trans (Nat.le_trans b56.size b7.size) b8.size) b9.size) b10.size))).trans (b12.mono (Nat.le_trans (Nat.le_trans (Nat.le_trans (Nat.le_trans (Nat.le_trans b56.size b7.size) b8.size) b9.size) b10.size) b11.size)))
    have b612 : Below w6.heap.size w6 w12 := (((((b7.trans (b8.mono b7.size)).trans (b9.mono (Nat.le_trans b7.size b8.size))).trans (b10.mono (Nat.le_trans (Nat.le_trans b7.size b8.size) b9.size))).trans (b11.mono (Nat.le_trans (Nat.le_trans (Nat.le_trans b7.size b8.size) b9.size) b10.size))).trans (b12.mono (Nat.le_trans (Nat.le_trans (Nat.le_trans (Nat.le_trans b7.size b8.size) b9.size) b10.size) b11.size)))
    have b912 : Below w9.heap.size w9 w12 := (b10.trans (b11.mono b10.size)).trans (b12.mono (Nat.le_trans b10.size b11.size))
    refine (ref_same_c (o4.below b412).sl (o6.below b612).sl).mono ?_
    rintro e w13 ⟨rfl, b13⟩
    have f13 := f12.step b13
    refine ⟨_, rfl, ok_ret b13 f12, ?_⟩
    refine (ref_same_c ((o9.below b912).below b13).sl ((o11.below b12).below b13).sl).mono ?_
    rintro e w14 ⟨rfl, b14⟩
    have f14 := f13.step b14
    refine ⟨_, rfl, ok_ret b14 f13, fun _ => ⟨fun _ => ⟨_, str_of (((s4.below b412).below b13).below b14), _, str_of (((s6.below b612).below b13).below b14), fun _ => ⟨fun _ => ⟨fun _ => ret_leaf f14 (by simp), fun hb => by simp at hb⟩, fun hne => absurd rfl hne⟩, fun hne => absurd rfl hne⟩, fun hb => by simp at hb⟩, fun hb => by cases hb⟩
end Go.Proofs.YtfjenamomipmdaaDoor
