/- ScriptParses. -/
import Derived.Test.YtfjenamomipmdaaDoorSdC
import Derived.Test.YtfjenamomipmdaaDoorSdD
import Derived.Test.YtfjenamomipmdaaDoorSdX
set_option linter.unusedSimpArgs false
set_option linter.unusedVariables false
namespace Go.Proofs.YtfjenamomipmdaaDoor
open Go Go.RowKit Go.Proofs Go.Trc Go.Sx
theorem scParses_wk (w : World) (xs : List UInt8) : Calls Tryd.prog 11 #[.string ⟨xs.toArray⟩] w (Ret (.bool true) w) := by
  have hs : (⟨xs.toArray⟩ : ByteArray).size = xs.length := by show xs.toArray.size = _; simp
  refine scParses_sx _ (fun _ => False) w _ ?_
  rw [hs]
  refine (shown23_c w).mono ?_
  rintro e w1 ⟨rfl, b1⟩
  have f1 := (Fr.refl (fun _ => False) w).step b1
  refine ⟨_, rfl, ok_ret b1 (Fr.refl _ _), fun hgt => ?_, fun hle => ?_⟩
  · have e : (⟨xs.toArray⟩ : ByteArray).extract 0 66000 = ⟨(xs.take 66000).toArray⟩ := by
      apply ByteArray.ext
      rw [ByteArray.data_extract]
      simp
    have hr := run_cut_s (w := w1) ⟨xs.toArray⟩ 66000 (by omega)
    rw [e] at hr
    refine ⟨_, hr, ?_⟩
    -- both read the same
    refine (scParse_c w1 (xs.take 66000)).mono ?_
    rintro e w2 ⟨A3, n4, n5, rfl, R2, b2⟩
    have f2 := f1.step b2
    refine ⟨A3, n4, n5, _, _, rfl, ok_ret b2 f1, ?_⟩
    refine (refParse_c w2 (xs.take 66000) (by rw [List.length_take]; omega)).mono ?_
    rintro e w3 ⟨A8, n9, n10, rfl, R3, b3⟩
    have f3 := f2.step b3
    refine ⟨A8, n9, n10, _, _, rfl, ok_ret b3 f2, ?_⟩
    refine (same23_c (R2.below b3).sl R3.sl).mono ?_
    rintro e w4 ⟨rfl, b4⟩
    exact ⟨_, rfl, ok_ret b4 f3, fun _ => ⟨fun _ => ⟨fun _ => ret_leaf (f3.step b4) (by simp), fun hne => absurd rfl hne⟩, fun hb => by simp at hb⟩, fun hb => by cases hb⟩
  · skip
    -- both read the same
    refine (scParse_c w1 xs).mono ?_
    rintro e w2 ⟨A3, n4, n5, rfl, R2, b2⟩
    have f2 := f1.step b2
    refine ⟨A3, n4, n5, _, _, rfl, ok_ret b2 f1, ?_⟩
    refine (refParse_c w2 xs (by omega)).mono ?_
    rintro e w3 ⟨A8, n9, n10, rfl, R3, b3⟩
    have f3 := f2.step b3
    refine ⟨A8, n9, n10, _, _, rfl, ok_ret b3 f2, ?_⟩
    refine (same23_c (R2.below b3).sl R3.sl).mono ?_
    rintro e w4 ⟨rfl, b4⟩
    exact ⟨_, rfl, ok_ret b4 f3, fun _ => ⟨fun _ => ⟨fun _ => ret_leaf (f3.step b4) (by simp), fun hne => absurd rfl hne⟩, fun hb => by simp at hb⟩, fun hb => by cases hb⟩
theorem scriptParses_walk (w : World) (s : ByteArray) (hs : s.size ≤ 140737488351232) :
    Calls Tryd.prog 11 #[.string s] w fun e w' => e = .returned (.bool true) ∧ Below w.heap.size w w' := by
  obtain ⟨⟨xs⟩⟩ := s
  exact scParses_wk w xs
end Go.Proofs.YtfjenamomipmdaaDoor
