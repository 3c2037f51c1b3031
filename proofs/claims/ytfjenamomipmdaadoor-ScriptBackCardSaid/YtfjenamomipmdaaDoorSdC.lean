/- Script: Parse, its contract. -/
import Derived.Test.YtfjenamomipmdaaDoorSdB
set_option linter.unusedSimpArgs false
set_option linter.unusedVariables false
namespace Go.Proofs.YtfjenamomipmdaaDoor
open Go Go.RowKit Go.Proofs Go.Trc Go.Sx
set_option maxHeartbeats 2000000 in
theorem scParse_c (w : World) (xs : List UInt8) : Calls Tryd.prog 32 #[.string ⟨xs.toArray⟩] w (RetParse w (parseV xs)) := by
  have hs : (⟨xs.toArray⟩ : ByteArray).size = xs.length := by show xs.toArray.size = _; simp
  refine scParse_sx _ (fun b => some b = none) w _ ?_
  rw [hs]
  refine ⟨fun hgt => ?_, fun hle => ?_⟩
  · rw [parseV, if_pos (.inl (by omega))]
    exact ⟨none, 0, 0, rfl, rows_none _ _, Below.refl _ _⟩
  refine (Tryd.strings_Count_one ⟨xs.toArray⟩ 10 w).mono ?_
  rintro e w1 ⟨rfl, rfl⟩
  have hc : Lib.countByte (⟨xs.toArray⟩ : ByteArray).data.toList 10 = xs.count 10 := by simp [Lib.countByte]
  rw [hc]
  refine ⟨_, rfl, ⟨Fr.refl _ _, ⟨Nat.le_refl _, fun _ h => by cases h⟩⟩, fun hgt => ?_, fun hle2 => ?_⟩
  · rw [parseV, if_pos (.inr (by omega))]
    exact ⟨none, 0, 0, rfl, rows_none _ _, Below.refl _ _⟩
  have hpv : parseV xs = parseL xs.length [] xs := by rw [parseV, if_neg (by omega)]
  rw [hpv]
  refine ⟨fun _ _ _ _ _ A n c s w' => ∃ (l : List StepV) (t : List UInt8) (f : Nat), s = ⟨t.toArray⟩ ∧ t.length ≤ f ∧ t.length ≤ 65536 ∧ parseL xs.length [] xs = parseL f l t ∧ l.length + t.count 10 ≤ 2048 ∧ ∃ hs : List HdS, Rw none w1 w1.heap.size 54 w' (.slice A n c) hs [] ∧ Al (IsS w') hs l, fun _ _ _ _ _ _ _ _ s _ => s.size,
    ⟨[], xs, xs.length, rfl, Nat.le_refl _, by omega, rfl, by simp; omega, [], Rw.nil (Fr.refl _ _) (by simp), Al.nil⟩, ?_⟩
  rintro A2 n3 n4 i5 i6 A7 n8 n9 _ w2 f2 ⟨l, t, f, rfl, htf, htl, hp, hcn, hs', r, al⟩
  have hn8 : n8 = l.length := by rw [r.own.sl.len, al.1]
  refine ⟨fun hne => ?_, fun heq => ?_⟩
  · have ht : t ≠ [] := by rintro rfl; simp at hne
    by_cases h10 : (10 : UInt8) ∈ t
    · obtain ⟨a, r', rfl, ha, -, -⟩ := split_at h10
      rw [List.length_append, List.length_cons] at htl
      rw [List.count_append, List.count_cons_self] at hcn
      have htf' := htf
      rw [List.length_append, List.length_cons] at htf'
      refine (cut_yes w2 a r' ha (by omega)).mono ?_
      rintro e w3 ⟨rfl, b3⟩
      have f3 := f2.step b3
      refine ⟨_, _, _, rfl, ok_ret b3 f2, ?_⟩
      refine (line_all w3 a (by omega)).mono ?_
      rintro e w4 ⟨A18, n19, n20, rfl, o4, b4⟩
      have f4 := f3.step b4
      refine ⟨_, _, _, _, A18, n19, n20, _, rfl, ok_ret b4 f3, fun g22 hg22 => ⟨fun hb => (by cases hb), fun _ => ⟨fun hbad w5 f5 b5 lo t5 => ?_, fun h0 g23 hg23 w5 f5 b5 lo23 t23 lo22 t22 => ?_⟩⟩⟩
      · rw [hp, parse_step ha htf, if_neg hbad, wrap_in (by omega), hn8]
        exact ⟨none, 0, 0, rfl, rows_none _ _, fr_below (fr_none f5)⟩
      · have r5 := ((r.below b3).below b4).on b5 [g23, g22] (by
          simp only [List.mem_cons, List.not_mem_nil, or_false]
          rintro _ (rfl | rfl)
          · exact ⟨lo23, heap_lt t23⟩
          · exact ⟨lo22, heap_lt t22⟩)
        have al5 := al_stt (al_stt (al_stt al (stT_below b3)) (stT_below b4)) (stT_below b5)
        have new : IsS w5 (((lineV a).1.1, (lineV a).1.2.1, (lineV a).1.2.2.1, (lineV a).1.2.2.2.1, ⟨A18, n19, n20⟩) : HdS) (lineV a).1 := ⟨rfl, rfl, rfl, rfl, own_nT (o4.below b5) (by decide)⟩
        have hlh : hs'.length = l.length := al.1
        obtain ⟨w6, A24, n25, n26, hr6, m6, r6, gr6, -⟩ := r5.append2 51 51 _ 56 Tryd.underlying51 infoS rfl (arg_cells [(((lineV a).1.1, (lineV a).1.2.1, (lineV a).1.2.2.1, (lineV a).1.2.2.2.1, ⟨A18, n19, n20⟩) : HdS)] 1 rfl t23 (by decide) (by simp only [List.mem_singleton]; rintro _ rfl; exact hd_wf (line_rng a) _)) (by rw [hlh]; simp; omega) (by rw [hlh]; simp; omega)
        refine ⟨w6, A24, n25, n26, hr6, ⟨m6.1, m6.2⟩, ⟨l ++ [(lineV a).1], r', f - 1, rfl, by omega, by omega, by rw [hp, parse_step ha htf, if_pos h0], by rw [List.length_append, List.length_singleton]; omega, _, r6.less' (by simp), al_stt (al5.append (Al.one new)) (stT_app r5.own gr6)⟩, ?_⟩
        show r'.toArray.size < (a ++ 10 :: r').toArray.size
        simp; omega
    · refine (cut_no w2 t h10).mono ?_
      rintro e w3 ⟨rfl, b3⟩
      have f3 := f2.step b3
      refine ⟨_, _, _, rfl, ok_ret b3 f2, ?_⟩
      refine (line_all w3 t (by omega)).mono ?_
      rintro e w4 ⟨A18, n19, n20, rfl, o4, b4⟩
      refine ⟨_, _, _, _, A18, n19, n20, _, rfl, ok_ret b4 f3, fun g22 hg22 => ⟨fun _ w5 f5 b5 lo t5 => ?_, fun hb => by cases hb⟩⟩
      rw [hp, parse_bad ht h10 htf, wrap_in (by omega), hn8]
      exact ⟨none, 0, 0, rfl, rows_none _ _, fr_below (fr_none f5)⟩
  · have ht : t = [] := by
      have := bytes_toList_inj.1 (beq_iff_eq.1 heq)
      injection this with this
      simpa using congrArg Array.toList this
    rw [hp, ht, parse_nil]
    exact ⟨A7, n8, n9, rfl, ⟨hs', r.own, al⟩, fr_below (fr_none f2)⟩
end Go.Proofs.YtfjenamomipmdaaDoor
