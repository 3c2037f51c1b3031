/- Script: the reference's Parse. -/
import Derived.Test.YtfjenamomipmdaaDoorSdB
set_option linter.unusedSimpArgs false
set_option linter.unusedVariables false
namespace Go.Proofs.YtfjenamomipmdaaDoor
open Go Go.RowKit Go.Proofs Go.Trc Go.Sx
theorem cut_mid_s {w : World} (a b r : List UInt8) : (Instr.sliceAt 9 (.string ⟨(a ++ (b ++ r)).toArray⟩) (some (.int .i64 (a.length : Int))) (some (.int .i64 ((a.length + b.length : Nat) : Int))) none).run Tryd.prog w = .ok (.string ⟨b.toArray⟩) w := by
  have h0 : (0 : Int) ≤ a.length := by omega
  have hs : (⟨(a ++ (b ++ r)).toArray⟩ : ByteArray).size = a.length + (b.length + r.length) := by show (a ++ (b ++ r)).toArray.size = _; simp
  have h1 : (a.length : Int) ≤ ((a.length + b.length : Nat) : Int) := by omega
  have h2 : ((a.length + b.length : Nat) : Int) ≤ ((a.length + (b.length + r.length) : Nat) : Int) := by omega
  have h3 : (0 : Int) ≤ ((a.length + b.length : Nat) : Int) := by omega
  have e : (⟨(a ++ (b ++ r)).toArray⟩ : ByteArray).extract a.length (a.length + b.length) = ⟨b.toArray⟩ := by
    apply ByteArray.ext
    rw [ByteArray.data_extract]
    simp
  simp only [Instr.sliceAt, run_underlying Tryd.underlying9, Sem.run_bind, Sem.run_pure, Result.andThen_ok]
  simp only [Instr.slice, Instr.sliceBounds, Instr.sliceBound, asIntOf, Sem.run_bind, Sem.run_pure, Result.andThen_ok, h0, hs, h1, h2, h3, e, if_true, Int.toNat_natCast, and_self, decide_true]
  simp [h0, hs, h1, h2, h3, e]
  rw [if_pos ⟨by omega, by omega⟩, if_pos (by omega), show ((a.length : Int) + (b.length : Int)).toNat = a.length + b.length by omega, e]
set_option maxHeartbeats 2000000 in
theorem refParse_c (w : World) (xs : List UInt8) (hxl : xs.length ≤ 70000) : Calls Tryd.prog 33 #[.string ⟨xs.toArray⟩] w (RetParse w (parseV xs)) := by
  have hs : (⟨xs.toArray⟩ : ByteArray).size = xs.length := by show xs.toArray.size = _; simp
  refine refParse_sx _ (fun b => some b = none) w _ ?_
  rw [hs]
  refine ⟨fun c i w' => w' = w ∧ ∃ k : Nat, i = (k : Int) ∧ k ≤ xs.length ∧ c = ((xs.take k).count 10 : Nat), fun _ i _ => (xs.length - i : Int).toNat, ⟨rfl, 0, rfl, Nat.zero_le _, rfl⟩, ?_⟩
  rintro _ _ w1 f1 ⟨rfl, k, rfl, hk, rfl⟩
  have hcle : (xs.take k).count 10 ≤ 70000 := Nat.le_trans (List.count_le_length) (by rw [List.length_take]; omega)
  refine ⟨fun hlt => ?_, fun hge => ?_⟩
  · have hk' : k < xs.length := by omega
    have hct : ∀ c : UInt8, xs[k] = c → (xs.take (k + 1)).count 10 = (xs.take k).count 10 + if c = 10 then 1 else 0 := by
      rintro _ rfl
      rw [List.take_add_one, List.getElem?_eq_getElem hk', List.count_append]
      congr 1
      by_cases h : xs[k] = 10 <;> simp [h, List.count_singleton]
    refine ⟨_, str_idx xs k hk' _, fun he => ?_, fun hne => ?_⟩
    · have he' : xs[k] = 10 := UInt8.toNat_inj.1 (by show xs[k].toNat = 10; omega)
      refine ⟨⟨rfl, k + 1, by rw [wrap_in (by omega)]; rfl, hk', ?_⟩, by dsimp only; rw [wrap_in (x := (k : Int) + 1) (by omega)]; omega⟩
      rw [wrap_in (by omega), hct 10 he']; rfl
    · have he' : ¬ xs[k] = 10 := fun h => hne (by rw [h]; rfl)
      refine ⟨⟨rfl, k + 1, by rw [wrap_in (by omega)]; rfl, hk', ?_⟩, by dsimp only; rw [wrap_in (by omega)]; omega⟩
      rw [hct _ rfl, if_neg he']; rfl
  · rw [List.take_of_length_le (by omega)] at hcle ⊢
    refine ⟨fun hgt => ?_, fun hle => ⟨fun hgt2 => ?_, fun hle2 => ?_⟩⟩
    · rw [parseV, if_pos (.inl (by omega))]
      exact ⟨none, 0, 0, rfl, rows_none _ _, Below.refl _ _⟩
    · rw [parseV, if_pos (.inr (by omega))]
      exact ⟨none, 0, 0, rfl, rows_none _ _, Below.refl _ _⟩
    have hpv : parseV xs = parseL xs.length [] xs := by rw [parseV, if_neg (by omega)]
    rw [hpv]
    intro g3 hg3
    refine ⟨fun _ _ _ _ _ A n c p i w' => ∃ (pre mid rest : List UInt8) (l : List StepV) (f : Nat), xs = pre ++ (mid ++ rest) ∧ p = (pre.length : Int) ∧ i = ((pre.length + mid.length : Nat) : Int) ∧ (10 : UInt8) ∉ mid ∧ (mid ++ rest).length ≤ f ∧ parseL xs.length [] xs = parseL f l (mid ++ rest) ∧ l.length + rest.count 10 ≤ 2048 ∧
      ∃ hs : List HdS, Rw none w1 w1.heap.size 54 w' (.slice A n c) hs [g3] ∧ Al (IsS w') hs l, fun _ _ _ _ _ _ _ _ _ i _ => (xs.length - i : Int).toNat, ?_, ?_⟩
    · intro w2 f2 b2 lo3 t3
      exact ⟨[], [], xs, [], xs.length, rfl, rfl, rfl, by simp, Nat.le_refl _, rfl, by simp; omega, [], Rw.first (fr_none f2) hg3 t3 (by simp; exact heap_lt t3), Al.nil⟩
    rintro A4 n5 n6 i7 i8 A9 n10 n11 _ _ w3 f3 ⟨pre, mid, rest, l, f, hxs, rfl, rfl, hmid, hf, hp, hcn, hs', r, al⟩
    have hxlen : xs.length = pre.length + (mid.length + rest.length) := by rw [hxs]; simp
    have hn10 : n10 = l.length := by rw [r.own.sl.len, al.1]
    refine ⟨fun hlt => ?_, fun hge => ?_⟩
    · obtain ⟨ch, rest', rfl⟩ : ∃ ch rest', rest = ch :: rest' := by
        cases rest with
        | nil => simp at hxlen; omega
        | cons ch rest' => exact ⟨ch, rest', rfl⟩
      rw [List.length_cons] at hxlen
      have hi : pre.length + mid.length < xs.length := by omega
      have hch : xs[pre.length + mid.length]'hi = ch := by
        have : xs[pre.length + mid.length]? = some ch := by
          rw [hxs, List.getElem?_append_right (by omega), List.getElem?_append_right (by omega)]
          simp
        rw [List.getElem?_eq_getElem hi] at this
        injection this
      refine ⟨_, str_idx xs (pre.length + mid.length) hi _, fun hne => ?_, fun he => ?_⟩
      · have hc10 : ¬ ch = 10 := fun h => hne (by rw [hch, h]; rfl)
        refine ⟨⟨pre, mid ++ [ch], rest', l, f, by rw [hxs]; simp, rfl, by rw [wrap_in (by omega)]; simp; omega, fun hm => ?_, by simpa using hf, by rw [hp]; simp, ?_, hs', r, al⟩, by dsimp only; rw [wrap_in (by omega)]; omega⟩
        · rcases List.mem_append.1 hm with hm | hm
          · exact hmid hm
          · simp only [List.mem_singleton] at hm; exact hc10 hm.symm
        · rw [List.count_cons_of_ne hc10] at hcn; exact hcn
      · have hc10 : ch = 10 := by rw [← hch]; exact UInt8.toNat_inj.1 (by show _ = 10; omega)
        subst hc10
        rw [List.count_cons_self] at hcn
        have hfl := hf
        rw [List.length_append, List.length_cons] at hfl
        refine ⟨_, by rw [hxs]; exact cut_mid_s pre mid (10 :: rest'), ?_⟩
        refine (refLine_c w3 mid (by omega)).mono ?_
        rw [line_same]
        rintro e w4 ⟨A20, n21, n22, rfl, o4, b4⟩
        have f4 := f3.step b4
        refine ⟨_, _, _, _, A20, n21, n22, _, rfl, ok_ret b4 f3, fun g24 hg24 => ⟨fun hbad w5 f5 b5 lo t5 => ?_, fun h0 g25 hg25 w5 f5 b5 lo25 t25 lo24 t24 => ?_⟩⟩
        · rw [hp, parse_step hmid hf, if_neg hbad, wrap_in (by omega), hn10]
          exact ⟨none, 0, 0, rfl, rows_none _ _, fr_below (fr_none f5)⟩
        · have r5 := (r.below b4).on b5 [g25, g24] (by
            simp only [List.mem_cons, List.not_mem_nil, or_false]
            rintro _ (rfl | rfl)
            · exact ⟨lo25, heap_lt t25⟩
            · exact ⟨lo24, heap_lt t24⟩)
          have al5 := al_stt (al_stt al (stT_below b4)) (stT_below b5)
          have new : IsS w5 (((lineV mid).1.1, (lineV mid).1.2.1, (lineV mid).1.2.2.1, (lineV mid).1.2.2.2.1, ⟨A20, n21, n22⟩) : HdS) (lineV mid).1 := ⟨rfl, rfl, rfl, rfl, own_nT (o4.below b5) (by decide)⟩
          have hlh : hs'.length = l.length := al.1
          obtain ⟨w6, A26, n27, n28, hr6, m6, r6, gr6, -⟩ := r5.append2 51 51 _ 56 Tryd.underlying51 infoS rfl (arg_cells [(((lineV mid).1.1, (lineV mid).1.2.1, (lineV mid).1.2.2.1, (lineV mid).1.2.2.2.1, ⟨A20, n21, n22⟩) : HdS)] 1 rfl t25 (by decide) (by simp only [List.mem_singleton]; rintro _ rfl; exact hd_wf (line_rng mid) _)) (by rw [hlh]; simp; omega) (by rw [hlh]; simp; omega)
          refine ⟨w6, A26, n27, n28, hr6, ⟨m6.1, m6.2⟩, ⟨pre ++ (mid ++ [10]), [], rest', l ++ [(lineV mid).1], f - 1, by rw [hxs]; simp, by rw [wrap_in (by omega)]; simp; omega, by rw [wrap_in (by omega)]; simp; omega, by simp, by simp; omega, by rw [hp, parse_step hmid hf, if_pos h0]; rfl, by rw [List.length_append, List.length_singleton]; omega, _, r6.less' (by simp), al_stt (al5.append (Al.one new)) (stT_app r5.own gr6)⟩, by dsimp only; rw [wrap_in (by omega)]; omega⟩
    · have hr0 : rest = [] := List.length_eq_zero_iff.1 (by omega)
      subst hr0
      rw [List.append_nil] at hp hf
      refine ⟨fun hne => ?_, fun he => ?_⟩
      · have hm0 : mid ≠ [] := by rintro rfl; simp at hxlen; omega
        rw [hp, parse_bad hm0 hmid hf, wrap_in (by omega), hn10]
        exact ⟨none, 0, 0, rfl, rows_none _ _, fr_below (fr_none f3)⟩
      · have hm0 : mid = [] := List.length_eq_zero_iff.1 (by omega)
        rw [hp, hm0, parse_nil]
        exact ⟨A9, n10, n11, rfl, ⟨hs', r.own, al⟩, fr_below (fr_none f3)⟩
end Go.Proofs.YtfjenamomipmdaaDoor
