/- Script: the reference's digit and line. -/
import Derived.Test.YtfjenamomipmdaaDoorScN
import Derived.Test.YtfjenamomipmdaaDoorSpC
set_option linter.unusedSimpArgs false
set_option linter.unusedVariables false
namespace Go.Proofs.YtfjenamomipmdaaDoor
open Go Go.RowKit Go.Proofs Go.Trc Go.Sx
/-- What a digit is; 0, if it is none. -/
def hexV (c : UInt8) : Nat := ((List.range 16).find? fun i => decide (dg i = c)).getD 0
theorem hexV_lt (c : UInt8) : hexV c < 16 := by
  unfold hexV
  cases h : (List.range 16).find? fun i => decide (dg i = c) with
  | none => decide
  | some i => exact List.mem_range.1 (List.mem_of_find?_eq_some h)
theorem hexV_at {c : UInt8} {k : Nat} (hk : k < 16) (h : ∀ j, j < k → dg j ≠ c) (he : dg k = c) : hexV c = k := by
  have : (List.range 16).find? (fun i => decide (dg i = c)) = some k := by
    rw [List.find?_range_eq_some]
    exact ⟨by simp [he], List.mem_range.2 hk, fun j hj => by simpa using h j hj⟩
  rw [hexV, this]; rfl
theorem hexV_none {c : UInt8} (h : ∀ j, j < 16 → dg j ≠ c) : hexV c = 0 := by
  have : (List.range 16).find? (fun i => decide (dg i = c)) = none := by
    rw [List.find?_eq_none]
    intro x hx
    simpa using h x (List.mem_range.1 hx)
  rw [hexV, this]; rfl
theorem refDigit_c (w : World) (c : UInt8) : Calls Tryd.prog 86 #[.int .u8 (c.toNat : Int)] w (Ret (.int .u8 ((hexV c : Nat) : Int)) w) := by
  refine refDigit_sx _ (fun _ => False) w _ ⟨fun _ i w' => ∃ k : Nat, i = (k : Int) ∧ k ≤ 16 ∧ ∀ j, j < k → dg j ≠ c, fun _ i _ => (16 - i : Int).toNat, ⟨0, rfl, by decide, fun j hj => by omega⟩, ?_⟩
  rintro _ _ w1 f1 ⟨k, rfl, hk, hz⟩
  refine ⟨fun hlt => ⟨_, hex_at k (by omega) _, fun he => ?_, fun hne => ⟨⟨k + 1, by rw [wrap_in (by omega)]; rfl, by omega, fun j hj => ?_⟩, by dsimp only; rw [wrap_in (by omega)]; omega⟩⟩, fun hge => ?_⟩
  · have he' : dg k = c := UInt8.toNat_inj.1 (by omega)
    have hv := hexV_at (by omega) hz he'
    exact ret_leaf f1 (by rw [hv]; simp only [IntKind.wrap, IntKind.bits, IntKind.signed]; simp; omega)
  · rcases Nat.lt_or_ge j k with h | h
    · exact hz j h
    · obtain rfl : j = k := by omega
      intro e; exact hne (by rw [e])
  · obtain rfl : k = 16 := by omega
    exact ret_leaf f1 (by rw [hexV_none hz]; rfl)
def pairB (a b : UInt8) : UInt8 := u8 (16 * (hexV a : Int) + (hexV b : Int))
def unhex : List UInt8 → List UInt8
  | a :: b :: r => pairB a b :: unhex r
  | _ => []
open Classical in
noncomputable def refLineV (xs : List UInt8) : StepV × Int := if hexB (unhex xs) = xs then takeS (unhex xs) else (zeroS, 240)
theorem unhex_next : ∀ (k : Nat) (xs : List UInt8) (h0 : 2 * k < xs.length) (h1 : 2 * k + 1 < xs.length), unhex (xs.take (2 * (k + 1))) = unhex (xs.take (2 * k)) ++ [pairB xs[2 * k] xs[2 * k + 1]]
  | 0, a :: b :: r, _, _ => rfl
  | k + 1, a :: b :: r, h0, h1 => by
    have ih := unhex_next k r (by simp at h0; omega) (by simp at h1; omega)
    have e1 : 2 * (k + 1 + 1) = 2 * (k + 1) + 1 + 1 := by omega
    have e2 : 2 * (k + 1) = 2 * k + 1 + 1 := by omega
    rw [e1, List.take_succ_cons, List.take_succ_cons, unhex, ih]
    simp only [e2, List.take_succ_cons, unhex, List.cons_append, List.getElem_cons_succ]
  | 0, [_], _, h1 => by simp at h1
  | _ + 1, [_], _, h1 => by simp at h1
theorem unhex_end : ∀ (k : Nat) (xs : List UInt8), xs.length ≤ 2 * k + 1 → unhex (xs.take (2 * k)) = unhex xs
  | 0, [], _ => rfl
  | 0, [_], _ => rfl
  | 0, _ :: _ :: _, h => by simp at h
  | k + 1, [], _ => by simp
  | k + 1, [_], _ => by
    have e2 : 2 * (k + 1) = 2 * k + 1 + 1 := by omega
    rw [e2]; rfl
  | k + 1, a :: b :: r, h => by
    have e2 : 2 * (k + 1) = 2 * k + 1 + 1 := by omega
    rw [e2, List.take_succ_cons, List.take_succ_cons, unhex, unhex, unhex_end k r (by simp at h; omega)]
theorem unhex_len : ∀ xs : List UInt8, (unhex xs).length ≤ xs.length
  | [] => by simp [unhex]
  | [_] => by simp [unhex]
  | a :: b :: r => by have := unhex_len r; rw [unhex, List.length_cons, List.length_cons, List.length_cons]; omega
theorem str_idx {w : World} (xs : List UInt8) (j : Nat) (h : j < xs.length) (k : IntKind) : (Instr.index 9 (.string ⟨xs.toArray⟩) (.int k (j : Int))).run Tryd.prog w = .ok (.int .u8 (xs[j].toNat : Int)) w := by
  have hs : j < (⟨xs.toArray⟩ : ByteArray).size := by show j < xs.toArray.size; simpa using h
  rw [run_index_str (P := Tryd.prog) 9 Tryd.underlying9 _ j hs k]
  rfl
theorem pair_wrap (a b : UInt8) : IntKind.u8.wrap (IntKind.u8.wrap ((16 : Int) * ((hexV a : Nat) : Int)) + ((hexV b : Nat) : Int)) = ((pairB a b).toNat : Int) := by
  have ha := hexV_lt a
  have e : IntKind.u8.wrap ((16 : Int) * ((hexV a : Nat) : Int)) = 16 * ((hexV a : Nat) : Int) := by
    simp only [IntKind.wrap, IntKind.bits, IntKind.signed]; simp; omega
  rw [e, u8_wrap]; rfl
set_option maxHeartbeats 2000000 in
theorem refLine_c (w : World) (xs : List UInt8) (hl : xs.length ≤ 70000) : Calls Tryd.prog 61 #[.string ⟨xs.toArray⟩] w (TakeSE w (refLineV xs)) := by
  have hs : (⟨xs.toArray⟩ : ByteArray).size = xs.length := by show xs.toArray.size = _; simp
  refine refLine_sx _ (fun b => some b = none) w _ ?_
  rw [hs]
  intro g1 hg1 g2 hg2
  refine ⟨fun A n c i w' => ∃ k : Nat, i = ((2 * k : Nat) : Int) ∧ 2 * k ≤ xs.length ∧ Rw none w w.heap.size 5 w' (.slice A n c) (unhex (xs.take (2 * k))) [g2, g1], fun _ _ _ i _ => (xs.length - i : Int).toNat, ?_, ?_⟩
  · intro w1 f1 b1 lo2 t2 lo1 t1
    exact ⟨0, rfl, Nat.zero_le _, Rw.first (fr_none f1) hg2 t2 (by
      simp only [List.mem_cons, List.not_mem_nil, or_false]
      rintro _ (rfl | rfl)
      · exact heap_lt t2
      · exact heap_lt t1)⟩
  rintro A3 n4 n5 _ w2 f2 ⟨k, rfl, hk, r⟩
  rw [wrap_in (by omega)]
  refine ⟨fun hlt => ?_, fun hge => ?_⟩
  · have hx0 : 2 * k < xs.length := by omega
    have hx1 : 2 * k + 1 < xs.length := by omega
    intro w3 f3 b3
    have r3 := r.below b3
    refine ⟨_, fun w' _ => str_idx xs (2 * k) hx0 _, ?_, ?_⟩
    · refine (refDigit_c w3 xs[2 * k]).mono ?_
      rintro e w4 ⟨rfl, b4⟩
      have f4 := f3.step b4
      refine ⟨_, rfl, ok_ret b4 f3, _, by rw [show ((2 * k : Nat) : Int) + 1 = ((2 * k + 1 : Nat) : Int) by omega]; exact str_idx xs (2 * k + 1) hx1 _, ?_⟩
      -- the pair goes behind the others
      refine (refDigit_c _ xs[2 * k + 1]).mono ?_
      rintro e w5 ⟨rfl, b5⟩
      have f5 := f4.step b5
      refine ⟨_, rfl, ok_ret b5 f4, fun g12 hg12 w6 f6 b6 lo12 t12 => ?_⟩
      rw [pair_wrap] at t12
      have r6 := ((r3.below b4).below b5).on b6 [g12] (by simp only [List.mem_singleton]; rintro _ rfl; exact ⟨lo12, heap_lt t12⟩)
      have hul := unhex_len (xs.take (2 * k))
      rw [List.length_take] at hul
      obtain ⟨w7, A7, n7, c7, hr7, m7, r7⟩ := r6.append 22 22 (.int .u8 0) 1 Tryd.underlying22 infoB1 rfl (arg_cells [pairB xs[2 * k] xs[2 * k + 1]] 1 rfl t12 (by decide) (fun _ _ => trivial)) (by simp only [List.length_singleton]; omega) (by simp only [List.length_singleton]; omega)
      refine ⟨w7, A7, n7, c7, hr7, m7, ⟨k + 1, by rw [wrap_in (by omega)]; omega, by omega, ?_⟩, by dsimp only; rw [wrap_in (by omega)]; omega⟩
      rw [unhex_next k xs hx0 hx1]
      exact r7.less' (by intro g hg; simp at hg ⊢; omega)
    · refine ⟨_, fun w' _ => by rw [show ((2 * k : Nat) : Int) + 1 = ((2 * k + 1 : Nat) : Int) by omega]; exact str_idx xs (2 * k + 1) hx1 _, ?_⟩
      refine (refDigit_c w3 xs[2 * k]).mono ?_
      rintro e w4 ⟨rfl, b4⟩
      have f4 := f3.step b4
      refine ⟨_, rfl, ok_ret b4 f3, ?_⟩
      -- the pair goes behind the others
      refine (refDigit_c _ xs[2 * k + 1]).mono ?_
      rintro e w5 ⟨rfl, b5⟩
      have f5 := f4.step b5
      refine ⟨_, rfl, ok_ret b5 f4, fun g12 hg12 w6 f6 b6 lo12 t12 => ?_⟩
      rw [pair_wrap] at t12
      have r6 := ((r3.below b4).below b5).on b6 [g12] (by simp only [List.mem_singleton]; rintro _ rfl; exact ⟨lo12, heap_lt t12⟩)
      have hul := unhex_len (xs.take (2 * k))
      rw [List.length_take] at hul
      obtain ⟨w7, A7, n7, c7, hr7, m7, r7⟩ := r6.append 22 22 (.int .u8 0) 1 Tryd.underlying22 infoB1 rfl (arg_cells [pairB xs[2 * k] xs[2 * k + 1]] 1 rfl t12 (by decide) (fun _ _ => trivial)) (by simp only [List.length_singleton]; omega) (by simp only [List.length_singleton]; omega)
      refine ⟨w7, A7, n7, c7, hr7, m7, ⟨k + 1, by rw [wrap_in (by omega)]; omega, by omega, ?_⟩, by dsimp only; rw [wrap_in (by omega)]; omega⟩
      rw [unhex_next k xs hx0 hx1]
      exact r7.less' (by intro g hg; simp at hg ⊢; omega)
  · have he := unhex_end k xs (by omega)
    rw [he] at r
    have hul := unhex_len xs
    have hnl := r.own.sl.len
    have g1lt := r.names g1 (by simp)
    refine (digits_c r.own.sl (by omega)).mono ?_
    rintro e w3 ⟨rfl, b3⟩
    have f3 := f2.step b3
    refine ⟨_, rfl, ok_ret b3 f2, fun hne w4 f4 q4 => ?_, fun heq => ?_⟩
    · have hn : ¬ hexB (unhex xs) = xs := fun h => by rw [h] at hne; simp at hne
      rw [refLineV, if_neg hn]
      exact ⟨none, 0, 0, rfl, own_nil0 _ _ _, fr_below (fr_none f4)⟩
    · have hy : hexB (unhex xs) = xs := by
        have := bytes_toList_inj.1 (beq_iff_eq.1 heq)
        injection this with this
        simpa using congrArg Array.toList this
      refine (refScTake_c (r.own.below b3).sl (by omega)).mono ?_
      rintro e w4 ⟨A12, n13, n14, rfl, o4, b4⟩
      refine ⟨_, _, _, _, A12, n13, n14, _, rfl, ok_ret b4 f3, fun w5 f5 q5 => ?_⟩
      rw [refLineV, if_pos hy]
      exact ⟨A12, n13, n14, rfl, (own_past o4 q5 (by simp only [List.mem_singleton]; rintro _ rfl; exact Nat.lt_of_lt_of_le g1lt b3.size)).base' fun j hj => Nat.le_trans (fr_none f3).size (Own.lt o4 j hj).1, fr_below (fr_none f5)⟩
end Go.Proofs.YtfjenamomipmdaaDoor
