/- OpcodeSizes: the walk. -/
import Derived.Test.YtfjenamomipmdaaDoorOcF
set_option linter.unusedSimpArgs false
set_option linter.unusedVariables false
namespace Go.Proofs.YtfjenamomipmdaaDoor
open Go Go.RowKit Go.Proofs Go.Trc Go.Sx
theorem neq_dart (W : World) (s n k s' n' k' : Int) : (binOp .neq 35 (.agg #[.int .i64 s, .int .i64 n, .int .i64 k]) (.agg #[.int .i64 s', .int .i64 n', .int .i64 k'])).run Tryd.prog W = .ok (.bool (!decide (s = s' ∧ n = n' ∧ k = k'))) W := by
  go_simp
  by_cases h : s = s' <;> by_cases h' : n = n' <;> by_cases h'' : k = k' <;> simp [h, h', h'']
theorem corn_zero {a1 a2 a3 a4 a5 : Int} (h : a3 = 0 ∧ a4 = 0 ∧ a5 = 0) : (cornB a1 a2 a3 a4 a5).length = 5 := by unfold cornB; rw [if_pos h]; rfl
theorem corn_some {a1 a2 a3 a4 a5 : Int} (h : ¬ (a3 = 0 ∧ a4 = 0 ∧ a5 = 0)) : (cornB a1 a2 a3 a4 a5).length = 9 := by unfold cornB; rw [if_neg h]; rfl
theorem nd {p : Prop} [Decidable p] (h : (!decide p) = true) : ¬ p := by simpa using h
theorem textB_len (s : ByteArray) : (textB s).length = s.size + 1 := by simp [textB]
theorem opB_len5 (o : OpV) : (opB o).length = 5 + (restB o).length := by simp [opB, idB]; omega
set_option maxHeartbeats 2000000 in
theorem opcodeSizes_wk {w : World} {ok : Nat → Prop} {A : Option Addr} {n c : Nat} {l : List OpV} (h : Sl w ok (.slice A n c) l) :
    Calls Tryd.prog 4 #[.agg #[.slice A n c]] w (Ret (.bool true) w) := by
  refine opcodeSizes_sx _ (fun _ => False) w A n c ?_
  intro g3 hg3 w1 f1 b1 lo3 t3
  refine (shown10_c w1).mono ?_
  rintro e w2 ⟨rfl, b2⟩
  have f2 := f1.step b2
  refine ⟨_, rfl, ok_ret b2 f1, ?_⟩
  refine (few10_c (h.below (fr_below f2))).mono ?_
  rintro e w3 ⟨A5, n6, c7, rfl, o3, b3⟩
  have e3 := (b3.block g3 (Nat.lt_of_lt_of_le (heap_lt t3) b2.size)).trans ((b2.block g3 (heap_lt t3)).trans t3)
  refine ⟨A5, n6, c7, rfl, ok_ret b3 f2, fun w4 f4 q4 => ?_⟩
  have o4 := past_own o3 q4 (own_ne' o3 e3 (by decide))
  have hL := few_len l
  generalize fewV l = L at o4 hL
  have hn := o4.sl.len
  refine (opcodePut_c (Sl.nil0 w4 (fun _ => True)) (by omega) o4.sl).mono ?_
  rintro e w5 ⟨A8, n9, c10, rfl, o5, b5⟩
  have f5 := f4.step b5
  have h9 := o5.sl.len
  refine ⟨A8, n9, c10, _, rfl, ok_ret b5 f4, fun hne => ⟨fun _ => ret_leaf f5 ?_, fun hb => by cases hb⟩, fun he => ?_⟩
  · have hm : mayEditV L ≠ 0 := fun hm => hne (by unfold putV; rw [if_pos hm])
    rw [h9]; unfold putV; rw [if_neg hm]; rfl
  have hm : mayEditV L = 0 := by
    unfold putV at he
    split at he
    · assumption
    · exact he
  obtain ⟨hlen, hgood⟩ := may_good hm
  have hpl : n9 = 1 + (L.flatMap opB).length := by rw [h9]; unfold putV; rw [if_pos hm]; simp [editB]; omega
  have o5' := o4.below b5
  refine ⟨fun i12 i13 w' => ∃ k : Nat, i13 = (k : Int) ∧ k ≤ L.length ∧ i12 = 1 + (((L.take k).flatMap opB).length : Int) ∧ Sl w' (fun _ => True) (.slice A5 n6 c7) L, fun _ i _ => (L.length - i : Int).toNat, ⟨0, rfl, Nat.zero_le _, rfl, o5'.sl.any⟩, ?_⟩
  rintro _ _ w6 f6 ⟨k, rfl, hk, rfl, o6⟩
  have hfl := flat_op_len (l := L.take k) fun x hx => hgood x (List.mem_of_mem_take hx)
  have htl : (L.take k).length ≤ 6 := by rw [List.length_take]; omega
  refine ⟨fun hlt => ?_, fun hge => ⟨fun _ => ret_leaf f6 ?_, fun hb => by cases hb⟩⟩
  · have hlt' : k < L.length := by omega
    obtain ⟨b, o, hA, _, _, _, hc⟩ := Sl.op o6 k hlt'
    have hg := hgood _ (List.getElem_mem hlt')
    generalize ho1 : L[k] = o1 at hc hg
    refine ⟨by omega, hlt, b, o, hA, _, _, _, _, _, _, _, _, _, _, _, _, _, _, _, _, _, _, _, _, hc, ?_⟩
    intro g36 hg36
    have hs7 : o1.kd = 7 → o1.tx.size ≤ 16 := fun h7 => label_size (hg.k7 h7)
    refine ⟨fun h3 w7 f7 b7 _ _ => ⟨_, neq_dart .., fun hx => ⟨_, neq_dart .., fun hy => ?_, fun hy => ?_⟩, fun hx => ⟨_, neq_dart .., fun hy => ?_, fun hy => ?_⟩⟩, fun h3 => ⟨fun h5 w7 f7 b7 _ _ => ?_, fun h5 => ⟨fun h6 w7 f7 b7 _ _ => ?_, fun h6 => ⟨fun h7 w7 f7 b7 _ _ => ?_, fun h7 => ⟨fun h8 w7 f7 b7 _ _ => ?_, fun h8 w7 f7 b7 _ _ => ?_⟩⟩⟩⟩⟩
    · skip
      -- the round's end
      refine ⟨⟨k + 1, by rw [wrap_in (by omega)]; rfl, hlt', ?_, o6.below b7⟩, by dsimp only; rw [wrap_in (x := (k : Int) + 1) (by omega)]; omega⟩
      rw [take_op _ k hlt', List.length_append, ho1, opB_len5]
      have e5 : (restB o1).length = 18 := by unfold restB; rw [if_pos h3, List.length_append, corn_some (nd hx), corn_some (nd hy)]
      rw [e5]
      simp (disch := omega) only [wrap_in]
      omega
    · skip
      -- the round's end
      refine ⟨⟨k + 1, by rw [wrap_in (by omega)]; rfl, hlt', ?_, o6.below b7⟩, by dsimp only; rw [wrap_in (x := (k : Int) + 1) (by omega)]; omega⟩
      rw [take_op _ k hlt', List.length_append, ho1, opB_len5]
      have e5 : (restB o1).length = 14 := by unfold restB; rw [if_pos h3, List.length_append, corn_some (nd hx), corn_zero (by simpa using hy)]
      rw [e5]
      simp (disch := omega) only [wrap_in]
      omega
    · skip
      -- the round's end
      refine ⟨⟨k + 1, by rw [wrap_in (by omega)]; rfl, hlt', ?_, o6.below b7⟩, by dsimp only; rw [wrap_in (x := (k : Int) + 1) (by omega)]; omega⟩
      rw [take_op _ k hlt', List.length_append, ho1, opB_len5]
      have e5 : (restB o1).length = 14 := by unfold restB; rw [if_pos h3, List.length_append, corn_zero (by simpa using hx), corn_some (nd hy)]
      rw [e5]
      simp (disch := omega) only [wrap_in]
      omega
    · skip
      -- the round's end
      refine ⟨⟨k + 1, by rw [wrap_in (by omega)]; rfl, hlt', ?_, o6.below b7⟩, by dsimp only; rw [wrap_in (x := (k : Int) + 1) (by omega)]; omega⟩
      rw [take_op _ k hlt', List.length_append, ho1, opB_len5]
      have e5 : (restB o1).length = 10 := by unfold restB; rw [if_pos h3, List.length_append, corn_zero (by simpa using hx), corn_zero (by simpa using hy)]
      rw [e5]
      simp (disch := omega) only [wrap_in]
      omega
    · skip
      -- the round's end
      refine ⟨⟨k + 1, by rw [wrap_in (by omega)]; rfl, hlt', ?_, o6.below b7⟩, by dsimp only; rw [wrap_in (x := (k : Int) + 1) (by omega)]; omega⟩
      rw [take_op _ k hlt', List.length_append, ho1, opB_len5]
      have e5 : (restB o1).length = 9 := by unfold restB; rw [if_neg h3, if_pos h5]; rfl
      rw [e5]
      simp (disch := omega) only [wrap_in]
      omega
    · skip
      -- the round's end
      refine ⟨⟨k + 1, by rw [wrap_in (by omega)]; rfl, hlt', ?_, o6.below b7⟩, by dsimp only; rw [wrap_in (x := (k : Int) + 1) (by omega)]; omega⟩
      rw [take_op _ k hlt', List.length_append, ho1, opB_len5]
      have e5 : (restB o1).length = 4 := by unfold restB; rw [if_neg h3, if_neg h5, if_pos h6]; rfl
      rw [e5]
      simp (disch := omega) only [wrap_in]
      omega
    · have hs := hs7 h7
      -- the round's end
      refine ⟨⟨k + 1, by rw [wrap_in (by omega)]; rfl, hlt', ?_, o6.below b7⟩, by dsimp only; rw [wrap_in (x := (k : Int) + 1) (by omega)]; omega⟩
      rw [take_op _ k hlt', List.length_append, ho1, opB_len5]
      have e5 : (restB o1).length = 2 + o1.tx.size := by unfold restB; rw [if_neg h3, if_neg h5, if_neg h6, if_pos h7, List.length_cons, textB_len]; omega
      rw [e5]
      simp (disch := omega) only [wrap_in]
      omega
    · skip
      -- the round's end
      refine ⟨⟨k + 1, by rw [wrap_in (by omega)]; rfl, hlt', ?_, o6.below b7⟩, by dsimp only; rw [wrap_in (x := (k : Int) + 1) (by omega)]; omega⟩
      rw [take_op _ k hlt', List.length_append, ho1, opB_len5]
      have e5 : (restB o1).length = 9 := by unfold restB; rw [if_neg h3, if_neg h5, if_neg h6, if_neg h7, if_pos h8]; rfl
      rw [e5]
      simp (disch := omega) only [wrap_in]
      omega
    · skip
      -- the round's end
      refine ⟨⟨k + 1, by rw [wrap_in (by omega)]; rfl, hlt', ?_, o6.below b7⟩, by dsimp only; rw [wrap_in (x := (k : Int) + 1) (by omega)]; omega⟩
      rw [take_op _ k hlt', List.length_append, ho1, opB_len5]
      have e5 : (restB o1).length = 0 := by unfold restB; rw [if_neg h3, if_neg h5, if_neg h6, if_neg h7, if_neg h8]; rfl
      rw [e5]
      simp (disch := omega) only [wrap_in]
      omega
  · have : k = L.length := by omega
    subst this
    rw [List.take_length, hpl]; simp
theorem opcodeSizes_walk (w : World) (v1 : Value) (l : List OpV) (h1 : Rep.K w (fun b => b < w.heap.size) l v1.cells.toList) (z1 : ∃ cs : Array Value, v1 = .agg cs) :
    Calls Tryd.prog 4 #[v1] w fun e w' => e = .returned (.bool true) ∧ Below w.heap.size w w' := by
  obtain ⟨A3, n3, c3, rfl, s⟩ := edit_of h1 z1
  exact opcodeSizes_wk s
end Go.Proofs.YtfjenamomipmdaaDoor
