/- Opcode: the document's reader takes an operation, an edit. -/
import Derived.Test.YtfjenamomipmdaaDoorOcQ
set_option linter.unusedSimpArgs false
set_option linter.unusedVariables false
namespace Go.Proofs.YtfjenamomipmdaaDoor
open Go Go.RowKit Go.Proofs Go.Trc Go.Sx
set_option maxHeartbeats 4000000 in
theorem qop_c {w : World} {B g : Nat} {s : RS} (h : Rdr w B g TQ s) : Calls Tryd.prog 49 #[.pointer (some ⟨g, 0, none⟩)] w (TR w B g TQ encO (opQ s)) := by
  have lg := h.lt
  have hB := h.1
  refine qop_sx _ (fun b => b ∈ [g]) w _ ?_
  intro g1 hg1 w1 f1 b1 lo1 t1
  refine (qone_c (h.below b1)).mono ?_
  rintro e w2 ⟨rfl, r2, q2⟩
  refine ⟨_, rfl, tr_ok f1 q2 (by simp; omega), fun g3 hg3 w3 f3 b3 lo3 t3 => ?_⟩
  have e0 : opQ s = opQK (oneV s).1 (idR (oneV s).2).1 (idR (oneV s).2).2 := rfl
  rw [e0]
  generalize oneV s = K at r2 ⊢
  refine (qid_c (r2.below b3)).mono ?_
  rintro e w4 ⟨rfl, r4, q4⟩
  have f4 := (tr_ok (G := []) f3 q4 (by simp)).1
  refine ⟨_, _, rfl, tr_ok f3 q4 (by simp; omega), ?_⟩
  generalize idR K.2 = I at r4 ⊢
  refine ⟨fun h3 w5 f5 q5 => ?_, fun h3 => ⟨fun h5 w5 f5 q5 => ?_, fun h5 => ⟨fun h6 w5 f5 q5 => ?_, fun h6 => ⟨fun h7 w5 f5 q5 => ?_, fun h7 => ⟨fun h8 w5 f5 q5 => ?_, fun h8 w5 f5 q5 => ?_⟩⟩⟩⟩⟩
  · have h3 : K.1 = 3 := h3
    refine (qcorner_c (r4.past q5 (by simp; omega))).mono ?_
    rintro e w6 ⟨rfl, r6, q6⟩
    refine ⟨_, _, _, _, _, rfl, tr_ok f5 q6 (by simp; omega), fun w7 f7 q7 => ?_⟩
    refine (qcorner_c (r6.past q7 (by simp; omega))).mono ?_
    rintro e w8 ⟨rfl, r8, q8⟩
    refine ⟨_, _, _, _, _, rfl, tr_ok f7 q8 (by simp; omega), fun w9 f9 q9 => ?_⟩
    unfold opQK; rw [if_pos h3]
    exact ⟨rfl, r8.past q9 (by simp; omega), f9⟩
  · have h3 : ¬ K.1 = 3 := h3
    have h5 : K.1 = 5 := h5
    refine (qid_c (r4.past q5 (by simp; omega))).mono ?_
    rintro e w6 ⟨rfl, r6, q6⟩
    refine ⟨_, _, rfl, tr_ok f5 q6 (by simp; omega), fun w7 f7 q7 => ?_⟩
    refine (qid_c (r6.past q7 (by simp; omega))).mono ?_
    rintro e w8 ⟨rfl, r8, q8⟩
    refine ⟨_, _, rfl, tr_ok f7 q8 (by simp; omega), fun w9 f9 q9 => ?_⟩
    refine (qone_c (r8.past q9 (by simp; omega))).mono ?_
    rintro e w10 ⟨rfl, r10, q10⟩
    refine ⟨_, rfl, tr_ok f9 q10 (by simp; omega), fun w11 f11 q11 => ?_⟩
    unfold opQK; rw [if_neg h3, if_pos h5]
    exact ⟨rfl, r10.past q11 (by simp; omega), f11⟩
  · have h3 : ¬ K.1 = 3 := h3
    have h5 : ¬ K.1 = 5 := h5
    have h6 : K.1 = 6 := h6
    refine (qid_c (r4.past q5 (by simp; omega))).mono ?_
    rintro e w6 ⟨rfl, r6, q6⟩
    refine ⟨_, _, rfl, tr_ok f5 q6 (by simp; omega), fun w7 f7 q7 => ?_⟩
    unfold opQK; rw [if_neg h3, if_neg h5, if_pos h6]
    exact ⟨rfl, r6.past q7 (by simp; omega), f7⟩
  · have h3 : ¬ K.1 = 3 := h3
    have h5 : ¬ K.1 = 5 := h5
    have h6 : ¬ K.1 = 6 := h6
    have h7 : K.1 = 7 := h7
    refine (qone_c (r4.past q5 (by simp; omega))).mono ?_
    rintro e w6 ⟨rfl, r6, q6⟩
    refine ⟨_, rfl, tr_ok f5 q6 (by simp; omega), g, 0, rfl, fun w7 f7 q7 => ?_⟩
    unfold opQK; rw [if_neg h3, if_neg h5, if_neg h6, if_pos h7]
    generalize oneV I.2 = N at r6 ⊢
    have r7 := r6.past q7 (by simp; omega)
    obtain ⟨-, A0, n0, c0, hg0, -, -⟩ := id r7
    refine ⟨N.2.2, cells_row hg0 rfl, fun hb => ?_, fun hb => ?_⟩
    · skip
      -- the store of bad, the call, both stores
      obtain ⟨w8, hr8, f8, r8⟩ := rdr_bad r7 true
      refine ⟨g, 0, rfl, w8, hr8, tr_ok f7 f8 (by simp; omega), g, 0, rfl, ?_⟩
      have f8' := (tr_ok (G := []) f7 f8 (by simp)).1
      obtain ⟨hB8, A14, n15, c16, hg8, hn8, hs8⟩ := r8
      have hs8 : Sl w8 (fun b => b < B) (.slice A14 n15 c16) N.2.1 := hs8
      have ht := textV_len N.2.1
      refine ⟨A14, n15, c16, cells_row hg8 rfl, (ref08TakeText_c hs8 hn8).mono ?_⟩
      rintro e w9 ⟨A18, n19, c20, rfl, s9, b9⟩
      have f9 := f8'.step b9
      refine ⟨_, A18, n19, c20, _, rfl, ok_ret b9 f8', g, 0, rfl, fun w10 f10 q10 => ?_⟩
      have hg9 := (b9.block g (heap_lt hg8)).trans hg8
      have hg10 := (q10.block g (heap_lt hg9) (by simp; omega)).trans hg9
      have s10 := (s9.below b9).past q10 (by simp; omega)
      obtain ⟨w11, hr11, hg11, f11, w12, hr12, f12, r12⟩ := rdr_store hB hg10 s10 (by have := s10.len; have := ht; have := hs8.len; omega) true
      refine ⟨w11, hr11, tr_ok f10 f11 (by simp; omega), g, 0, rfl, true, cells_row hg11 rfl, fun _ => ⟨g, 0, rfl, w12, hr12, tr_ok (fr_trans f10 f11) f12 (by simp; omega), fun w13 f13 q13 => ⟨rfl, ?_, f13⟩⟩, fun hf => by cases hf⟩
      show Rdr w13 B g _ ((textV N.2.1).2.1, (N.2.2 || decide (1 < N.1)) || !(textV N.2.1).2.2)
      rw [hb, Bool.true_or, Bool.true_or]; exact r12.past q13 (by simp; omega)
    · skip
      -- the store of bad, the call, both stores
      obtain ⟨w8, hr8, f8, r8⟩ := rdr_bad r7 (decide (1 < N.1))
      refine ⟨g, 0, rfl, w8, hr8, tr_ok f7 f8 (by simp; omega), g, 0, rfl, ?_⟩
      have f8' := (tr_ok (G := []) f7 f8 (by simp)).1
      obtain ⟨hB8, A14, n15, c16, hg8, hn8, hs8⟩ := r8
      have hs8 : Sl w8 (fun b => b < B) (.slice A14 n15 c16) N.2.1 := hs8
      have ht := textV_len N.2.1
      refine ⟨A14, n15, c16, cells_row hg8 rfl, (ref08TakeText_c hs8 hn8).mono ?_⟩
      rintro e w9 ⟨A18, n19, c20, rfl, s9, b9⟩
      have f9 := f8'.step b9
      refine ⟨_, A18, n19, c20, _, rfl, ok_ret b9 f8', g, 0, rfl, fun w10 f10 q10 => ?_⟩
      have hg9 := (b9.block g (heap_lt hg8)).trans hg8
      have hg10 := (q10.block g (heap_lt hg9) (by simp; omega)).trans hg9
      have s10 := (s9.below b9).past q10 (by simp; omega)
      cases hb8 : ((decide (1 < N.1)) : Bool) with
      | true =>
        obtain ⟨w11, hr11, hg11, f11, w12, hr12, f12, r12⟩ := rdr_store hB hg10 s10 (by have := s10.len; have := ht; have := hs8.len; omega) true
        refine ⟨w11, hr11, tr_ok f10 f11 (by simp; omega), g, 0, rfl, (decide (1 < N.1)), cells_row hg11 rfl, fun _ => ⟨g, 0, rfl, w12, hr12, tr_ok (fr_trans f10 f11) f12 (by simp; omega), fun w13 f13 q13 => ⟨rfl, ?_, f13⟩⟩, fun hf => by rw [hb8] at hf; cases hf⟩
        show Rdr w13 B g _ ((textV N.2.1).2.1, (N.2.2 || decide (1 < N.1)) || !(textV N.2.1).2.2)
        rw [hb, Bool.false_or, hb8]; exact r12.past q13 (by simp; omega)
      | false =>
        obtain ⟨w11, hr11, hg11, f11, w12, hr12, f12, r12⟩ := rdr_store hB hg10 s10 (by have := s10.len; have := ht; have := hs8.len; omega) (!(textV N.2.1).2.2)
        refine ⟨w11, hr11, tr_ok f10 f11 (by simp; omega), g, 0, rfl, (decide (1 < N.1)), cells_row hg11 rfl, (fun hf => by rw [hb8] at hf; cases hf), fun _ => ⟨g, 0, rfl, w12, hr12, tr_ok (fr_trans f10 f11) f12 (by simp; omega), fun w13 f13 q13 => ⟨rfl, ?_, f13⟩⟩⟩
        show Rdr w13 B g _ ((textV N.2.1).2.1, (N.2.2 || decide (1 < N.1)) || !(textV N.2.1).2.2)
        rw [hb, Bool.false_or, hb8]; exact r12.past q13 (by simp; omega)
  · have h3 : ¬ K.1 = 3 := h3
    have h5 : ¬ K.1 = 5 := h5
    have h6 : ¬ K.1 = 6 := h6
    have h7 : ¬ K.1 = 7 := h7
    have h8 : K.1 = 8 := h8
    refine (qone_c (r4.past q5 (by simp; omega))).mono ?_
    rintro e w6 ⟨rfl, r6, q6⟩
    refine ⟨_, rfl, tr_ok f5 q6 (by simp; omega), g, 0, rfl, fun w7 f7 q7 => ?_⟩
    unfold opQK; rw [if_neg h3, if_neg h5, if_neg h6, if_neg h7, if_pos h8]
    generalize oneV I.2 = N at r6 ⊢
    have r7 := r6.past q7 (by simp; omega)
    obtain ⟨-, A0, n0, c0, hg0, -, -⟩ := id r7
    refine ⟨N.2.2, cells_row hg0 rfl, fun hb => ?_, fun hb => ?_⟩
    · skip
      -- the store of bad, the call, both stores
      obtain ⟨w8, hr8, f8, r8⟩ := rdr_bad r7 true
      refine ⟨g, 0, rfl, w8, hr8, tr_ok f7 f8 (by simp; omega), g, 0, rfl, ?_⟩
      have f8' := (tr_ok (G := []) f7 f8 (by simp)).1
      obtain ⟨hB8, A14, n15, c16, hg8, hn8, hs8⟩ := r8
      have hs8 : Sl w8 (fun b => b < B) (.slice A14 n15 c16) N.2.1 := hs8
      have ht := numV_len N.2.1
      refine ⟨A14, n15, c16, cells_row hg8 rfl, (ref08TakeNum_c hs8).mono ?_⟩
      rintro e w9 ⟨A18, n19, c20, rfl, s9, b9⟩
      have f9 := f8'.step b9
      refine ⟨_, A18, n19, c20, _, rfl, ok_ret b9 f8', g, 0, rfl, fun w10 f10 q10 => ?_⟩
      have hg9 := (b9.block g (heap_lt hg8)).trans hg8
      have hg10 := (q10.block g (heap_lt hg9) (by simp; omega)).trans hg9
      have s10 := (s9.below b9).past q10 (by simp; omega)
      obtain ⟨w11, hr11, hg11, f11, w12, hr12, f12, r12⟩ := rdr_store hB hg10 s10 (by have := s10.len; have := ht; have := hs8.len; omega) true
      refine ⟨w11, hr11, tr_ok f10 f11 (by simp; omega), g, 0, rfl, true, cells_row hg11 rfl, fun _ => ⟨g, 0, rfl, w12, hr12, tr_ok (fr_trans f10 f11) f12 (by simp; omega), fun w13 f13 q13 => ⟨rfl, ?_, f13⟩⟩, fun hf => by cases hf⟩
      show Rdr w13 B g _ ((numV N.2.1).2.1, (N.2.2 || decide (1 < N.1)) || !(numV N.2.1).2.2)
      rw [hb, Bool.true_or, Bool.true_or]; exact r12.past q13 (by simp; omega)
    · skip
      -- the store of bad, the call, both stores
      obtain ⟨w8, hr8, f8, r8⟩ := rdr_bad r7 (decide (1 < N.1))
      refine ⟨g, 0, rfl, w8, hr8, tr_ok f7 f8 (by simp; omega), g, 0, rfl, ?_⟩
      have f8' := (tr_ok (G := []) f7 f8 (by simp)).1
      obtain ⟨hB8, A14, n15, c16, hg8, hn8, hs8⟩ := r8
      have hs8 : Sl w8 (fun b => b < B) (.slice A14 n15 c16) N.2.1 := hs8
      have ht := numV_len N.2.1
      refine ⟨A14, n15, c16, cells_row hg8 rfl, (ref08TakeNum_c hs8).mono ?_⟩
      rintro e w9 ⟨A18, n19, c20, rfl, s9, b9⟩
      have f9 := f8'.step b9
      refine ⟨_, A18, n19, c20, _, rfl, ok_ret b9 f8', g, 0, rfl, fun w10 f10 q10 => ?_⟩
      have hg9 := (b9.block g (heap_lt hg8)).trans hg8
      have hg10 := (q10.block g (heap_lt hg9) (by simp; omega)).trans hg9
      have s10 := (s9.below b9).past q10 (by simp; omega)
      cases hb8 : ((decide (1 < N.1)) : Bool) with
      | true =>
        obtain ⟨w11, hr11, hg11, f11, w12, hr12, f12, r12⟩ := rdr_store hB hg10 s10 (by have := s10.len; have := ht; have := hs8.len; omega) true
        refine ⟨w11, hr11, tr_ok f10 f11 (by simp; omega), g, 0, rfl, (decide (1 < N.1)), cells_row hg11 rfl, fun _ => ⟨g, 0, rfl, w12, hr12, tr_ok (fr_trans f10 f11) f12 (by simp; omega), fun w13 f13 q13 => ⟨rfl, ?_, f13⟩⟩, fun hf => by rw [hb8] at hf; cases hf⟩
        show Rdr w13 B g _ ((numV N.2.1).2.1, (N.2.2 || decide (1 < N.1)) || !(numV N.2.1).2.2)
        rw [hb, Bool.false_or, hb8]; exact r12.past q13 (by simp; omega)
      | false =>
        obtain ⟨w11, hr11, hg11, f11, w12, hr12, f12, r12⟩ := rdr_store hB hg10 s10 (by have := s10.len; have := ht; have := hs8.len; omega) (!(numV N.2.1).2.2)
        refine ⟨w11, hr11, tr_ok f10 f11 (by simp; omega), g, 0, rfl, (decide (1 < N.1)), cells_row hg11 rfl, (fun hf => by rw [hb8] at hf; cases hf), fun _ => ⟨g, 0, rfl, w12, hr12, tr_ok (fr_trans f10 f11) f12 (by simp; omega), fun w13 f13 q13 => ⟨rfl, ?_, f13⟩⟩⟩
        show Rdr w13 B g _ ((numV N.2.1).2.1, (N.2.2 || decide (1 < N.1)) || !(numV N.2.1).2.2)
        rw [hb, Bool.false_or, hb8]; exact r12.past q13 (by simp; omega)
  · have h3 : ¬ K.1 = 3 := h3
    have h5 : ¬ K.1 = 5 := h5
    have h6 : ¬ K.1 = 6 := h6
    have h7 : ¬ K.1 = 7 := h7
    have h8 : ¬ K.1 = 8 := h8
    unfold opQK; rw [if_neg h3, if_neg h5, if_neg h6, if_neg h7, if_neg h8]
    exact ⟨rfl, r4.past q5 (by simp; omega), f5⟩
end Go.Proofs.YtfjenamomipmdaaDoor
