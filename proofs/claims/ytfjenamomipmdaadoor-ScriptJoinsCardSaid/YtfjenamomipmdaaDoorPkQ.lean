/- Opcode: the document's reader. -/
import Derived.Test.YtfjenamomipmdaaDoorPkS
set_option linter.unusedSimpArgs false
set_option linter.unusedVariables false
namespace Go.Proofs.YtfjenamomipmdaaDoor
open Go Go.RowKit Go.Proofs Go.Trc Go.Sx
def oneV (s : RS) : Int × RS := match s.1 with
  | [] => (0, ([], true))
  | c :: r => ((c.toNat : Int), (r, s.2))
theorem oneV_nil (b : Bool) : oneV ([], b) = (0, ([], true)) := rfl
theorem oneV_cons (c : UInt8) (r : List UInt8) (b : Bool) : oneV (c :: r, b) = ((c.toNat : Int), (r, b)) := rfl
theorem one_val (s : RS) : 0 ≤ (oneV s).1 ∧ (oneV s).1 ≤ 255 := by
  unfold oneV
  split
  · decide
  · rename_i c r _; have := c.toNat_lt; show 0 ≤ (c.toNat : Int) ∧ (c.toNat : Int) ≤ 255; omega
def cornQK (v : Int × Int) (n : Int × RS) : Crn × RS := if n.1 = 1 ∨ n.1 = 2 then ((v.1, v.2, (idR n.2).1.1, (idR n.2).1.2, n.1 - 1), (idR n.2).2) else ((v.1, v.2, 0, 0, 0), (n.2.1, n.2.2 || decide (2 < n.1)))
def cornQ (s : RS) : Crn × RS := cornQK (idR s).1 (oneV (idR s).2)
def more (n : Int × RS) : RS := (n.2.1, n.2.2 || decide (1 < n.1))
def opQK (k : Int) (i : Int × Int) (s : RS) : OpV × RS :=
  if k = 3 then opK3 k i (cornQ s) (cornQ (cornQ s).2)
  else if k = 5 then opK5 k i (idR s) (idR (idR s).2) (oneV (idR (idR s).2).2)
  else if k = 6 then opK6 k i (idR s)
  else if k = 7 then opK7 k i (oneV s).1 (takenV textV (more (oneV s)))
  else if k = 8 then opK8 k i (oneV s).1 (takenV numV (more (oneV s)))
  else opK0 k i s
def opQ (s : RS) : OpV × RS := opQK (oneV s).1 (idR (oneV s).2).1 (idR (oneV s).2).2
abbrev TQ : TypeId := 95
theorem rdr_bad {w : World} {B g : Nat} {T : TypeId} {s : RS} (h : Rdr w B g T s) (bad : Bool) :
    ∃ w2, (Instr.storeAt 4 (.pointer (some ⟨g, 1, none⟩)) (.bool bad)).run Tryd.prog w = .ok () w2 ∧ Fr (fun b => b ∈ [g]) w w2 ∧ Rdr w2 B g T (s.1, bad) := by
  obtain ⟨hB, A, n, c, hg, hn, hs⟩ := h
  obtain ⟨w2, hr2, hg2, gr2⟩ := store_row (P := Tryd.prog) (w := w) 4 (by kernel_rfl) (v := .bool bad) (o := 1) hg (by simp) rfl rfl
  have f2 := fr_of_grown gr2
  exact ⟨w2, hr2, f2, hB, A, n, c, hg2, hn, hs.past f2 fun x hx => by simp only [List.mem_singleton] at hx; omega⟩
set_option maxHeartbeats 1000000 in
theorem qone_c {w : World} {B g : Nat} {s : RS} (h : Rdr w B g TQ s) : Calls Tryd.prog 48 #[.pointer (some ⟨g, 0, none⟩)] w (TR w B g TQ encI (oneV s)) := by
  obtain ⟨hB, A, n, c, hg, hn, hs⟩ := id h
  obtain ⟨xs, bad⟩ := s
  have hl := hs.len
  refine qone_sx _ (fun b => b ∈ [g]) w _ ⟨g, 0, rfl, A, n, c, cells_row hg rfl, fun h0 => ⟨g, 0, rfl, ?_⟩, fun h0 => ⟨g, 0, rfl, A, n, c, cells_row hg rfl, by omega, by omega, ?_⟩⟩
  · obtain rfl : xs = [] := List.eq_nil_of_length_eq_zero (by have hl : n = xs.length := hl; omega)
    obtain ⟨w2, hr2, f2, r2⟩ := rdr_bad h true
    exact ⟨w2, hr2, tr_ok (Fr.refl _ _) f2 (by simp), rfl, r2, f2⟩
  · have hl : n = xs.length := hl
    obtain ⟨a, r, rfl⟩ : ∃ a r, xs = a :: r := by cases xs with | nil => simp at hl; omega | cons a r => exact ⟨a, r, rfl⟩
    obtain ⟨p, o, hA, hp, c1⟩ := byte_at hs 0 (by simp)
    obtain ⟨A2, hr2, s2⟩ := lo_b hs (k := 1) (by omega)
    refine ⟨p, o, hA, _, c1, g, 0, rfl, A, n, c, cells_row hg rfl, A2, _, _, hr2 w, g, 0, rfl, ?_⟩
    obtain ⟨w2, hs2, hg2, gr2⟩ := store_row (P := Tryd.prog) (w := w) 22 (by kernel_rfl) (v := .slice A2 (n - 1) (c - 1)) (o := 0) hg (by simp) rfl rfl
    have f2 := fr_of_grown gr2
    refine ⟨w2, hs2, tr_ok (Fr.refl _ _) f2 (by simp), ?_, ⟨hB, A2, n - 1, c - 1, hg2, by omega, s2.past f2 fun x hx => by simp only [List.mem_singleton] at hx; omega⟩, f2⟩
    have : IntKind.i64.wrap (((a :: r)[0].toNat : Nat) : Int) = (a.toNat : Int) := i64_byte a
    rw [this]; rfl
set_option maxHeartbeats 1000000 in
theorem qid_c {w : World} {B g : Nat} {s : RS} (h : Rdr w B g TQ s) : Calls Tryd.prog 75 #[.pointer (some ⟨g, 0, none⟩)] w (TR w B g TQ encP (idR s)) := by
  have lg := h.lt
  refine qid_sx _ (fun b => b ∈ [g]) w _ ?_
  intro g1 hg1
  refine ⟨g, 0, rfl, fun w1 f1 b1 lo1 t1 => ?_⟩
  obtain ⟨hB, A, n, c, hg, hn, hs⟩ := h.below b1
  have ht := identV_len s.1
  refine ⟨A, n, c, cells_row hg rfl, (ref01Take_c hs).mono ?_⟩
  rintro e w2 ⟨A8, n9, c10, rfl, s1, b2⟩
  refine ⟨_, _, A8, n9, c10, _, rfl, ok_ret b2 f1, fun g13 hg13 => ⟨g, 0, rfl, fun w3 f3' b3 lo13 t13 => ?_⟩⟩
  have b23 := b2.trans (b3.mono b2.size)
  have hg1' := (b23.block g (heap_lt hg)).trans hg
  have s1 := s1.below b23
  cases hb : s.2 with
  | true =>
    obtain ⟨w4, hr2, hg2', f2, w5, hr3, f3, r3⟩ := rdr_store hB hg1' s1 (by have := s1.len; have := ht; have := hs.len; omega) true
    refine ⟨w4, hr2, tr_ok f3' f2 (by simp; omega), g, 0, rfl, s.2, cells_row hg2' rfl, fun _ => ⟨g, 0, rfl, w5, hr3, tr_ok (fr_trans f3' f2) f3 (by simp; omega), fun w6 f6 q6 => ⟨rfl, ?_, f6⟩⟩, fun hf => by rw [hb] at hf; cases hf⟩
    show Rdr w6 B g _ ((identV s.1).2.1, s.2 || !(identV s.1).2.2)
    rw [hb]; exact r3.past q6 (by simp; omega)
  | false =>
    obtain ⟨w4, hr2, hg2', f2, w5, hr3, f3, r3⟩ := rdr_store hB hg1' s1 (by have := s1.len; have := ht; have := hs.len; omega) (!(identV s.1).2.2)
    refine ⟨w4, hr2, tr_ok f3' f2 (by simp; omega), g, 0, rfl, s.2, cells_row hg2' rfl, (fun hf => by rw [hb] at hf; cases hf), fun _ => ⟨g, 0, rfl, w5, hr3, tr_ok (fr_trans f3' f2) f3 (by simp; omega), fun w6 f6 q6 => ⟨rfl, ?_, f6⟩⟩⟩
    show Rdr w6 B g _ ((identV s.1).2.1, s.2 || !(identV s.1).2.2)
    rw [hb]; exact r3.past q6 (by simp; omega)
set_option maxHeartbeats 1000000 in
theorem qcorner_c {w : World} {B g : Nat} {s : RS} (h : Rdr w B g TQ s) : Calls Tryd.prog 76 #[.pointer (some ⟨g, 0, none⟩)] w (TR w B g TQ encC (cornQ s)) := by
  have lg := h.lt
  have hB := h.1
  refine qcorner_sx _ (fun b => b ∈ [g]) w _ ?_
  intro g1 hg1 w1 f1 b1 lo1 t1
  refine (qid_c (h.below b1)).mono ?_
  rintro e w2 ⟨rfl, r2, q2⟩
  refine ⟨_, _, rfl, tr_ok f1 q2 (by simp; omega), fun g4 hg4 w3 f3 b3 lo4 t4 => ?_⟩
  have e0 : cornQ s = cornQK (idR s).1 (oneV (idR s).2) := rfl
  rw [e0]
  generalize idR s = I at r2 ⊢
  refine (qone_c (r2.below b3)).mono ?_
  rintro e w4 ⟨rfl, r4, q4⟩
  have hv := one_val I.2
  generalize oneV I.2 = N at r4 hv ⊢
  have f4 := (tr_ok (G := []) f3 q4 (by simp)).1
  refine ⟨_, rfl, tr_ok f3 q4 (by simp; omega), fun hgt => ⟨g, 0, rfl, ?_⟩, fun hle => ⟨fun h1 => ?_, fun h1 => ⟨fun h2 => ?_, fun h2 w5 f5 q5 => ?_⟩⟩⟩
  · have hgt : 2 < N.1 := hgt
    obtain ⟨w5, hr5, f5, r5⟩ := rdr_bad r4 true
    refine ⟨w5, hr5, tr_ok f4 f5 (by simp; omega), fun h1 => ?_, fun h1 => ⟨fun h2 => ?_, fun h2 w6 f6 q6 => ?_⟩⟩
    · have h1 : N.1 = 1 := h1
      omega
    · have h2 : N.1 = 2 := h2
      omega
    · unfold cornQK; rw [if_neg (by omega)]
      refine ⟨rfl, ?_, f6⟩
      show Rdr w6 B g _ (N.2.1, N.2.2 || decide (2 < N.1))
      rw [decide_eq_true hgt, Bool.or_true]
      exact r5.past q6 (by simp; omega)
  · have h1 : N.1 = 1 := h1
    refine (qid_c r4).mono ?_
    rintro e w5 ⟨rfl, r5, q5⟩
    refine ⟨_, _, rfl, tr_ok f4 q5 (by simp; omega), fun w6 f6 q6 => ?_⟩
    have hw : IntKind.i64.wrap (N.1 - 1) = N.1 - 1 := wrap_in (by omega)
    unfold cornQK; rw [if_pos (.inl h1)]
    exact ⟨by rw [hw]; rfl, r5.past q6 (by simp; omega), f6⟩
  · have h2 : N.1 = 2 := h2
    refine (qid_c r4).mono ?_
    rintro e w5 ⟨rfl, r5, q5⟩
    refine ⟨_, _, rfl, tr_ok f4 q5 (by simp; omega), fun w6 f6 q6 => ?_⟩
    have hw : IntKind.i64.wrap (N.1 - 1) = N.1 - 1 := wrap_in (by omega)
    unfold cornQK; rw [if_pos (.inr h2)]
    exact ⟨by rw [hw]; rfl, r5.past q6 (by simp; omega), f6⟩
  · have h1 : ¬ N.1 = 1 := h1
    have h2 : ¬ N.1 = 2 := h2
    have hle : N.1 ≤ 2 := hle
    unfold cornQK; rw [if_neg (by omega)]
    refine ⟨rfl, ?_, f5⟩
    show Rdr w5 B g _ (N.2.1, N.2.2 || decide (2 < N.1))
    rw [decide_eq_false (by omega), Bool.or_false]
    exact r4.past q5 (by simp; omega)
end Go.Proofs.YtfjenamomipmdaaDoor


/- Opcode: the document's reader takes an operation, an edit. -/
set_option linter.unusedSimpArgs false
set_option linter.unusedVariables false
namespace Go.Proofs.YtfjenamomipmdaaDoor
open Go Go.RowKit Go.Proofs Go.Trc Go.Sx
set_option maxHeartbeats 4000000 in
theorem qop_c {w : World} {B g : Nat} {s : RS} (h : Rdr w B g TQ s) : Calls Tryd.prog 49 #[.pointer (some ⟨g, 0, none⟩)] w (TR w B g TQ encO (opQ s)) := by
  have lg := h.lt
  have hB := h.1
  refine qop_sx _ (fun b => b ∈ [g]) w _ ?_
  intro g1 hg1 w1 f1 b1 lo1 t1
  refine (qone_c (h.below b1)).mono ?_
  rintro e w2 ⟨rfl, r2, q2⟩
  refine ⟨_, rfl, tr_ok f1 q2 (by simp; omega), fun g3 hg3 w3 f3 b3 lo3 t3 => ?_⟩
  have e0 : opQ s = opQK (oneV s).1 (idR (oneV s).2).1 (idR (oneV s).2).2 := rfl
  rw [e0]
  generalize oneV s = K at r2 ⊢
  refine (qid_c (r2.below b3)).mono ?_
  rintro e w4 ⟨rfl, r4, q4⟩
  have f4 := (tr_ok (G := []) f3 q4 (by simp)).1
  refine ⟨_, _, rfl, tr_ok f3 q4 (by simp; omega), ?_⟩
  generalize idR K.2 = I at r4 ⊢
  refine ⟨fun h3 w5 f5 q5 => ?_, fun h3 => ⟨fun h5 w5 f5 q5 => ?_, fun h5 => ⟨fun h6 w5 f5 q5 => ?_, fun h6 => ⟨fun h7 w5 f5 q5 => ?_, fun h7 => ⟨fun h8 w5 f5 q5 => ?_, fun h8 w5 f5 q5 => ?_⟩⟩⟩⟩⟩
  · have h3 : K.1 = 3 := h3
    refine (qcorner_c (r4.past q5 (by simp; omega))).mono ?_
    rintro e w6 ⟨rfl, r6, q6⟩
    refine ⟨_, _, _, _, _, rfl, tr_ok f5 q6 (by simp; omega), fun w7 f7 q7 => ?_⟩
    refine (qcorner_c (r6.past q7 (by simp; omega))).mono ?_
    rintro e w8 ⟨rfl, r8, q8⟩
    refine ⟨_, _, _, _, _, rfl, tr_ok f7 q8 (by simp; omega), fun w9 f9 q9 => ?_⟩
    unfold opQK; rw [if_pos h3]
    exact ⟨rfl, r8.past q9 (by simp; omega), f9⟩
  · have h3 : ¬ K.1 = 3 := h3
    have h5 : K.1 = 5 := h5
    refine (qid_c (r4.past q5 (by simp; omega))).mono ?_
    rintro e w6 ⟨rfl, r6, q6⟩
    refine ⟨_, _, rfl, tr_ok f5 q6 (by simp; omega), fun w7 f7 q7 => ?_⟩
    refine (qid_c (r6.past q7 (by simp; omega))).mono ?_
    rintro e w8 ⟨rfl, r8, q8⟩
    refine ⟨_, _, rfl, tr_ok f7 q8 (by simp; omega), fun w9 f9 q9 => ?_⟩
    refine (qone_c (r8.past q9 (by simp; omega))).mono ?_
    rintro e w10 ⟨rfl, r10, q10⟩
    refine ⟨_, rfl, tr_ok f9 q10 (by simp; omega), fun w11 f11 q11 => ?_⟩
    unfold opQK; rw [if_neg h3, if_pos h5]
    exact ⟨rfl, r10.past q11 (by simp; omega), f11⟩
  · have h3 : ¬ K.1 = 3 := h3
    have h5 : ¬ K.1 = 5 := h5
    have h6 : K.1 = 6 := h6
    refine (qid_c (r4.past q5 (by simp; omega))).mono ?_
    rintro e w6 ⟨rfl, r6, q6⟩
    refine ⟨_, _, rfl, tr_ok f5 q6 (by simp; omega), fun w7 f7 q7 => ?_⟩
    unfold opQK; rw [if_neg h3, if_neg h5, if_pos h6]
    exact ⟨rfl, r6.past q7 (by simp; omega), f7⟩
  · have h3 : ¬ K.1 = 3 := h3
    have h5 : ¬ K.1 = 5 := h5
    have h6 : ¬ K.1 = 6 := h6
    have h7 : K.1 = 7 := h7
    refine (qone_c (r4.past q5 (by simp; omega))).mono ?_
    rintro e w6 ⟨rfl, r6, q6⟩
    refine ⟨_, rfl, tr_ok f5 q6 (by simp; omega), g, 0, rfl, fun w7 f7 q7 => ?_⟩
    unfold opQK; rw [if_neg h3, if_neg h5, if_neg h6, if_pos h7]
    generalize oneV I.2 = N at r6 ⊢
    have r7 := r6.past q7 (by simp; omega)
    obtain ⟨-, A0, n0, c0, hg0, -, -⟩ := id r7
    refine ⟨N.2.2, cells_row hg0 rfl, fun hb => ?_, fun hb => ?_⟩
    · skip
      -- the store of bad, the call, both stores
      obtain ⟨w8, hr8, f8, r8⟩ := rdr_bad r7 true
      refine ⟨g, 0, rfl, w8, hr8, tr_ok f7 f8 (by simp; omega), g, 0, rfl, ?_⟩
      have f8' := (tr_ok (G := []) f7 f8 (by simp)).1
      obtain ⟨hB8, A14, n15, c16, hg8, hn8, hs8⟩ := r8
      have hs8 : Sl w8 (fun b => b < B) (.slice A14 n15 c16) N.2.1 := hs8
      have ht := textV_len N.2.1
      refine ⟨A14, n15, c16, cells_row hg8 rfl, (ref08TakeText_c hs8 hn8).mono ?_⟩
      rintro e w9 ⟨A18, n19, c20, rfl, s9, b9⟩
      have f9 := f8'.step b9
      refine ⟨_, A18, n19, c20, _, rfl, ok_ret b9 f8', g, 0, rfl, fun w10 f10 q10 => ?_⟩
      have hg9 := (b9.block g (heap_lt hg8)).trans hg8
      have hg10 := (q10.block g (heap_lt hg9) (by simp; omega)).trans hg9
      have s10 := (s9.below b9).past q10 (by simp; omega)
      obtain ⟨w11, hr11, hg11, f11, w12, hr12, f12, r12⟩ := rdr_store hB hg10 s10 (by have := s10.len; have := ht; have := hs8.len; omega) true
      refine ⟨w11, hr11, tr_ok f10 f11 (by simp; omega), g, 0, rfl, true, cells_row hg11 rfl, fun _ => ⟨g, 0, rfl, w12, hr12, tr_ok (fr_trans f10 f11) f12 (by simp; omega), fun w13 f13 q13 => ⟨rfl, ?_, f13⟩⟩, fun hf => by cases hf⟩
      show Rdr w13 B g _ ((textV N.2.1).2.1, (N.2.2 || decide (1 < N.1)) || !(textV N.2.1).2.2)
      rw [hb, Bool.true_or, Bool.true_or]; exact r12.past q13 (by simp; omega)
    · skip
      -- the store of bad, the call, both stores
      obtain ⟨w8, hr8, f8, r8⟩ := rdr_bad r7 (decide (1 < N.1))
      refine ⟨g, 0, rfl, w8, hr8, tr_ok f7 f8 (by simp; omega), g, 0, rfl, ?_⟩
      have f8' := (tr_ok (G := []) f7 f8 (by simp)).1
      obtain ⟨hB8, A14, n15, c16, hg8, hn8, hs8⟩ := r8
      have hs8 : Sl w8 (fun b => b < B) (.slice A14 n15 c16) N.2.1 := hs8
      have ht := textV_len N.2.1
      refine ⟨A14, n15, c16, cells_row hg8 rfl, (ref08TakeText_c hs8 hn8).mono ?_⟩
      rintro e w9 ⟨A18, n19, c20, rfl, s9, b9⟩
      have f9 := f8'.step b9
      refine ⟨_, A18, n19, c20, _, rfl, ok_ret b9 f8', g, 0, rfl, fun w10 f10 q10 => ?_⟩
      have hg9 := (b9.block g (heap_lt hg8)).trans hg8
      have hg10 := (q10.block g (heap_lt hg9) (by simp; omega)).trans hg9
      have s10 := (s9.below b9).past q10 (by simp; omega)
      cases hb8 : ((decide (1 < N.1)) : Bool) with
      | true =>
        obtain ⟨w11, hr11, hg11, f11, w12, hr12, f12, r12⟩ := rdr_store hB hg10 s10 (by have := s10.len; have := ht; have := hs8.len; omega) true
        refine ⟨w11, hr11, tr_ok f10 f11 (by simp; omega), g, 0, rfl, (decide (1 < N.1)), cells_row hg11 rfl, fun _ => ⟨g, 0, rfl, w12, hr12, tr_ok (fr_trans f10 f11) f12 (by simp; omega), fun w13 f13 q13 => ⟨rfl, ?_, f13⟩⟩, fun hf => by rw [hb8] at hf; cases hf⟩
        show Rdr w13 B g _ ((textV N.2.1).2.1, (N.2.2 || decide (1 < N.1)) || !(textV N.2.1).2.2)
        rw [hb, Bool.false_or, hb8]; exact r12.past q13 (by simp; omega)
      | false =>
        obtain ⟨w11, hr11, hg11, f11, w12, hr12, f12, r12⟩ := rdr_store hB hg10 s10 (by have := s10.len; have := ht; have := hs8.len; omega) (!(textV N.2.1).2.2)
        refine ⟨w11, hr11, tr_ok f10 f11 (by simp; omega), g, 0, rfl, (decide (1 < N.1)), cells_row hg11 rfl, (fun hf => by rw [hb8] at hf; cases hf), fun _ => ⟨g, 0, rfl, w12, hr12, tr_ok (fr_trans f10 f11) f12 (by simp; omega), fun w13 f13 q13 => ⟨rfl, ?_, f13⟩⟩⟩
        show Rdr w13 B g _ ((textV N.2.1).2.1, (N.2.2 || decide (1 < N.1)) || !(textV N.2.1).2.2)
        rw [hb, Bool.false_or, hb8]; exact r12.past q13 (by simp; omega)
  · have h3 : ¬ K.1 = 3 := h3
    have h5 : ¬ K.1 = 5 := h5
    have h6 : ¬ K.1 = 6 := h6
    have h7 : ¬ K.1 = 7 := h7
    have h8 : K.1 = 8 := h8
    refine (qone_c (r4.past q5 (by simp; omega))).mono ?_
    rintro e w6 ⟨rfl, r6, q6⟩
    refine ⟨_, rfl, tr_ok f5 q6 (by simp; omega), g, 0, rfl, fun w7 f7 q7 => ?_⟩
    unfold opQK; rw [if_neg h3, if_neg h5, if_neg h6, if_neg h7, if_pos h8]
    generalize oneV I.2 = N at r6 ⊢
    have r7 := r6.past q7 (by simp; omega)
    obtain ⟨-, A0, n0, c0, hg0, -, -⟩ := id r7
    refine ⟨N.2.2, cells_row hg0 rfl, fun hb => ?_, fun hb => ?_⟩
    · skip
      -- the store of bad, the call, both stores
      obtain ⟨w8, hr8, f8, r8⟩ := rdr_bad r7 true
      refine ⟨g, 0, rfl, w8, hr8, tr_ok f7 f8 (by simp; omega), g, 0, rfl, ?_⟩
      have f8' := (tr_ok (G := []) f7 f8 (by simp)).1
      obtain ⟨hB8, A14, n15, c16, hg8, hn8, hs8⟩ := r8
      have hs8 : Sl w8 (fun b => b < B) (.slice A14 n15 c16) N.2.1 := hs8
      have ht := numV_len N.2.1
      refine ⟨A14, n15, c16, cells_row hg8 rfl, (ref08TakeNum_c hs8).mono ?_⟩
      rintro e w9 ⟨A18, n19, c20, rfl, s9, b9⟩
      have f9 := f8'.step b9
      refine ⟨_, A18, n19, c20, _, rfl, ok_ret b9 f8', g, 0, rfl, fun w10 f10 q10 => ?_⟩
      have hg9 := (b9.block g (heap_lt hg8)).trans hg8
      have hg10 := (q10.block g (heap_lt hg9) (by simp; omega)).trans hg9
      have s10 := (s9.below b9).past q10 (by simp; omega)
      obtain ⟨w11, hr11, hg11, f11, w12, hr12, f12, r12⟩ := rdr_store hB hg10 s10 (by have := s10.len; have := ht; have := hs8.len; omega) true
      refine ⟨w11, hr11, tr_ok f10 f11 (by simp; omega), g, 0, rfl, true, cells_row hg11 rfl, fun _ => ⟨g, 0, rfl, w12, hr12, tr_ok (fr_trans f10 f11) f12 (by simp; omega), fun w13 f13 q13 => ⟨rfl, ?_, f13⟩⟩, fun hf => by cases hf⟩
      show Rdr w13 B g _ ((numV N.2.1).2.1, (N.2.2 || decide (1 < N.1)) || !(numV N.2.1).2.2)
      rw [hb, Bool.true_or, Bool.true_or]; exact r12.past q13 (by simp; omega)
    · skip
      -- the store of bad, the call, both stores
      obtain ⟨w8, hr8, f8, r8⟩ := rdr_bad r7 (decide (1 < N.1))
      refine ⟨g, 0, rfl, w8, hr8, tr_ok f7 f8 (by simp; omega), g, 0, rfl, ?_⟩
      have f8' := (tr_ok (G := []) f7 f8 (by simp)).1
      obtain ⟨hB8, A14, n15, c16, hg8, hn8, hs8⟩ := r8
      have hs8 : Sl w8 (fun b => b < B) (.slice A14 n15 c16) N.2.1 := hs8
      have ht := numV_len N.2.1
      refine ⟨A14, n15, c16, cells_row hg8 rfl, (ref08TakeNum_c hs8).mono ?_⟩
      rintro e w9 ⟨A18, n19, c20, rfl, s9, b9⟩
      have f9 := f8'.step b9
      refine ⟨_, A18, n19, c20, _, rfl, ok_ret b9 f8', g, 0, rfl, fun w10 f10 q10 => ?_⟩
      have hg9 := (b9.block g (heap_lt hg8)).trans hg8
      have hg10 := (q10.block g (heap_lt hg9) (by simp; omega)).trans hg9
      have s10 := (s9.below b9).past q10 (by simp; omega)
      cases hb8 : ((decide (1 < N.1)) : Bool) with
      | true =>
        obtain ⟨w11, hr11, hg11, f11, w12, hr12, f12, r12⟩ := rdr_store hB hg10 s10 (by have := s10.len; have := ht; have := hs8.len; omega) true
        refine ⟨w11, hr11, tr_ok f10 f11 (by simp; omega), g, 0, rfl, (decide (1 < N.1)), cells_row hg11 rfl, fun _ => ⟨g, 0, rfl, w12, hr12, tr_ok (fr_trans f10 f11) f12 (by simp; omega), fun w13 f13 q13 => ⟨rfl, ?_, f13⟩⟩, fun hf => by rw [hb8] at hf; cases hf⟩
        show Rdr w13 B g _ ((numV N.2.1).2.1, (N.2.2 || decide (1 < N.1)) || !(numV N.2.1).2.2)
        rw [hb, Bool.false_or, hb8]; exact r12.past q13 (by simp; omega)
      | false =>
        obtain ⟨w11, hr11, hg11, f11, w12, hr12, f12, r12⟩ := rdr_store hB hg10 s10 (by have := s10.len; have := ht; have := hs8.len; omega) (!(numV N.2.1).2.2)
        refine ⟨w11, hr11, tr_ok f10 f11 (by simp; omega), g, 0, rfl, (decide (1 < N.1)), cells_row hg11 rfl, (fun hf => by rw [hb8] at hf; cases hf), fun _ => ⟨g, 0, rfl, w12, hr12, tr_ok (fr_trans f10 f11) f12 (by simp; omega), fun w13 f13 q13 => ⟨rfl, ?_, f13⟩⟩⟩
        show Rdr w13 B g _ ((numV N.2.1).2.1, (N.2.2 || decide (1 < N.1)) || !(numV N.2.1).2.2)
        rw [hb, Bool.false_or, hb8]; exact r12.past q13 (by simp; omega)
  · have h3 : ¬ K.1 = 3 := h3
    have h5 : ¬ K.1 = 5 := h5
    have h6 : ¬ K.1 = 6 := h6
    have h7 : ¬ K.1 = 7 := h7
    have h8 : ¬ K.1 = 8 := h8
    unfold opQK; rw [if_neg h3, if_neg h5, if_neg h6, if_neg h7, if_neg h8]
    exact ⟨rfl, r4.past q5 (by simp; omega), f5⟩
end Go.Proofs.YtfjenamomipmdaaDoor


/- Opcode: the document's Take; both Wholes. -/
set_option linter.unusedSimpArgs false
set_option linter.unusedVariables false
namespace Go.Proofs.YtfjenamomipmdaaDoor
open Go Go.RowKit Go.Proofs Go.Trc Go.Sx
def takeQK (bs : List UInt8) (n : Int) (x : List OpV × RS) : ES := if x.2.2 = true ∨ ¬ n = (x.1.length : Int) ∨ mayEditV x.1 ≠ 0 then ([], bs, 2) else (x.1, x.2.1, 0)
def takeQ (bs : List UInt8) : ES := takeQK bs (oneV (bs, false)).1 (runs opQ (min (oneV (bs, false)).1.toNat 7) (oneV (bs, false)).2)
theorem opQK_wf (k : Int) (i : Int × Int) (s : RS) (hk : 0 ≤ k ∧ k ≤ 255) : Fixed.wf (opQK k i s).1 := by
  have hkr : rng k := by unfold rng; omega
  have z : (ByteArray.mk #[]).size ≤ maxLen := by decide
  have hc : ∀ s, rng (cornQ s).1.2.2.2.2 := fun s => by
    have hv := one_val (idR s).2
    unfold cornQ cornQK
    split
    · show rng ((oneV (idR s).2).1 - 1); unfold rng; omega
    · exact zero_rng
  unfold opQK
  split
  · exact ⟨⟨hkr, hc _, hc _, zero_rng⟩, z⟩
  · split
    · have hv := one_val (idR (idR s).2).2
      exact ⟨⟨hkr, zero_rng, zero_rng, by show rng (oneV (idR (idR s).2).2).1; unfold rng; omega⟩, z⟩
    · split
      · exact ⟨⟨hkr, zero_rng, zero_rng, zero_rng⟩, z⟩
      · split
        · exact ⟨⟨hkr, zero_rng, zero_rng, zero_rng⟩, Nat.le_trans (count_size (more (oneV s)).1) (by decide)⟩
        · split
          · exact ⟨⟨hkr, zero_rng, zero_rng, numV_rng _⟩, z⟩
          · exact ⟨⟨hkr, zero_rng, zero_rng, zero_rng⟩, z⟩
theorem opQ_wf (s : RS) : Fixed.wf (opQ s).1 := opQK_wf _ _ _ (one_val s)
set_option maxHeartbeats 4000000 in
theorem ref10Take_c {w : World} {ok : Nat → Prop} {A : Option Addr} {n c : Nat} {xs : List UInt8} (h0 : Sl w ok (.slice A n c) xs) (hl : n ≤ 1000000) :
    Calls Tryd.prog 20 #[.slice A n c] w (TakeE w (takeQ xs)) := by
  have h := h0.here
  refine ref10Take_sx _ (fun b => some b = none) w A n c ?_
  intro g3 hg3 g4 hg4 w1 f1 b1 lo4 t4 lo3 t3
  have n34 : g3 ≠ g4 := fun hh => by rw [hh, t4] at t3; cases t3
  have R1 : Rdr w1 w.heap.size g4 TQ (xs, false) := ⟨hg4, A, n, c, t4, hl, h.below (fr_below (fr_none f1))⟩
  refine (qone_c R1).mono ?_
  rintro e w2 ⟨rfl, r2, q2⟩
  have hv := one_val (xs, false)
  have er : takeQ xs = takeQK xs (oneV (xs, false)).1 (runs opQ (min (oneV (xs, false)).1.toNat 7) (oneV (xs, false)).2) := rfl
  rw [er]
  generalize oneV (xs, false) = K at r2 hv ⊢
  obtain ⟨-, A8, n9, c10, hc2, -, -⟩ := id r2
  have f2 := fr_in f1 q2 (by simp; omega)
  have t3' := (q2.block g3 (heap_lt t3) (by simpa using n34)).trans t3
  generalize hX : runs opQ (min K.1.toNat 7) K.2 = X
  refine ⟨_, A8, n9, c10, _, rfl, ⟨f2, mild_q q2 (by simp; exact n34)⟩, hc2, fun g5 hg5 => ⟨fun i _ _ _ _ A' n' c' w' => ∃ (k : Nat) (l : List OpV) (st : RS), i = (l.length : Int) ∧ l.length + k = min K.1.toNat 7 ∧ Rdr w' w.heap.size g4 TQ st ∧ Rw none w w.heap.size 39 w' (.slice A' n' c') l [g5, g4, g3] ∧ (l ++ (runs opQ k st).1, (runs opQ k st).2) = X ∧ g5 ≠ g4 ∧ (g3 = g5 ∨ ∃ C, w'.heap[g3]? = some (.cells C 25 (0, 0))), fun i _ _ _ _ _ _ _ _ => (7 - i).toNat, ?_, ?_⟩⟩
  · intro w3 f3 b3 lo5 t5
    have t34 := (b3.block g3 (heap_lt t3')).trans t3'
    have t44 := (b3.block g4 (heap_lt hc2)).trans hc2
    refine ⟨min K.1.toNat 7, [], K.2, rfl, by simp, r2.below b3, Rw.nil (fr_none f3) ?_, by rw [List.nil_append, ← hX], fun hh => (by rw [hh, t44] at t5; cases t5), .inr ⟨_, t34⟩⟩
    intro k hk
    simp only [List.mem_cons, List.not_mem_nil, or_false] at hk
    rcases hk with rfl | rfl | rfl
    · exact heap_lt t5
    · exact heap_lt t44
    · exact heap_lt t34
  rintro _ A13 n14 n15 b16 A17 n18 n19 w4 f4 ⟨k, l, st, rfl, hlen, r4, o4, hX4, n54, h3⟩ u5 u4
  obtain ⟨C3, u3⟩ : ∃ C, w4.heap[g3]? = some (.cells C 25 (0, 0)) := by
    rcases h3 with rfl | h
    · exact ⟨_, u5⟩
    · exact h
  have hb : b16 = st.2 := by
    obtain ⟨-, A0, n0, c0, hc, -, -⟩ := id r4
    rw [u4] at hc
    injection hc with hc
    injection hc with hc
    simp only [Array.mk.injEq, List.cons.injEq, Value.bool.injEq] at hc
    exact hc.2.1
  have hsl : Sl w4 (fun b => b < w.heap.size) (.slice A13 n14 n15) st.1 := by
    obtain ⟨-, A0, n0, c0, hc, -, hs⟩ := id r4
    rw [u4] at hc
    injection hc with hc
    injection hc with hc
    simp only [Array.mk.injEq, List.cons.injEq] at hc
    rw [hc.1]; exact hs
  have h18 := o4.own.sl.len
  have g35 : ∀ x ∈ [g3], w.heap.size ≤ x ∧ (Value.slice A17 n18 n19).ownBlock ≠ some x := by
    simp only [List.mem_singleton]; rintro _ rfl; exact ⟨hg3, own_ne' o4.own u3 (by decide)⟩
  have cor : ∀ (w5 : World), Fr (fun b => some b = none) w w5 → (X.2.2 = true ∨ ¬ K.1 = (X.1.length : Int) ∨ mayEditV X.1 ≠ 0) → TakeE w (takeQK xs K.1 X) (.returned (.tuple #[.agg #[.slice none 0 0], .slice A n c, .int .i64 2])) w5 := by
    intro w5 f5 hx
    unfold takeQK; rw [if_pos hx]
    exact ⟨none, 0, 0, A, n, c, rfl, OwnF.nil _ _ _, h.below (fr_below (fr_none f5)), fr_below (fr_none f5)⟩
  have bad : b16 = true → X.2.2 = true := by
    intro hbt
    have hst : st.2 = true := by rw [← hb]; exact hbt
    rw [← hX4]
    cases k with
    | zero => exact hst
    | succ k => simp only [runs]; rw [if_pos hst]; exact hst
  have out : k = 0 → b16 = false → K.1 = (n18 : Int) → Calls Tryd.prog 39 #[.agg #[.slice A17 n18 n19]] w4 fun r w5 => ∃ i19 : Int, r = .returned (.int .i64 i19) ∧ (Fr (fun b => some b = none) w w5 ∧ Mild [g5, g4, g3] w4 w5) ∧ ((¬ i19 = (0 : Int) → ∀ w6 : World, Fr (fun b => some b = none) w w6 → Fr (fun b => b ∈ [g3]) w5 w6 → TakeE w (takeQK xs K.1 X) (.returned (.tuple #[.agg #[.slice none 0 0], .slice A n c, .int .i64 (2 : Int)])) w6) ∧
      (i19 = (0 : Int) → ∃ T20 : List Nat, (∀ b ∈ T20, b < w5.heap.size ∧ b ∉ [g5, g4, g3]) ∧ ∀ w6 : World, Fr (fun b => some b = none) w w6 → Fr (fun b => b ∈ [g3]) w5 w6 → TakeE w (takeQK xs K.1 X) (.returned (.tuple #[.agg #[.slice A17 n18 n19], .slice A13 n14 n15, .int .i64 (0 : Int)])) w6)) := by
    rintro rfl hbf hK
    have hst : st.2 = false := by rw [← hb]; exact hbf
    have hXe : X = (l, st) := by rw [← hX4]; simp [runs]
    refine (ref_mayEdit_c w4 _ A17 n18 n19 l o4.own.sl).mono ?_
    rintro e w5 ⟨rfl, b5⟩
    have o5 := o4.below b5
    refine ⟨_, rfl, ok_ret b5 f4, fun hne w6 f6 q6 => cor w6 f6 (.inr (.inr (by rw [hXe]; exact hne))), fun he => ⟨[], by simp, fun w6 f6 q6 => ?_⟩⟩
    have hne : ¬ ((l, st).2.2 = true ∨ ¬ K.1 = (((l, st).1.length : Nat) : Int) ∨ mayEditV (l, st).1 ≠ 0) := by
      rintro (h1 | h1 | h1)
      · have h1 : st.2 = true := h1
        rw [hst] at h1; cases h1
      · exact h1 (by rw [hK, h18])
      · exact h1 he
    unfold takeQK; rw [hXe, if_neg hne]
    have s5 := hsl.below b5
    exact ⟨A17, n18, n19, A13, n14, n15, rfl, (Rw.pastG o5 q6 g35).own, s5.past q6 (by simp; omega), fr_below (fr_none f6)⟩
  have hK18 : k = 0 → ¬ K.1 = (n18 : Int) → X.2.2 = true ∨ ¬ K.1 = (X.1.length : Int) ∨ mayEditV X.1 ≠ 0 := by
    rintro rfl hK
    have hXe : X = (l, st) := by rw [← hX4]; simp [runs]
    rw [hXe]
    exact .inr (.inl (by rw [← h18]; exact hK))
  refine ⟨fun hlt => ⟨fun h6 => ⟨fun hbf => ?_, fun hbt w5 f5 q5 => cor w5 f5 (.inl (bad hbt))⟩, fun h6 => ⟨fun hbt w5 f5 q5 => cor w5 f5 (.inl (bad hbt)), fun hbf => ⟨fun hK w5 f5 q5 => cor w5 f5 (hK18 (by omega) hK), fun hK => out (by omega) hbf hK⟩⟩⟩, fun hge => ⟨fun hbt w5 f5 q5 => cor w5 f5 (.inl (bad hbt)), fun hbf => ⟨fun hK w5 f5 q5 => cor w5 f5 (hK18 (by omega) hK), fun hK => out (by omega) hbf hK⟩⟩⟩
  have hst : ¬ st.2 = true := by rw [← hb, hbf]; decide
  obtain ⟨k, rfl⟩ : ∃ k', k = k' + 1 := ⟨k - 1, by omega⟩
  refine ⟨[], by simp, fun w5 f5 b5 u4' => ?_⟩
  refine (qop_c (r4.below b5)).mono ?_
  rintro e w6 ⟨rfl, r6, q6⟩
  obtain ⟨-, A41, n42, c43, hc6, -, -⟩ := id r6
  have o5 := o4.below b5
  have f6 := fr_in f5 q6 (by simp; omega)
  have u55 := (b5.block g5 (heap_lt u5)).trans u5
  have u35 := (b5.block g3 (heap_lt u3)).trans u3
  refine ⟨_, _, _, _, _, _, _, _, _, _, _, _, _, _, _, _, _, _, _, _, A41, n42, c43, _, rfl, ⟨f6, mild_q q6 (by simp; exact ⟨n54, n34⟩)⟩, fun j hj hn => q6.block j (Nat.lt_of_lt_of_le hj b5.size) (by simpa using hn), hc6, ?_⟩
  intro g45 hg45 w7 f7 b7 lo45 t45
  have ow : ∀ x ∈ [g4], w.heap.size ≤ x ∧ (Value.slice A17 n18 n19).ownBlock ≠ some x := by
    simp only [List.mem_singleton]; rintro _ rfl; exact ⟨hg4, own_ne' o4.own u4 (by decide)⟩
  have o7 := (Rw.pastG o5 q6 ow).on b7 [g45] (by simp only [List.mem_singleton]; rintro _ rfl; exact ⟨lo45, heap_lt t45⟩)
  obtain ⟨w8, A46, n47, c48, hr8, m8, o8⟩ := o7.append 23 23 _ 168 Tryd.underlying23 infoOp rfl (arg_cells [(opQ st).1] 1 rfl t45 (by decide) (by simp only [List.mem_singleton]; rintro _ rfl; exact opQ_wf st)) (by simp; omega) (by simp; omega)
  have u56 := (q6.block g5 (heap_lt u55) (by simpa using n54)).trans u55
  have u36 := (q6.block g3 (heap_lt u35) (by simpa using n34)).trans u35
  have u57 := (b7.block g5 (heap_lt u56)).trans u56
  have u37 := (b7.block g3 (heap_lt u36)).trans u36
  have u58 := (m8.2.2 g5 (by simp) (heap_lt u57)).trans u57
  have u38 := (m8.2.2 g3 (by simp) (heap_lt u37)).trans u37
  have r7 := r6.below b7
  refine ⟨w8, A46, n47, c48, hr8, m8, fun w9 f9 q9 => ⟨⟨k, l ++ [(opQ st).1], (opQ st).2, by rw [wrap_in (by omega)]; simp, by simp; omega, ?_, ?_, ?_, n54, ?_⟩, by dsimp only; rw [wrap_in (by omega)]; omega⟩⟩
  · obtain ⟨hB7, A0, n0, c0, hc, hn0, hs0⟩ := r7
    have hc8 := (m8.2.2 g4 (by simp) (heap_lt hc)).trans hc
    exact ⟨hB7, A0, n0, c0, (q9.block g4 (heap_lt hc8) (by simp; exact fun hh => n54 hh.symm)).trans hc8, hn0, hs0.mono fun b hbB _ => ⟨hbB, (f9.block b hbB (fun hh => by cases hh)).trans (f7.block b hbB (fun hh => by cases hh)).symm⟩⟩
  · exact (Rw.past o8 q9 hg5 (own_ne' o8.own u58 (by decide))).less' (by intro g hg; simp at hg ⊢; omega)
  · rw [← hX4]; simp only [runs]; rw [if_neg hst]; simp
  · by_cases h35 : g3 = g5
    · exact .inl h35
    · exact .inr ⟨C3, (q9.block g3 (heap_lt u38) (by simpa using h35)).trans u38⟩
end Go.Proofs.YtfjenamomipmdaaDoor


/- Opcode: both ways to take come to the same; whole edits. -/
set_option linter.unusedSimpArgs false
set_option linter.unusedVariables false
namespace Go.Proofs.YtfjenamomipmdaaDoor
open Go Go.RowKit Go.Proofs Go.Trc Go.Sx
theorem taken_bad {α : Type} (tk : List UInt8 → α × List UInt8 × Bool) {s : RS} (h : s.2 = true) : (takenV tk s).2.2 = true := by show (s.2 || _) = true; rw [h]; rfl
theorem one_bad {s : RS} (h : s.2 = true) : (oneV s).2.2 = true := by
  obtain ⟨xs, b⟩ := s
  cases xs with
  | nil => rfl
  | cons c r => exact h
theorem cornR_bad {s : RS} (h : s.2 = true) : (cornR s).2.2 = true := by
  have h1 : (idR s).2.2 = true := taken_bad _ h
  have h2 := taken_bad (uptoV 2) h1
  unfold cornR cornK
  split
  · exact taken_bad _ h2
  · exact h2
theorem cornQ_bad {s : RS} (h : s.2 = true) : (cornQ s).2.2 = true := by
  have h1 : (idR s).2.2 = true := taken_bad _ h
  have h2 := one_bad h1
  unfold cornQ cornQK
  split
  · exact taken_bad _ h2
  · show ((oneV (idR s).2).2.2 || _) = true; rw [h2]; rfl
theorem more_bad {s : RS} (h : s.2 = true) : (more (oneV s)).2 = true := by show ((oneV s).2.2 || _) = true; rw [one_bad h]; rfl
theorem opK_bad (k : Int) (i : Int × Int) {s : RS} (h : s.2 = true) : (opK k i s).2.2 = true := by
  unfold opK
  split
  · exact cornR_bad (cornR_bad h)
  · split
    · exact taken_bad _ (taken_bad _ (taken_bad _ h))
    · split
      · exact taken_bad _ h
      · split
        · exact taken_bad _ (taken_bad _ h)
        · split
          · exact taken_bad _ (taken_bad _ h)
          · exact h
theorem opQK_bad (k : Int) (i : Int × Int) {s : RS} (h : s.2 = true) : (opQK k i s).2.2 = true := by
  unfold opQK
  split
  · exact cornQ_bad (cornQ_bad h)
  · split
    · exact one_bad (taken_bad _ (taken_bad _ h))
    · split
      · exact taken_bad _ h
      · split
        · exact taken_bad _ (more_bad h)
        · split
          · exact taken_bad _ (more_bad h)
          · exact h
/-- Both missed something, or they are the same. -/
def Agree {α : Type} (x y : α × RS) : Prop := (x.2.2 = true ∧ y.2.2 = true) ∨ (x = y ∧ x.2.2 = false)
theorem agree_eq {α : Type} (x : α × RS) : Agree x x := by
  cases h : x.2.2 with
  | true => exact .inl ⟨h, h⟩
  | false => exact .inr ⟨rfl, h⟩
theorem upto_cons (m : Nat) (c : UInt8) (r : List UInt8) (b : Bool) : takenV (uptoV m) (c :: r, b) = if c.toNat ≤ m then ((c.toNat : Int), (r, b)) else (0, (c :: r, true)) := by
  show ((uptoV m (c :: r)).1, ((uptoV m (c :: r)).2.1, b || !(uptoV m (c :: r)).2.2)) = _
  rw [uptoV_cons]
  by_cases h : c.toNat ≤ m
  · rw [if_pos h, if_pos h]; simp
  · rw [if_neg h, if_neg h]; simp
theorem upto_nil (m : Nat) (b : Bool) : takenV (uptoV m) ([], b) = (0, ([], true)) := by simp [takenV, uptoV]
theorem corn_agree (s : RS) : Agree (cornR s) (cornQ s) := by
  show Agree (cornK (idR s).1 (takenV (uptoV 2) (idR s).2)) (cornQK (idR s).1 (oneV (idR s).2))
  generalize idR s = I
  obtain ⟨v, xs, b⟩ := I
  cases xs with
  | nil =>
    refine .inl ⟨?_, ?_⟩
    · show (cornK v (takenV (uptoV 2) ([], b))).2.2 = true
      rw [upto_nil]; rfl
    · rfl
  | cons c r =>
    show Agree (cornK v (takenV (uptoV 2) (c :: r, b))) (cornQK v (oneV (c :: r, b)))
    rw [upto_cons, oneV_cons]
    by_cases hc : c.toNat ≤ 2
    · rw [if_pos hc]
      unfold cornK cornQK
      by_cases h0 : 0 < (c.toNat : Int)
      · rw [if_pos h0, if_pos (by show (c.toNat : Int) = 1 ∨ (c.toNat : Int) = 2; omega)]
        exact agree_eq _
      · rw [if_neg h0, if_neg (by show ¬ ((c.toNat : Int) = 1 ∨ (c.toNat : Int) = 2); omega)]
        have hd : decide (2 < (c.toNat : Int)) = false := decide_eq_false (by omega)
        show Agree ((v.1, v.2, 0, 0, 0), (r, b)) ((v.1, v.2, 0, 0, 0), (r, b || decide (2 < (c.toNat : Int))))
        rw [hd, Bool.or_false]
        exact agree_eq _
    · rw [if_neg hc]
      refine .inl ⟨rfl, ?_⟩
      unfold cornQK
      rw [if_neg (by show ¬ ((c.toNat : Int) = 1 ∨ (c.toNat : Int) = 2); omega)]
      show (b || decide (2 < (c.toNat : Int))) = true
      rw [decide_eq_true (by omega), Bool.or_true]
/-- .. or told by May. -/
def Doomed (x : OpV × RS) : Prop := x.2.2 = true ∨ mayV x.1 ≠ 0
def AgreeO (x y : OpV × RS) : Prop := (Doomed x ∧ Doomed y) ∨ (x = y ∧ x.2.2 = false)
theorem agree_o {x y : OpV × RS} (h : Agree x y) : AgreeO x y := h.imp (fun ⟨a, b⟩ => ⟨.inl a, .inl b⟩) id
theorem flag_agree (s : RS) : Agree (takenV (uptoV 1) s) ((oneV s).1, more (oneV s)) := by
  obtain ⟨xs, b⟩ := s
  cases xs with
  | nil => rw [upto_nil]; exact .inl ⟨rfl, rfl⟩
  | cons c r =>
    rw [upto_cons, oneV_cons]
    by_cases hc : c.toNat ≤ 1
    · rw [if_pos hc]
      have hd : decide (1 < (c.toNat : Int)) = false := decide_eq_false (by omega)
      show Agree ((c.toNat : Int), (r, b)) ((c.toNat : Int), (r, b || decide (1 < (c.toNat : Int))))
      rw [hd, Bool.or_false]; exact agree_eq _
    · rw [if_neg hc]
      refine .inl ⟨rfl, ?_⟩
      show (b || decide (1 < (c.toNat : Int))) = true
      rw [decide_eq_true (by omega), Bool.or_true]
theorem opK_agree (k : Int) (i : Int × Int) (s : RS) : AgreeO (opK k i s) (opQK k i s) := by
  unfold opK opQK
  by_cases h3 : k = 3
  · rw [if_pos h3, if_pos h3]
    rcases corn_agree s with ⟨a, b⟩ | ⟨e, ha⟩
    · exact .inl ⟨.inl (cornR_bad a), .inl (cornQ_bad b)⟩
    · rw [← e]
      rcases corn_agree (cornR s).2 with ⟨a, b⟩ | ⟨e2, hb⟩
      · exact .inl ⟨.inl a, .inl b⟩
      · rw [← e2]; exact .inr ⟨rfl, hb⟩
  rw [if_neg h3, if_neg h3]
  by_cases h5 : k = 5
  · rw [if_pos h5, if_pos h5]
    generalize idR s = a
    generalize idR a.2 = b
    obtain ⟨v, xs, bd⟩ := b
    cases xs with
    | nil =>
      refine .inl ⟨.inl ?_, .inl rfl⟩
      show (takenV (uptoV 3) ([], bd)).2.2 = true
      rw [upto_nil]
    | cons c r =>
      show AgreeO (opK5 k i a (v, (c :: r, bd)) (takenV (uptoV 3) (c :: r, bd))) (opK5 k i a (v, (c :: r, bd)) (oneV (c :: r, bd)))
      rw [upto_cons, oneV_cons]
      by_cases hc : c.toNat ≤ 3
      · rw [if_pos hc]; exact agree_o (agree_eq _)
      · rw [if_neg hc]
        refine .inl ⟨.inl rfl, .inr fun hm => ?_⟩
        have hg := (good_of hm).k5 h5
        have : (c.toNat : Int) ≤ 3 := hg.2.2.2
        omega
  rw [if_neg h5, if_neg h5]
  by_cases h6 : k = 6
  · rw [if_pos h6, if_pos h6]; exact agree_o (agree_eq _)
  rw [if_neg h6, if_neg h6]
  by_cases h7 : k = 7
  · rw [if_pos h7, if_pos h7]
    rcases flag_agree s with ⟨a, b⟩ | ⟨e, ha⟩
    · exact .inl ⟨.inl (taken_bad _ a), .inl (taken_bad _ b)⟩
    · have e1 : (takenV (uptoV 1) s).1 = (oneV s).1 := by rw [e]
      have e2 : (takenV (uptoV 1) s).2 = more (oneV s) := by rw [e]
      rw [e1, e2]; exact agree_o (agree_eq _)
  rw [if_neg h7, if_neg h7]
  by_cases h8 : k = 8
  · rw [if_pos h8, if_pos h8]
    rcases flag_agree s with ⟨a, b⟩ | ⟨e, ha⟩
    · exact .inl ⟨.inl (taken_bad _ a), .inl (taken_bad _ b)⟩
    · have e1 : (takenV (uptoV 1) s).1 = (oneV s).1 := by rw [e]
      have e2 : (takenV (uptoV 1) s).2 = more (oneV s) := by rw [e]
      rw [e1, e2]; exact agree_o (agree_eq _)
  rw [if_neg h8, if_neg h8]; exact agree_o (agree_eq _)
theorem op_agree (s : RS) : AgreeO (opR s) (opQ s) := by
  obtain ⟨xs, b⟩ := s
  cases xs with
  | nil =>
    refine .inl ⟨.inl ?_, .inl ?_⟩
    · exact opK_bad _ _ (taken_bad _ (by rw [upto_nil]))
    · exact opQK_bad _ _ (taken_bad _ rfl)
  | cons c r =>
    by_cases hc : c.toNat ≤ 8
    · have e : takenV (uptoV 8) (c :: r, b) = oneV (c :: r, b) := by rw [upto_cons, oneV_cons, if_pos hc]
      show AgreeO (opK (takenV (uptoV 8) (c :: r, b)).1 (idR (takenV (uptoV 8) (c :: r, b)).2).1 (idR (takenV (uptoV 8) (c :: r, b)).2).2) (opQ (c :: r, b))
      rw [e]; exact opK_agree _ _ _
    · refine .inl ⟨.inl (opK_bad _ _ (taken_bad _ (by rw [upto_cons, if_neg hc]))), .inr fun hm => ?_⟩
      have hk := (good_of hm).kd
      have hkd : (opQ (c :: r, b)).1.kd = (c.toNat : Int) := by
        show (opQK (c.toNat : Int) _ _).1.kd = _
        unfold opQK
        rw [if_neg (by omega), if_neg (by omega), if_neg (by omega), if_neg (by omega), if_neg (by omega)]
        rfl
      omega
def DoomedL (x : List OpV × RS) : Prop := x.2.2 = true ∨ ∃ o ∈ x.1, mayV o ≠ 0
theorem runs_bad (f : RS → OpV × RS) (k : Nat) {s : RS} (h : s.2 = true) : (runs f k s).2.2 = true := by
  cases k with
  | zero => exact h
  | succ k => simp only [runs]; rw [if_pos h]; exact h
theorem runs_doomed (f : RS → OpV × RS) (k : Nat) {s : RS} (h : s.2 = false) (hd : Doomed (f s)) : DoomedL (runs f (k + 1) s) := by
  simp only [runs]
  rw [if_neg (by rw [h]; decide)]
  rcases hd with hd | hd
  · exact .inl (runs_bad f k hd)
  · exact .inr ⟨_, by simp, hd⟩
theorem runs_agree : ∀ (k : Nat) (s : RS), s.2 = false → (DoomedL (runs opR k s) ∧ DoomedL (runs opQ k s)) ∨ runs opR k s = runs opQ k s
  | 0, s, _ => .inr rfl
  | k + 1, s, h => by
    rcases op_agree s with ⟨a, b⟩ | ⟨e, hb⟩
    · exact .inl ⟨runs_doomed _ k h a, runs_doomed _ k h b⟩
    · have hn : ¬ s.2 = true := by rw [h]; decide
      simp only [runs]
      rw [if_neg hn, if_neg hn, ← e]
      rcases runs_agree k (opR s).2 hb with ⟨a, b⟩ | e2
      · refine .inl ⟨?_, ?_⟩
        · exact a.imp id fun ⟨o, ho, h⟩ => ⟨o, List.mem_cons_of_mem _ ho, h⟩
        · exact b.imp id fun ⟨o, ho, h⟩ => ⟨o, List.mem_cons_of_mem _ ho, h⟩
      · rw [e2]; exact .inr rfl
theorem runs_len (f : RS → OpV × RS) : ∀ (k : Nat) (s : RS), ¬ (runs f k s).2.2 = true → (runs f k s).1.length = k
  | 0, s, _ => rfl
  | k + 1, s, h => by
    simp only [runs] at h ⊢
    split at h
    · rename_i hs; exact absurd hs h
    · rename_i hs
      rw [if_neg hs, List.length_cons, runs_len f k (f s).2 h]
theorem doomed_may {x : List OpV × RS} (h : DoomedL x) : x.2.2 = true ∨ mayEditV x.1 ≠ 0 := by
  rcases h with h | ⟨o, ho, h⟩
  · exact .inl h
  · refine .inr fun hm => h ?_
    unfold mayEditV at hm
    split at hm
    · cases hm
    · exact firstBad_all hm o ho
theorem take_same (bs : List UInt8) : takeR bs = takeQ bs := by
  unfold takeR takeQ
  cases bs with
  | nil =>
    rw [upto_nil, oneV_nil]
    simp [takeK, takeQK, runs]
  | cons c r =>
    rw [upto_cons, oneV_cons]
    by_cases hc : c.toNat ≤ 6
    · rw [if_pos hc]
      have e : min (c.toNat : Int).toNat 7 = (c.toNat : Int).toNat := by omega
      show takeK (c :: r) (runs opR (c.toNat : Int).toNat (r, false)) = takeQK (c :: r) (c.toNat : Int) (runs opQ (min (c.toNat : Int).toNat 7) (r, false))
      rw [e]
      rcases runs_agree (c.toNat : Int).toNat (r, false) rfl with ⟨a, b⟩ | e2
      · unfold takeK takeQK
        rw [if_pos (doomed_may a), if_pos ((doomed_may b).imp id .inr)]
      · rw [e2]
        have hlen := runs_len opQ (c.toNat : Int).toNat (r, false)
        generalize runs opQ (c.toNat : Int).toNat (r, false) = X at hlen ⊢
        unfold takeK takeQK
        by_cases h1 : X.2.2 = true
        · rw [if_pos (.inl h1), if_pos (.inl h1)]
        · have := hlen h1
          by_cases h2 : mayEditV X.1 ≠ 0
          · rw [if_pos (.inr h2), if_pos (.inr (.inr h2))]
          · rw [if_neg (by rintro (h | h); exact h1 h; exact h2 h), if_neg (by
              rintro (h | h | h)
              · exact h1 h
              · exact h (by omega)
              · exact h2 h)]
    · rw [if_neg hc]
      have e : min (c.toNat : Int).toNat 7 = 7 := by omega
      show takeK (c :: r) ([], (c :: r, true)) = takeQK (c :: r) (c.toNat : Int) (runs opQ (min (c.toNat : Int).toNat 7) (r, false))
      rw [e]
      have hlen := runs_len opQ 7 (r, false)
      generalize runs opQ 7 (r, false) = X at hlen ⊢
      unfold takeK takeQK
      rw [if_pos (.inl rfl)]
      by_cases h1 : X.2.2 = true
      · rw [if_pos (.inl h1)]
      · have := hlen h1
        rw [if_pos (.inr (.inr (by unfold mayEditV; rw [if_pos (by omega)]; decide)))]
end Go.Proofs.YtfjenamomipmdaaDoor
