/- Opcode: Take, Whole. -/
import Derived.Test.YtfjenamomipmdaaDoorOcV
set_option linter.unusedSimpArgs false
set_option linter.unusedVariables false
namespace Go.Proofs.YtfjenamomipmdaaDoor
open Go Go.RowKit Go.Proofs Go.Trc Go.Sx
/-- So many operations, as long as nothing was missed. -/
def runs (f : RS → OpV × RS) : Nat → RS → List OpV × RS
  | 0, s => ([], s)
  | k + 1, s => if s.2 = true then ([], s) else ((f s).1 :: (runs f k (f s).2).1, (runs f k (f s).2).2)
abbrev ES := List OpV × List UInt8 × Int
def takeK (bs : List UInt8) (x : List OpV × RS) : ES := if x.2.2 = true ∨ mayEditV x.1 ≠ 0 then ([], bs, 2) else (x.1, x.2.1, 0)
def takeR (bs : List UInt8) : ES := takeK bs (runs opR (takenV (uptoV 6) (bs, false)).1.toNat (takenV (uptoV 6) (bs, false)).2)
theorem count_size (xs : List UInt8) : (textV xs).1.size ≤ 255 := by
  unfold textV countV
  split
  · rename_i c r
    have := c.toNat_lt
    split
    · show (r.take c.toNat).toArray.size ≤ 255
      rw [List.size_toArray, List.length_take]; omega
    · show (0 : Nat) ≤ 255; decide
  · show (0 : Nat) ≤ 255; decide
theorem numV_rng (xs : List UInt8) : rng (numV xs).1 := by
  unfold numV rng
  split
  · show -9223372036854775808 ≤ (0 : Int) ∧ (0 : Int) ≤ 9223372036854775807; decide
  · show -9223372036854775808 ≤ IntKind.i64.wrap _ ∧ IntKind.i64.wrap _ ≤ 9223372036854775807
    generalize bigV (xs.take 8) = x
    rw [IntKind.wrap_i64]; omega
theorem corn_rng (s : RS) : rng (cornR s).1.2.2.2.2 := by
  have hv := upto_val 2 (idR s).2.1
  have hv : 0 ≤ (takenV (uptoV 2) (idR s).2).1 ∧ (takenV (uptoV 2) (idR s).2).1 ≤ 2 := hv
  unfold cornR cornK
  split
  · show rng ((takenV (uptoV 2) (idR s).2).1 - 1)
    unfold rng; omega
  · show rng 0
    unfold rng; decide
theorem zero_rng : rng 0 := by unfold rng; decide
theorem opK_wf (k : Int) (i : Int × Int) (s : RS) (hk : 0 ≤ k ∧ k ≤ 8) : Fixed.wf (opK k i s).1 := by
  have hkr : rng k := by unfold rng; omega
  have z : (ByteArray.mk #[]).size ≤ maxLen := by decide
  unfold opK
  split
  · exact ⟨⟨hkr, corn_rng _, corn_rng _, zero_rng⟩, z⟩
  · split
    · have hv := upto_val 3 (idR (idR s).2).2.1
      exact ⟨⟨hkr, zero_rng, zero_rng, by show rng (uptoV 3 (idR (idR s).2).2.1).1; unfold rng; omega⟩, z⟩
    · split
      · exact ⟨⟨hkr, zero_rng, zero_rng, zero_rng⟩, z⟩
      · split
        · exact ⟨⟨hkr, zero_rng, zero_rng, zero_rng⟩, Nat.le_trans (count_size (takenV (uptoV 1) s).2.1) (by decide)⟩
        · split
          · exact ⟨⟨hkr, zero_rng, zero_rng, numV_rng _⟩, z⟩
          · exact ⟨⟨hkr, zero_rng, zero_rng, zero_rng⟩, z⟩
theorem opR_wf (s : RS) : Fixed.wf (opR s).1 := opK_wf _ _ _ (upto_val 8 s.1)
/-- A call that takes an edit. -/
def TakeE (w : World) (x : ES) (e : Ending) (w' : World) : Prop :=
  ∃ A n c A' n' c', e = .returned (.tuple #[.agg #[.slice A n c], .slice A' n' c', .int .i64 x.2.2]) ∧ OwnF w' w.heap.size 39 (.slice A n c) x.1 ∧ Sl w' (fun b => b < w.heap.size) (.slice A' n' c') x.2.1 ∧ Below w.heap.size w w'
theorem fr_in {w0 w w' : World} {G : List Nat} (f : Fr (fun b => some b = none) w0 w) (q : Fr (fun b => b ∈ G) w w') (hG : ∀ x ∈ G, w0.heap.size ≤ x) : Fr (fun b => some b = none) w0 w' :=
  ⟨q.os.trans f.os, q.tape.trans f.tape, q.output.trans f.output, Nat.le_trans f.size q.size, fun k hk hn => (q.block k (Nat.lt_of_lt_of_le hk f.size) fun hm => by have := hG k hm; omega).trans (f.block k hk hn)⟩
theorem mild_q {w w' : World} {G H : List Nat} (q : Fr (fun b => b ∈ G) w w') (h : ∀ x ∈ H, x ∉ G) : Mild H w w' := ⟨q.size, fun x hx hl => q.block x hl (h x hx)⟩
/-- A row of one's own, past a call that turns other blocks. -/
theorem Rw.pastG {α : Type} [Rep α] {w0 w w' : World} {e : TypeId} {v : Value} {xs : List α} {G H : List Nat} (h : Rw none w0 w0.heap.size e w v xs G) (q : Fr (fun b => b ∈ H) w w') (hH : ∀ x ∈ H, w0.heap.size ≤ x ∧ v.ownBlock ≠ some x) : Rw none w0 w0.heap.size e w' v xs G := by
  refine ⟨?_, fr_in h.fr q fun x hx => (hH x hx).1, h.blk, fun g hg => Nat.lt_of_lt_of_le (h.names g hg) q.size, h.le⟩
  obtain ⟨cs, ⟨h1, h2⟩, h3, h4⟩ := h.own
  refine ⟨cs, ⟨h1, ?_⟩, h3, ?_⟩
  · rcases h2 with h2 | ⟨g, cap, cur, hv, hb, hg, hr⟩
    · exact .inl h2
    · exact .inr ⟨g, cap, cur, hv, hb, (q.block g (heap_lt hg) fun hm => (hH g hm).2 (by rw [hv]; rfl)).trans hg, hr⟩
  · intro j hj
    exact Rep.mono (fun b hb _ => hb.elim) (h4 j hj)
set_option maxHeartbeats 4000000 in
theorem opcodeTake_c {w : World} {ok : Nat → Prop} {A : Option Addr} {n c : Nat} {xs : List UInt8} (h0 : Sl w ok (.slice A n c) xs) (hl : n ≤ 1000000) :
    Calls Tryd.prog 19 #[.slice A n c] w (TakeE w (takeR xs)) := by
  have h := h0.here
  refine opcodeTake_sx _ (fun b => some b = none) w A n c ?_
  intro g3 hg3 g4 hg4 g5 hg5 w1 f1 b1 lo5 t5 lo4 t4 lo3 t3
  have n54 : g5 ≠ g4 := fun hh => by rw [hh, t4] at t5; cases t5
  have n34 : g3 ≠ g4 := fun hh => by rw [hh, t4] at t3; cases t3
  refine (upto_c w1 6).mono ?_
  rintro e w2 ⟨g0, lo0, rfl, t0, b2⟩
  have f2 := f1.step b2
  refine ⟨_, rfl, ok_ret b2 f1, fun t4' => ?_⟩
  have R2 : Rdr w2 w.heap.size g4 88 (xs, false) := ⟨hg4, A, n, c, t4', hl, h.below (fr_below (fr_none f2))⟩
  refine (take_upto (m := 6) R2 t0).mono ?_
  rintro e w3 ⟨rfl, r3, q3⟩
  have hv : 0 ≤ (takenV (uptoV 6) (xs, false)).1 ∧ (takenV (uptoV 6) (xs, false)).1 ≤ 6 := upto_val 6 xs
  have er : takeR xs = takeK xs (runs opR (takenV (uptoV 6) (xs, false)).1.toNat (takenV (uptoV 6) (xs, false)).2) := rfl
  rw [er]
  generalize takenV (uptoV 6) (xs, false) = K at r3 hv ⊢
  obtain ⟨-, A8, n9, c10, hc3, -, -⟩ := id r3
  have f3 := fr_in f2 q3 (by simp; omega)
  have t5' := (q3.block g5 (Nat.lt_of_lt_of_le (heap_lt t5) b2.size) (by simpa using n54)).trans ((b2.block g5 (heap_lt t5)).trans t5)
  have t3' := (q3.block g3 (Nat.lt_of_lt_of_le (heap_lt t3) b2.size) (by simpa using n34)).trans ((b2.block g3 (heap_lt t3)).trans t3)
  generalize hX : runs opR K.1.toNat K.2 = X
  refine ⟨_, A8, n9, c10, _, rfl, ⟨f3, mild_q q3 (by simp; exact ⟨n54, n34⟩)⟩, hc3, fun i _ _ _ _ A' n' c' w' => ∃ (k : Nat) (l : List OpV) (st : RS), i = (k : Int) ∧ l.length + k ≤ 6 ∧ Rdr w' w.heap.size g4 88 st ∧ Rw none w w.heap.size 39 w' (.slice A' n' c') l [g5, g4, g3] ∧ (l ++ (runs opR k st).1, (runs opR k st).2) = X ∧ (g3 = g5 ∨ ∃ C, w'.heap[g3]? = some (.cells C 25 (0, 0))), fun i _ _ _ _ _ _ _ _ => i.toNat, ?_, ?_⟩
  · refine ⟨K.1.toNat, [], K.2, by show K.1 = _; omega, by simp; omega, r3, Rw.nil (fr_none f3) ?_, by rw [List.nil_append, ← hX], .inr ⟨_, t3'⟩⟩
    intro k hk
    simp only [List.mem_cons, List.not_mem_nil, or_false] at hk
    rcases hk with rfl | rfl | rfl
    · exact heap_lt t5'
    · exact heap_lt hc3
    · exact heap_lt t3'
  rintro _ A13 n14 n15 b16 A17 n18 n19 w4 f4 ⟨k, l, st, rfl, hlen, r4, o4, hX4, h3⟩ u5 u4
  obtain ⟨C3, u3⟩ : ∃ C, w4.heap[g3]? = some (.cells C 25 (0, 0)) := by
    rcases h3 with rfl | h
    · exact ⟨_, u5⟩
    · exact h
  have hb : b16 = st.2 := by
    obtain ⟨-, A0, n0, c0, hc, -, -⟩ := id r4
    rw [u4] at hc
    injection hc with hc
    injection hc with hc
    simp only [Array.mk.injEq, List.cons.injEq, Value.bool.injEq] at hc
    exact hc.2.1
  have hsl : Sl w4 (fun b => b < w.heap.size) (.slice A13 n14 n15) st.1 := by
    obtain ⟨-, A0, n0, c0, hc, -, hs⟩ := id r4
    rw [u4] at hc
    injection hc with hc
    injection hc with hc
    simp only [Array.mk.injEq, List.cons.injEq] at hc
    rw [hc.1]; exact hs
  have g35 : ∀ x ∈ [g3], w.heap.size ≤ x ∧ (Value.slice A17 n18 n19).ownBlock ≠ some x := by
    simp only [List.mem_singleton]; rintro _ rfl; exact ⟨hg3, own_ne' o4.own u3 (by decide)⟩
  have bad : b16 = true → ∀ (w5 : World), Fr (fun b => some b = none) w w5 → k = 0 ∨ 0 < k → TakeE w (takeK xs X) (.returned (.tuple #[.agg #[.slice none 0 0], .slice A n c, .int .i64 2])) w5 := by
    intro hbt w5 f5 _
    have hst : st.2 = true := by rw [← hb]; exact hbt
    have hx2 : X.2.2 = true := by
      rw [← hX4]
      cases k with
      | zero => exact hst
      | succ k => simp only [runs]; rw [if_pos hst]; exact hst
    unfold takeK; rw [if_pos (.inl hx2)]
    exact ⟨none, 0, 0, A, n, c, rfl, OwnF.nil _ _ _, h.below (fr_below (fr_none f5)), fr_below (fr_none f5)⟩
  refine ⟨fun hpos => ⟨fun hbf => ?_, fun hbt w5 f5 q5 => bad hbt w5 f5 (by omega)⟩, fun hz => ⟨fun hbt w5 f5 q5 => bad hbt w5 f5 (by omega), fun hbf => ?_⟩⟩
  · have hst : ¬ st.2 = true := by rw [← hb, hbf]; decide
    obtain ⟨k, rfl⟩ : ∃ k', k = k' + 1 := ⟨k - 1, by omega⟩
    refine ⟨[], by simp, fun w5 f5 b5 u4' => ?_⟩
    refine (rop_c (r4.below b5)).mono ?_
    rintro e w6 ⟨rfl, r6, q6⟩
    obtain ⟨-, A41, n42, c43, hc6, -, -⟩ := id r6
    have o5 := o4.below b5
    have f6 := fr_in f5 q6 (by simp; omega)
    have u55 := (b5.block g5 (heap_lt u5)).trans u5
    have u35 := (b5.block g3 (heap_lt u3)).trans u3
    refine ⟨_, _, _, _, _, _, _, _, _, _, _, _, _, _, _, _, _, _, _, _, A41, n42, c43, _, rfl, ⟨f6, mild_q q6 (by simp; exact ⟨n54, n34⟩)⟩, fun j hj hn => q6.block j (Nat.lt_of_lt_of_le hj b5.size) (by simpa using hn), hc6, ?_⟩
    intro g45 hg45 w7 f7 b7 lo45 t45
    have ow : ∀ x ∈ [g4], w.heap.size ≤ x ∧ (Value.slice A17 n18 n19).ownBlock ≠ some x := by
      simp only [List.mem_singleton]; rintro _ rfl; exact ⟨hg4, own_ne' o4.own u4 (by decide)⟩
    have o7 := (Rw.pastG o5 q6 ow).on b7 [g45] (by simp only [List.mem_singleton]; rintro _ rfl; exact ⟨lo45, heap_lt t45⟩)
    obtain ⟨w8, A46, n47, c48, hr8, m8, o8⟩ := o7.append 23 23 _ 168 Tryd.underlying23 infoOp rfl (arg_cells [(opR st).1] 1 rfl t45 (by decide) (by simp only [List.mem_singleton]; rintro _ rfl; exact opR_wf st)) (by simp; omega) (by simp; omega)
    have u56 := (q6.block g5 (heap_lt u55) (by simpa using n54)).trans u55
    have u36 := (q6.block g3 (heap_lt u35) (by simpa using n34)).trans u35
    have u57 := (b7.block g5 (heap_lt u56)).trans u56
    have u37 := (b7.block g3 (heap_lt u36)).trans u36
    have u58 := (m8.2.2 g5 (by simp) (heap_lt u57)).trans u57
    have u38 := (m8.2.2 g3 (by simp) (heap_lt u37)).trans u37
    have r7 := r6.below b7
    refine ⟨w8, A46, n47, c48, hr8, m8, fun w9 f9 q9 => ⟨⟨k, l ++ [(opR st).1], (opR st).2, by rw [wrap_in (by omega)]; omega, by simp; omega, ?_, ?_, ?_, ?_⟩, by dsimp only; rw [wrap_in (by omega)]; omega⟩⟩
    · obtain ⟨hB7, A0, n0, c0, hc, hn0, hs0⟩ := r7
      have hc8 := (m8.2.2 g4 (by simp) (heap_lt hc)).trans hc
      exact ⟨hB7, A0, n0, c0, (q9.block g4 (heap_lt hc8) (by simp; exact fun hh => n54 hh.symm)).trans hc8, hn0, hs0.mono fun b hbB _ => ⟨hbB, (f9.block b hbB (fun hh => by cases hh)).trans (f7.block b hbB (fun hh => by cases hh)).symm⟩⟩
    · exact (Rw.past o8 q9 hg5 (own_ne' o8.own u58 (by decide))).less' (by intro g hg; simp at hg ⊢; omega)
    · rw [← hX4]; simp only [runs]; rw [if_neg hst]; simp
    · by_cases h35 : g3 = g5
      · exact .inl h35
      · exact .inr ⟨C3, (q9.block g3 (heap_lt u38) (by simpa using h35)).trans u38⟩
  · obtain rfl : k = 0 := by omega
    have hst : st.2 = false := by rw [← hb]; exact hbf
    have hXe : X = (l, st) := by rw [← hX4]; simp [runs]
    refine (mayEdit_c w4 _ A17 n18 n19 l o4.own.sl).mono ?_
    rintro e w5 ⟨rfl, b5⟩
    have o5 := o4.below b5
    refine ⟨_, rfl, ok_ret b5 f4, fun hne w6 f6 q6 => ?_, fun he => ⟨[], by simp, fun w6 f6 q6 => ?_⟩⟩
    · unfold takeK; rw [hXe, if_pos (.inr hne)]
      exact ⟨none, 0, 0, A, n, c, rfl, OwnF.nil _ _ _, h.below (fr_below (fr_none f6)), fr_below (fr_none f6)⟩
    · have hne : ¬ ((l, st).2.2 = true ∨ mayEditV (l, st).1 ≠ 0) := by
        rintro (h1 | h1)
        · have h1 : st.2 = true := h1
          rw [hst] at h1; cases h1
        · exact h1 he
      unfold takeK; rw [hXe, if_neg hne]
      have s5 := hsl.below b5
      exact ⟨A17, n18, n19, A13, n14, n15, rfl, (Rw.pastG o5 q6 g35).own, s5.past q6 (by simp; omega), fr_below (fr_none f6)⟩
end Go.Proofs.YtfjenamomipmdaaDoor
