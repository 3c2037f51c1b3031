/- Opcode: the document's Take; both Wholes. -/
import Derived.Test.YtfjenamomipmdaaDoorOcI
set_option linter.unusedSimpArgs false
set_option linter.unusedVariables false
namespace Go.Proofs.YtfjenamomipmdaaDoor
open Go Go.RowKit Go.Proofs Go.Trc Go.Sx
def takeQK (bs : List UInt8) (n : Int) (x : List OpV × RS) : ES := if x.2.2 = true ∨ ¬ n = (x.1.length : Int) ∨ mayEditV x.1 ≠ 0 then ([], bs, 2) else (x.1, x.2.1, 0)
def takeQ (bs : List UInt8) : ES := takeQK bs (oneV (bs, false)).1 (runs opQ (min (oneV (bs, false)).1.toNat 7) (oneV (bs, false)).2)
theorem opQK_wf (k : Int) (i : Int × Int) (s : RS) (hk : 0 ≤ k ∧ k ≤ 255) : Fixed.wf (opQK k i s).1 := by
  have hkr : rng k := by unfold rng; omega
  have z : (ByteArray.mk #[]).size ≤ maxLen := by decide
  have hc : ∀ s, rng (cornQ s).1.2.2.2.2 := fun s => by
    have hv := one_val (idR s).2
    unfold cornQ cornQK
    split
    · show rng ((oneV (idR s).2).1 - 1); unfold rng; omega
    · exact zero_rng
  unfold opQK
  split
  · exact ⟨⟨hkr, hc _, hc _, zero_rng⟩, z⟩
  · split
    · have hv := one_val (idR (idR s).2).2
      exact ⟨⟨hkr, zero_rng, zero_rng, by show rng (oneV (idR (idR s).2).2).1; unfold rng; omega⟩, z⟩
    · split
      · exact ⟨⟨hkr, zero_rng, zero_rng, zero_rng⟩, z⟩
      · split
        · exact ⟨⟨hkr, zero_rng, zero_rng, zero_rng⟩, Nat.le_trans (count_size (more (oneV s)).1) (by decide)⟩
        · split
          · exact ⟨⟨hkr, zero_rng, zero_rng, numV_rng _⟩, z⟩
          · exact ⟨⟨hkr, zero_rng, zero_rng, zero_rng⟩, z⟩
theorem opQ_wf (s : RS) : Fixed.wf (opQ s).1 := opQK_wf _ _ _ (one_val s)
set_option maxHeartbeats 4000000 in
theorem ref10Take_c {w : World} {ok : Nat → Prop} {A : Option Addr} {n c : Nat} {xs : List UInt8} (h0 : Sl w ok (.slice A n c) xs) (hl : n ≤ 1000000) :
    Calls Tryd.prog 20 #[.slice A n c] w (TakeE w (takeQ xs)) := by
  have h := h0.here
  refine ref10Take_sx _ (fun b => some b = none) w A n c ?_
  intro g3 hg3 g4 hg4 w1 f1 b1 lo4 t4 lo3 t3
  have n34 : g3 ≠ g4 := fun hh => by rw [hh, t4] at t3; cases t3
  have R1 : Rdr w1 w.heap.size g4 TQ (xs, false) := ⟨hg4, A, n, c, t4, hl, h.below (fr_below (fr_none f1))⟩
  refine (qone_c R1).mono ?_
  rintro e w2 ⟨rfl, r2, q2⟩
  have hv := one_val (xs, false)
  have er : takeQ xs = takeQK xs (oneV (xs, false)).1 (runs opQ (min (oneV (xs, false)).1.toNat 7) (oneV (xs, false)).2) := rfl
  rw [er]
  generalize oneV (xs, false) = K at r2 hv ⊢
  obtain ⟨-, A8, n9, c10, hc2, -, -⟩ := id r2
  have f2 := fr_in f1 q2 (by simp; omega)
  have t3' := (q2.block g3 (heap_lt t3) (by simpa using n34)).trans t3
  generalize hX : runs opQ (min K.1.toNat 7) K.2 = X
  refine ⟨_, A8, n9, c10, _, rfl, ⟨f2, mild_q q2 (by simp; exact n34)⟩, hc2, fun g5 hg5 => ⟨fun i _ _ _ _ A' n' c' w' => ∃ (k : Nat) (l : List OpV) (st : RS), i = (l.length : Int) ∧ l.length + k = min K.1.toNat 7 ∧ Rdr w' w.heap.size g4 TQ st ∧ Rw none w w.heap.size 39 w' (.slice A' n' c') l [g5, g4, g3] ∧ (l ++ (runs opQ k st).1, (runs opQ k st).2) = X ∧ g5 ≠ g4 ∧ (g3 = g5 ∨ ∃ C, w'.heap[g3]? = some (.cells C 25 (0, 0))), fun i _ _ _ _ _ _ _ _ => (7 - i).toNat, ?_, ?_⟩⟩
  · intro w3 f3 b3 lo5 t5
    have t34 := (b3.block g3 (heap_lt t3')).trans t3'
    have t44 := (b3.block g4 (heap_lt hc2)).trans hc2
    refine ⟨min K.1.toNat 7, [], K.2, rfl, by simp, r2.below b3, Rw.nil (fr_none f3) ?_, by rw [List.nil_append, ← hX], fun hh => (by rw [hh, t44] at t5; cases t5), .inr ⟨_, t34⟩⟩
    intro k hk
    simp only [List.mem_cons, List.not_mem_nil, or_false] at hk
    rcases hk with rfl | rfl | rfl
    · exact heap_lt t5
    · exact heap_lt t44
    · exact heap_lt t34
  rintro _ A13 n14 n15 b16 A17 n18 n19 w4 f4 ⟨k, l, st, rfl, hlen, r4, o4, hX4, n54, h3⟩ u5 u4
  obtain ⟨C3, u3⟩ : ∃ C, w4.heap[g3]? = some (.cells C 25 (0, 0)) := by
    rcases h3 with rfl | h
    · exact ⟨_, u5⟩
    · exact h
  have hb : b16 = st.2 := by
    obtain ⟨-, A0, n0, c0, hc, -, -⟩ := id r4
    rw [u4] at hc
    injection hc with hc
    injection hc with hc
    simp only [Array.mk.injEq, List.cons.injEq, Value.bool.injEq] at hc
    exact hc.2.1
  have hsl : Sl w4 (fun b => b < w.heap.size) (.slice A13 n14 n15) st.1 := by
    obtain ⟨-, A0, n0, c0, hc, -, hs⟩ := id r4
    rw [u4] at hc
    injection hc with hc
    injection hc with hc
    simp only [Array.mk.injEq, List.cons.injEq] at hc
    rw [hc.1]; exact hs
  have h18 := o4.own.sl.len
  have g35 : ∀ x ∈ [g3], w.heap.size ≤ x ∧ (Value.slice A17 n18 n19).ownBlock ≠ some x := by
    simp only [List.mem_singleton]; rintro _ rfl; exact ⟨hg3, own_ne' o4.own u3 (by decide)⟩
  have cor : ∀ (w5 : World), Fr (fun b => some b = none) w w5 → (X.2.2 = true ∨ ¬ K.1 = (X.1.length : Int) ∨ mayEditV X.1 ≠ 0) → TakeE w (takeQK xs K.1 X) (.returned (.tuple #[.agg #[.slice none 0 0], .slice A n c, .int .i64 2])) w5 := by
    intro w5 f5 hx
    unfold takeQK; rw [if_pos hx]
    exact ⟨none, 0, 0, A, n, c, rfl, OwnF.nil _ _ _, h.below (fr_below (fr_none f5)), fr_below (fr_none f5)⟩
  have bad : b16 = true → X.2.2 = true := by
    intro hbt
    have hst : st.2 = true := by rw [← hb]; exact hbt
    rw [← hX4]
    cases k with
    | zero => exact hst
    | succ k => simp only [runs]; rw [if_pos hst]; exact hst
  have out : k = 0 → b16 = false → K.1 = (n18 : Int) → Calls Tryd.prog 39 #[.agg #[.slice A17 n18 n19]] w4 fun r w5 => ∃ i19 : Int, r = .returned (.int .i64 i19) ∧ (Fr (fun b => some b = none) w w5 ∧ Mild [g5, g4, g3] w4 w5) ∧ ((¬ i19 = (0 : Int) → ∀ w6 : World, Fr (fun b => some b = none) w w6 → Fr (fun b => b ∈ [g3]) w5 w6 → TakeE w (takeQK xs K.1 X) (.returned (.tuple #[.agg #[.slice none 0 0], .slice A n c, .int .i64 (2 : Int)])) w6) ∧
      (i19 = (0 : Int) → ∃ T20 : List Nat, (∀ b ∈ T20, b < w5.heap.size ∧ b ∉ [g5, g4, g3]) ∧ ∀ w6 : World, Fr (fun b => some b = none) w w6 → Fr (fun b => b ∈ [g3]) w5 w6 → TakeE w (takeQK xs K.1 X) (.returned (.tuple #[.agg #[.slice A17 n18 n19], .slice A13 n14 n15, .int .i64 (0 : Int)])) w6)) := by
    rintro rfl hbf hK
    have hst : st.2 = false := by rw [← hb]; exact hbf
    have hXe : X = (l, st) := by rw [← hX4]; simp [runs]
    refine (ref_mayEdit_c w4 _ A17 n18 n19 l o4.own.sl).mono ?_
    rintro e w5 ⟨rfl, b5⟩
    have o5 := o4.below b5
    refine ⟨_, rfl, ok_ret b5 f4, fun hne w6 f6 q6 => cor w6 f6 (.inr (.inr (by rw [hXe]; exact hne))), fun he => ⟨[], by simp, fun w6 f6 q6 => ?_⟩⟩
    have hne : ¬ ((l, st).2.2 = true ∨ ¬ K.1 = (((l, st).1.length : Nat) : Int) ∨ mayEditV (l, st).1 ≠ 0) := by
      rintro (h1 | h1 | h1)
      · have h1 : st.2 = true := h1
        rw [hst] at h1; cases h1
      · exact h1 (by rw [hK, h18])
      · exact h1 he
    unfold takeQK; rw [hXe, if_neg hne]
    have s5 := hsl.below b5
    exact ⟨A17, n18, n19, A13, n14, n15, rfl, (Rw.pastG o5 q6 g35).own, s5.past q6 (by simp; omega), fr_below (fr_none f6)⟩
  have hK18 : k = 0 → ¬ K.1 = (n18 : Int) → X.2.2 = true ∨ ¬ K.1 = (X.1.length : Int) ∨ mayEditV X.1 ≠ 0 := by
    rintro rfl hK
    have hXe : X = (l, st) := by rw [← hX4]; simp [runs]
    rw [hXe]
    exact .inr (.inl (by rw [← h18]; exact hK))
  refine ⟨fun hlt => ⟨fun h6 => ⟨fun hbf => ?_, fun hbt w5 f5 q5 => cor w5 f5 (.inl (bad hbt))⟩, fun h6 => ⟨fun hbt w5 f5 q5 => cor w5 f5 (.inl (bad hbt)), fun hbf => ⟨fun hK w5 f5 q5 => cor w5 f5 (hK18 (by omega) hK), fun hK => out (by omega) hbf hK⟩⟩⟩, fun hge => ⟨fun hbt w5 f5 q5 => cor w5 f5 (.inl (bad hbt)), fun hbf => ⟨fun hK w5 f5 q5 => cor w5 f5 (hK18 (by omega) hK), fun hK => out (by omega) hbf hK⟩⟩⟩
  have hst : ¬ st.2 = true := by rw [← hb, hbf]; decide
  obtain ⟨k, rfl⟩ : ∃ k', k = k' + 1 := ⟨k - 1, by omega⟩
  refine ⟨[], by simp, fun w5 f5 b5 u4' => ?_⟩
  refine (qop_c (r4.below b5)).mono ?_
  rintro e w6 ⟨rfl, r6, q6⟩
  obtain ⟨-, A41, n42, c43, hc6, -, -⟩ := id r6
  have o5 := o4.below b5
  have f6 := fr_in f5 q6 (by simp; omega)
  have u55 := (b5.block g5 (heap_lt u5)).trans u5
  have u35 := (b5.block g3 (heap_lt u3)).trans u3
  refine ⟨_, _, _, _, _, _, _, _, _, _, _, _, _, _, _, _, _, _, _, _, A41, n42, c43, _, rfl, ⟨f6, mild_q q6 (by simp; exact ⟨n54, n34⟩)⟩, fun j hj hn => q6.block j (Nat.lt_of_lt_of_le hj b5.size) (by simpa using hn), hc6, ?_⟩
  intro g45 hg45 w7 f7 b7 lo45 t45
  have ow : ∀ x ∈ [g4], w.heap.size ≤ x ∧ (Value.slice A17 n18 n19).ownBlock ≠ some x := by
    simp only [List.mem_singleton]; rintro _ rfl; exact ⟨hg4, own_ne' o4.own u4 (by decide)⟩
  have o7 := (Rw.pastG o5 q6 ow).on b7 [g45] (by simp only [List.mem_singleton]; rintro _ rfl; exact ⟨lo45, heap_lt t45⟩)
  obtain ⟨w8, A46, n47, c48, hr8, m8, o8⟩ := o7.append 23 23 _ 168 Tryd.underlying23 infoOp rfl (arg_cells [(opQ st).1] 1 rfl t45 (by decide) (by simp only [List.mem_singleton]; rintro _ rfl; exact opQ_wf st)) (by simp; omega) (by simp; omega)
  have u56 := (q6.block g5 (heap_lt u55) (by simpa using n54)).trans u55
  have u36 := (q6.block g3 (heap_lt u35) (by simpa using n34)).trans u35
  have u57 := (b7.block g5 (heap_lt u56)).trans u56
  have u37 := (b7.block g3 (heap_lt u36)).trans u36
  have u58 := (m8.2.2 g5 (by simp) (heap_lt u57)).trans u57
  have u38 := (m8.2.2 g3 (by simp) (heap_lt u37)).trans u37
  have r7 := r6.below b7
  refine ⟨w8, A46, n47, c48, hr8, m8, fun w9 f9 q9 => ⟨⟨k, l ++ [(opQ st).1], (opQ st).2, by rw [wrap_in (by omega)]; simp, by simp; omega, ?_, ?_, ?_, n54, ?_⟩, by dsimp only; rw [wrap_in (by omega)]; omega⟩⟩
  · obtain ⟨hB7, A0, n0, c0, hc, hn0, hs0⟩ := r7
    have hc8 := (m8.2.2 g4 (by simp) (heap_lt hc)).trans hc
    exact ⟨hB7, A0, n0, c0, (q9.block g4 (heap_lt hc8) (by simp; exact fun hh => n54 hh.symm)).trans hc8, hn0, hs0.mono fun b hbB _ => ⟨hbB, (f9.block b hbB (fun hh => by cases hh)).trans (f7.block b hbB (fun hh => by cases hh)).symm⟩⟩
  · exact (Rw.past o8 q9 hg5 (own_ne' o8.own u58 (by decide))).less' (by intro g hg; simp at hg ⊢; omega)
  · rw [← hX4]; simp only [runs]; rw [if_neg hst]; simp
  · by_cases h35 : g3 = g5
    · exact .inl h35
    · exact .inr ⟨C3, (q9.block g3 (heap_lt u38) (by simpa using h35)).trans u38⟩
end Go.Proofs.YtfjenamomipmdaaDoor
