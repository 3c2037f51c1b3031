/- ScriptJoins: plain. -/
import Derived.Test.YtfjenamomipmdaaDoorSdG
import Derived.Test.YtfjenamomipmdaaDoorSdH
import Derived.Test.YtfjenamomipmdaaDoorSdJ
set_option linter.unusedSimpArgs false
set_option linter.unusedVariables false
namespace Go.Proofs.YtfjenamomipmdaaDoor
open Go Go.RowKit Go.Proofs Go.Trc Go.Sx
theorem line_0g : lineV [48, 103] = (zeroS, 240) := by
  rw [← line_same, refLineV, if_neg (by decide)]
/-- A line that is none, behind steps that were printed. -/
theorem parse_0g {ls : List StepV} {r : List UInt8} (h : ∀ x ∈ ls, rngs x ∧ (putS x).2 = 0) (hl : (ls.flatMap lineB ++ (48 :: 103 :: 10 :: r)).length ≤ 65536) (hn : ls.length + 1 + r.count 10 ≤ 2048) :
    parseV (ls.flatMap lineB ++ (48 :: 103 :: 10 :: r)) = ([], (ls.length : Int) + 1, 240) := by
  have hc : (ls.flatMap lineB ++ (48 :: 103 :: 10 :: r)).count 10 = ls.length + 1 + r.count 10 := by
    rw [List.count_append, lines_count]
    simp only [List.count_cons]
    simp
    omega
  rw [parseV, if_neg (by rw [hc]; omega)]
  obtain ⟨f', h1, h2⟩ := parse_lines ls [] _ (48 :: 103 :: 10 :: r) h (Nat.le_refl _)
  rw [h2, List.nil_append, show (48 :: 103 :: 10 :: r : List UInt8) = [48, 103] ++ 10 :: r from rfl, parse_step (by decide) (by simpa using h1), line_0g, if_neg (by decide)]
end Go.Proofs.YtfjenamomipmdaaDoor


/- ScriptJoins: what its walk leans on. -/
set_option linter.unusedSimpArgs false
set_option linter.unusedVariables false
namespace Go.Proofs.YtfjenamomipmdaaDoor
open Go Go.RowKit Go.Proofs Go.Trc Go.Sx
/-- One step of a row, as a row. -/
theorem mid_s {w : World} {ok : Nat → Prop} {A : Option Addr} {n c k m : Nat} {xs : List StepV} (h : Sl w ok (.slice A n c) xs) (hk : k ≤ m) (hm : m ≤ n) :
    ∃ A', (∀ w', (Instr.sliceAt 51 (.slice A n c) (some (.int .i64 (k : Int))) (some (.int .i64 (m : Int))) none).run Tryd.prog w' = .ok (.slice A' (m - k) (c - k)) w') ∧ Sl w ok (.slice A' (m - k) (c - k)) ((xs.take m).drop k) := by
  obtain ⟨i, hi, _, hsz, _⟩ := info_parts infoS
  have hn := h.len_eq
  have s1 := h.take m c (by omega) (by omega) (Nat.le_refl _)
  refine ⟨_, fun w' => ?_, s1.drop k (by rw [List.length_take]; omega)⟩
  have h0 : (0 : Int) ≤ k := by omega
  have h1 : (k : Int) ≤ m := by omega
  have h2 : (0 : Int) ≤ m := by omega
  have h3 : (m : Int) ≤ c := by omega
  have h4 : m ≤ c := by omega
  have e : Rep.sz StepV = 5 := rfl
  simp [Instr.sliceAt, run_underlying Tryd.underlying51, Instr.slice, Instr.sliceBounds, Instr.sliceBound, asIntOf, h0, h1, h2, h3, h4, hk, Go.Sx.run_sizeOf hi, hsz, e]
theorem print_one (x : StepV) : printV [x] = if (putS x).2 = 0 then (lineB x, 0) else ([], (putS x).2) := by
  rw [printV, if_neg (by simp)]
  by_cases h1 : (putS x).2 = 0
  · rw [if_pos h1, find_no (by simpa using h1)]; simp
  · have : badS x = true := by simp [badS, h1]
    rw [if_neg h1, List.find?_cons_of_pos this]
/-- A row of steps, past another row that grows. -/
theorem RowsT.past {base : Nat} {w w' : World} {v : Value} {ls : List StepV} {row : Option Nat} (h : RowsT base w v ls) (g : w.grownBy w' row) (hne : v.ownBlock ≠ row) (k : StT w w') : RowsT base w' v ls := by
  obtain ⟨hs, o, a⟩ := h
  exact ⟨hs, o.keep g (.inr hne), al_stt a k⟩
end Go.Proofs.YtfjenamomipmdaaDoor


/- ScriptJoins. -/
set_option linter.unusedSimpArgs false
set_option linter.unusedVariables false
namespace Go.Proofs.YtfjenamomipmdaaDoor
open Go Go.RowKit Go.Proofs Go.Trc Go.Sx
theorem okS_append (l m : List StepV) : okS (l ++ m) = okS l ++ okS m := List.filter_append ..
theorem okS_len (l : List StepV) : (okS l).length ≤ l.length := List.length_filter_le _ _
theorem okS_lines (l : List StepV) : ((okS l).flatMap lineB).length ≤ 600 * l.length := by
  have := lines_len (l := okS l) fun x hx => (okS_mem hx).2
  have := okS_len l
  omega
theorem bsz (xs : List UInt8) : (⟨xs.toArray⟩ : ByteArray).size = xs.length := by show xs.toArray.size = _; simp
theorem both_lo {F1 F2 : List StepV} {k : Nat} (h : k < (F1 ++ F2).length) (h1 : k < F1.length) :
    okS (F1.take (k + 1)) = (if (putS (F1 ++ F2)[k]).2 = 0 then okS (F1.take k) ++ [(F1 ++ F2)[k]] else okS (F1.take k)) ∧ F2.take (k + 1 - F1.length) = F2.take (k - F1.length) := by
  have e : (F1 ++ F2)[k] = F1[k] := List.getElem_append_left h1
  rw [e]
  exact ⟨okS_take F1 k h1, by rw [show k + 1 - F1.length = 0 by omega, show k - F1.length = 0 by omega]⟩
theorem both_hi {F1 F2 : List StepV} {k : Nat} (h : k < (F1 ++ F2).length) (h1 : F1.length ≤ k) :
    okS (F2.take (k + 1 - F1.length)) = (if (putS (F1 ++ F2)[k]).2 = 0 then okS (F2.take (k - F1.length)) ++ [(F1 ++ F2)[k]] else okS (F2.take (k - F1.length))) ∧ F1.take (k + 1) = F1.take k := by
  have e : (F1 ++ F2)[k] = F2[k - F1.length]'(by rw [List.length_append] at h; omega) := List.getElem_append_right h1
  rw [e, show k + 1 - F1.length = k - F1.length + 1 by omega]
  exact ⟨okS_take F2 _ _, by rw [List.take_of_length_le (by omega), List.take_of_length_le h1]⟩
theorem add_line (l : List StepV) (x : StepV) : (l ++ [x]).flatMap lineB = l.flatMap lineB ++ lineB x := by rw [List.flatMap_append]; simp
set_option maxHeartbeats 4000000 in
theorem scJoins_wk {w : World} {ok ok' : Nat → Prop} {A A3 : Option Addr} {n c n4 c5 : Nat} {ls ms : List StepV} (h : Sl w ok (.slice A n c) ls) (h' : Sl w ok' (.slice A3 n4 c5) ms) :
    Calls Tryd.prog 13 #[.slice A n c, .slice A3 n4 c5] w (Ret (.bool true) w) := by
  refine scJoins_sx _ (fun b => some b = none) w A n c A3 n4 c5 ?_
  refine (shown23_c w).mono ?_
  rintro e w1 ⟨rfl, b1⟩
  have f1 := (Fr.refl (fun b => some b = none) w).step b1
  refine ⟨_, rfl, ok_ret b1 (Fr.refl _ _), fun g7 hg7 w2 f2 b2 lo7 t7 => ?_⟩
  refine (few23_c ((h.below b1).below b2)).mono ?_
  rintro e w3 ⟨A8, n9, n10, rfl, R3, b3⟩
  have f3 := f2.step b3
  refine ⟨A8, n9, n10, rfl, ok_ret b3 f2, fun g11 hg11 w4 f4 b4 lo11 t11 => ?_⟩
  have l7 := heap_lt t7
  have t7' := (b4.block g7 (Nat.lt_of_lt_of_le l7 b3.size)).trans ((b3.block g7 l7).trans t7)
  have R4 := R3.below b4
  generalize hF1 : fewS ls = F1 at R3 R4 ⊢
  have hl1 : F1.length ≤ 30 := by rw [← hF1]; unfold fewS; rw [List.length_map, List.length_take]; omega
  obtain ⟨hs1, o1, al1⟩ := R4
  have r4 : Rw none w3 w3.heap.size 54 w4 (.slice (some ⟨g11, 0, none⟩) 0 0) ([] : List HdS) [g11, g7] := Rw.first ((Fr.refl _ _).step b4) lo11 t11 (by
    simp only [List.mem_cons, List.not_mem_nil, or_false]
    rintro _ (rfl | rfl)
    · exact heap_lt t11
    · exact heap_lt t7')
  have n9e : n9 = F1.length := R3.len
  have hh1 : hs1.length = F1.length := al1.1
  obtain ⟨w5, A12, n13, n14, hr5, m5, r5, gr5, -⟩ := r4.append2 51 51 _ 56 Tryd.underlying51 infoS rfl (o1.to (ok := fun _ => True) fun _ _ => trivial).arg (by simp; omega) (by simp; omega)
  refine ⟨w5, A12, n13, n14, hr5, ⟨f3.step (fr_below (fr_none m5.1)), m5.2⟩, ?_⟩
  have t7a := (m5.2.2 g7 (by simp) (heap_lt t7')).trans t7'
  have al5 := al_stt al1 (stT_app r4.own gr5)
  have f5 := f3.step (fr_below (fr_none r5.fr))
  refine (few23_c (h'.below (fr_below (fr_none f5)))).mono ?_
  rintro e w6 ⟨A15, n16, n17, rfl, R6, b6⟩
  generalize hF2 : fewS ms = F2 at R6
  have hl2 : F2.length ≤ 30 := by rw [← hF2]; unfold fewS; rw [List.length_map, List.length_take]; omega
  refine ⟨A15, n16, n17, rfl, ok_ret b6 f5, ?_⟩
  have r6 := r5.below b6
  have al6 := al_stt al5 (stT_below b6)
  obtain ⟨hs2, o2, al2⟩ := R6
  have hh2 : hs2.length = F2.length := al2.1
  obtain ⟨w7, A18, n19, n20, hr7, m7, r7, gr7, -⟩ := r6.append2 51 51 _ 56 Tryd.underlying51 infoS rfl (o2.to (ok := fun _ => True) fun _ _ => trivial).arg (by simp; omega) (by simp; omega)
  refine ⟨w7, A18, n19, n20, hr7, ⟨f3.step (fr_below (fr_none m7.1)), m7.2⟩, ?_⟩
  have f7 := f3.step (fr_below (fr_none r7.fr))
  have t7b := (m7.2.2 g7 (by simp) (Nat.lt_of_lt_of_le (heap_lt t7a) b6.size)).trans ((b6.block g7 (heap_lt t7a)).trans t7a)
  have al7 : Al (IsS w7) (hs1 ++ hs2) (F1 ++ F2) := (al_stt al6 (stT_app r6.own gr7)).append (al_stt al2 (stT_app r6.own gr7))
  have R7 : RowsT w3.heap.size w7 (.slice A18 n19 n20) (F1 ++ F2) := ⟨_, by simpa using r7.own, al7⟩
  have hB : ∀ j, (Value.slice A18 n19 n20).ownBlock = some j → w3.heap.size ≤ j ∧ j < w7.heap.size := fun j hj => Own.lt r7.own j hj
  have hn19 : n19 = F1.length + F2.length := by have := R7.len; rw [List.length_append] at this; exact this
  have g7lt3 : g7 < w3.heap.size := Nat.lt_of_lt_of_le l7 b3.size
  refine ⟨fun A21 n22 n23 s i t j w' => ∃ k : Nat, j = (k : Int) ∧ k ≤ F1.length + F2.length ∧ s = ⟨((okS (F1.take k)).flatMap lineB).toArray⟩ ∧ i = ((okS (F1.take k)).length : Nat) ∧ t = ⟨((okS (F2.take (k - F1.length))).flatMap lineB).toArray⟩ ∧ w7.heap.size ≤ w'.heap.size ∧
    RowsT w3.heap.size w' (.slice A18 n19 n20) (F1 ++ F2) ∧ ∃ hs : List HdS, Rw none w1 w1.heap.size 54 w' (.slice A21 n22 n23) hs [g11, g7] ∧ Al (IsS w') hs (okS ((F1 ++ F2).take k)) ∧ ∀ j, (Value.slice A21 n22 n23).ownBlock = some j → j = g7 ∨ w7.heap.size ≤ j, fun _ _ _ _ _ _ j _ => (n19 - j : Int).toNat, ?_, ?_⟩
  · refine ⟨0, rfl, Nat.zero_le _, rfl, rfl, by rw [Nat.zero_sub]; rfl, Nat.le_refl _, R7, [], ⟨OwnF.cells [] 0 rfl lo7 t7b (by decide) (by simp), none_fr ((Fr.refl _ _).step b2 |>.step b3 |>.step (fr_below (fr_none r7.fr))), fun k hk => (by rw [tail_full] at hk; cases hk), ?_, Nat.le_refl _⟩, Al.nil, fun j hj => .inl (by simp only [Value.ownBlock, Option.some.injEq] at hj; exact hj.symm)⟩
    intro g hg
    exact r7.names g hg
  rintro A21 n22 n23 _ _ _ _ w8 f8 ⟨k, rfl, hk, rfl, rfl, rfl, hsz8, RB, hs, q, al, hown⟩
  have hbk : ((F1 ++ F2).take k).length ≤ 60 := by rw [List.length_take, List.length_append]; omega
  have hhs : hs.length ≤ 60 := by
    rw [al.1]
    exact Nat.le_trans (okS_len _) hbk
  refine ⟨fun hlt => ?_, fun hge => ?_⟩
  · have hk' : k < (F1 ++ F2).length := by rw [List.length_append]; omega
    have hlen : (F1 ++ F2).length = F1.length + F2.length := List.length_append
    obtain ⟨A28, hr, sx⟩ := mid_s RB.sl (k := k) (m := k + 1) (by omega) (by omega)
    have e1 : ((F1 ++ F2).take (k + 1)).drop k = [(F1 ++ F2)[k]] := by
      rw [List.take_add_one, List.getElem?_eq_getElem hk', List.drop_append_of_le_length (by rw [List.length_take]; omega), List.drop_of_length_le (by rw [List.length_take]; omega)]
      rfl
    rw [e1] at sx
    rw [wrap_in (by omega)]
    refine ⟨A28, _, _, by rw [show (k : Int) + 1 = ((k + 1 : Nat) : Int) by omega]; exact hr _, ?_⟩
    refine (scPrint_c sx).mono ?_
    rw [print_one]
    by_cases h0 : (putS (F1 ++ F2)[k]).2 = 0
    · rw [if_pos h0]
      rintro e w9 ⟨rfl, b9⟩
      have f9 := f8.step b9
      refine ⟨_, _, rfl, ok_ret b9 f8, fun hne => absurd rfl hne, fun _ => ?_⟩
      obtain ⟨hsB, oB, aB⟩ := RB.below b9
      have hkh : k < hsB.length := by rw [aB.1]; exact hk'
      obtain ⟨p, o, hA, _, _, hwf, hc⟩ := Sl.cells oB.sl k hkh
      have hkB := aB.2 k hkh hk'
      refine ⟨by omega, hlt, p, o, hA, _, _, _, _, _, _, _, hc, fun g42 hg42 w10 f10 b10 lo42 t42 => ?_⟩
      have RB10 : RowsT w3.heap.size w10 (.slice A18 n19 n20) (F1 ++ F2) := (RB.below b9).below b10
      have q10 := (q.below b9).on b10 [g42] (by simp only [List.mem_singleton]; rintro _ rfl; exact ⟨lo42, heap_lt t42⟩)
      have al10 := al_stt (al_stt al (stT_below b9)) (stT_below b10)
      have new : IsS w10 hsB[k] (F1 ++ F2)[k] := ⟨hkB.1, hkB.2.1, hkB.2.2.1, hkB.2.2.2.1, Sl.stt hkB.2.2.2.2 (stT_below b10)⟩
      obtain ⟨w11, A43, n44, n45, hr11, m11, q11, gr11, ob11, -⟩ := q10.append2 51 51 _ 56 Tryd.underlying51 infoS rfl (arg_cells [hsB[k]] 1 rfl t42 (by decide) (by simp only [List.mem_singleton]; rintro _ rfl; exact hwf)) (by simp; omega) (by simp; omega)
      have hT : StT w10 w11 := stT_app q10.own gr11
      have z8 : w7.heap.size ≤ w10.heap.size := Nat.le_trans hsz8 (Nat.le_trans b9.size b10.size)
      have al11 : Al (IsS w11) (hs ++ [hsB[k]]) (okS ((F1 ++ F2).take (k + 1))) := by
        rw [okS_take _ k hk', if_pos h0]
        exact al_stt (al10.append (Al.one new)) hT
      have hob : (Value.slice A18 n19 n20).ownBlock = some p := by rw [hA]; rfl
      have hne : (Value.slice A18 n19 n20).ownBlock ≠ tail (.slice A21 n22 n23) := by
        rw [hob]
        intro e
        have hp := hB p hob
        rcases tail_own (.slice A21 n22 n23) with h2 | h2
        · rw [h2] at e; cases e
        · rw [h2] at e
          rcases hown p e.symm with h3 | h3 <;> omega
      have R11 := RB10.past gr11 hne hT
      have own11 : ∀ j, (Value.slice A43 n44 n45).ownBlock = some j → j = g7 ∨ w7.heap.size ≤ j := fun j hj => by
        rcases ob11 j hj with h2 | h2
        · exact hown j h2
        · exact .inr (by omega)
      have z11 : w7.heap.size ≤ w11.heap.size := Nat.le_trans z8 (by have := gr11.size; simpa using this)
      have la := okS_lines (F1.take k)
      have lb := okS_lines (F2.take (k - F1.length))
      have lc := okS_len (F1.take k)
      rw [List.length_take] at la lb lc
      have lx := line_len h0
      refine ⟨w11, A43, n44, n45, hr11, ⟨f1.step (fr_below (fr_none m11.1)), m11.2⟩, fun hlo => ?_, fun hhi => ?_⟩
      · obtain ⟨u1, u2⟩ := both_lo (F2 := F2) hk' (by omega)
        rw [if_pos h0] at u1
        refine ⟨_, cat_c ((okS (F1.take k)).flatMap lineB) (lineB (F1 ++ F2)[k]) (by omega), ⟨k + 1, by omega, by omega, by rw [u1, add_line], by rw [u1, wrap_in (by omega), one_len]; rfl, by rw [u2], z11, R11, _, q11.less' (by intro g hg; simp at hg ⊢; omega), al11, own11⟩, by dsimp only; omega⟩
      · obtain ⟨u1, u2⟩ := both_hi (F2 := F2) hk' (by omega)
        rw [if_pos h0] at u1
        refine ⟨_, cat_c ((okS (F2.take (k - F1.length))).flatMap lineB) (lineB (F1 ++ F2)[k]) (by omega), ⟨k + 1, by omega, by omega, by rw [u2], by rw [u2], by rw [u1, add_line], z11, R11, _, q11.less' (by intro g hg; simp at hg ⊢; omega), al11, own11⟩, by dsimp only; omega⟩
    · rw [if_neg h0]
      rintro e w9 ⟨rfl, b9⟩
      have ea : okS ((F1 ++ F2).take (k + 1)) = okS ((F1 ++ F2).take k) := by rw [okS_take _ k hk', if_neg h0]
      have eb : okS (F1.take (k + 1)) = okS (F1.take k) ∧ okS (F2.take (k + 1 - F1.length)) = okS (F2.take (k - F1.length)) := by
        by_cases h1 : k < F1.length
        · obtain ⟨u1, u2⟩ := both_lo (F2 := F2) hk' h1
          rw [if_neg h0] at u1
          exact ⟨u1, by rw [u2]⟩
        · obtain ⟨u1, u2⟩ := both_hi (F2 := F2) hk' (by omega)
          rw [if_neg h0] at u1
          exact ⟨by rw [u2], u1⟩
      refine ⟨_, _, rfl, ok_ret b9 f8, fun _ => ⟨⟨k + 1, by omega, by omega, by rw [eb.1], by rw [eb.1], by rw [eb.2], Nat.le_trans hsz8 b9.size, RB.below b9, hs, q.below b9, by rw [ea]; exact al_stt al (stT_below b9), hown⟩, by dsimp only; omega⟩, fun he => absurd he h0⟩
  · have hkk : k = F1.length + F2.length := by omega
    subst hkk
    have t1 : F1.take (F1.length + F2.length) = F1 := List.take_of_length_le (by omega)
    have t2 : F2.take (F1.length + F2.length - F1.length) = F2 := List.take_of_length_le (by omega)
    have t3 : (F1 ++ F2).take (F1.length + F2.length) = F1 ++ F2 := List.take_of_length_le (by rw [List.length_append]; omega)
    rw [t3, okS_append] at al
    rw [t1, t2]
    have RA : RowsT w1.heap.size w8 (.slice A21 n22 n23) (okS F1 ++ okS F2) := ⟨hs, q.own, al⟩
    have hrg : ∀ x ∈ F1 ++ F2, rngs x := fun x hx => by
      obtain ⟨j, hj, rfl⟩ := List.mem_iff_getElem.1 hx
      exact step_rng RB.sl j hj
    have hg1 : ∀ x ∈ okS F1, rngs x ∧ (putS x).2 = 0 := fun x hx => ⟨hrg x (List.mem_append_left _ (okS_mem hx).1), (okS_mem hx).2⟩
    have hg2 : ∀ x ∈ okS F2, rngs x ∧ (putS x).2 = 0 := fun x hx => ⟨hrg x (List.mem_append_right _ (okS_mem hx).1), (okS_mem hx).2⟩
    have la := okS_lines F1
    have lb := okS_lines F2
    have lc := okS_len F1
    have ld := okS_len F2
    have ca := lines_count (okS F1)
    have cb := lines_count (okS F2)
    have eab : (okS F1).flatMap lineB ++ (okS F2).flatMap lineB = (okS F1 ++ okS F2).flatMap lineB := by rw [List.flatMap_append]
    rw [bsz, bsz, wrap_in (by omega)]
    refine ⟨fun hgt => ret_leaf (fr_none f8) rfl, fun hle => ?_⟩
    refine ⟨_, cat_c ((okS F1).flatMap lineB) ((okS F2).flatMap lineB) (by omega), ?_⟩
    refine (scParse_c w8 ((okS F1).flatMap lineB ++ (okS F2).flatMap lineB)).mono ?_
    have hlen : ((okS F1 ++ okS F2).flatMap lineB).length ≤ 65536 := by rw [← eab, List.length_append]; omega
    have hpar : parseV ((okS F1).flatMap lineB ++ (okS F2).flatMap lineB) = (okS F1 ++ okS F2, 0, 0) := by
      rw [eab]
      exact parse_print (fun x hx => by
        rcases List.mem_append.1 hx with hx | hx
        · exact hg1 x hx
        · exact hg2 x hx) hlen (by rw [List.length_append]; omega)
    rw [hpar]
    rintro e w9 ⟨A29, n30, n31, rfl, R9, b9⟩
    have f9 := f8.step b9
    refine ⟨A29, n30, n31, _, _, rfl, ok_ret b9 f8, ?_⟩
    refine (same23_c R9.sl (RA.below b9).sl).mono ?_
    rintro e w10 ⟨rfl, b10⟩
    have f10 := f9.step b10
    refine ⟨_, rfl, ok_ret b10 f9, _, cat_c ((okS F1).flatMap lineB) [48, 103, 10] (by simp only [List.length_cons, List.length_nil]; omega), _, cat_c ((okS F1).flatMap lineB ++ [48, 103, 10]) ((okS F2).flatMap lineB) (by simp only [List.length_append, List.length_cons, List.length_nil]; omega), ?_⟩
    refine (scParse_c w10 ((okS F1).flatMap lineB ++ [48, 103, 10] ++ (okS F2).flatMap lineB)).mono ?_
    have hp0 : parseV ((okS F1).flatMap lineB ++ [48, 103, 10] ++ (okS F2).flatMap lineB) = ([], ((okS F1).length : Int) + 1, 240) := by
      rw [show (okS F1).flatMap lineB ++ [48, 103, 10] ++ (okS F2).flatMap lineB = (okS F1).flatMap lineB ++ (48 :: 103 :: 10 :: (okS F2).flatMap lineB) by simp]
      exact parse_0g hg1 (by simp only [List.length_append, List.length_cons]; omega) (by omega)
    rw [hp0]
    rintro e w11 ⟨A37, n38, n39, rfl, R11, b11⟩
    have hn38 : n38 = 0 := R11.len
    exact ⟨A37, n38, n39, _, _, rfl, ok_ret b11 f10, fun _ => ⟨fun _ => ⟨fun _ => ⟨fun _ => ⟨fun _ => ⟨fun _ => ret_leaf (fr_none (f10.step b11)) rfl, fun hne => absurd (by rw [wrap_in (by omega)]) hne⟩, fun hne => absurd (by rw [hn38]; rfl) hne⟩, fun hne => absurd rfl hne⟩, fun hne => absurd rfl hne⟩, fun hb => by simp at hb⟩, fun hb => by cases hb⟩
theorem scriptJoins_walk (w : World) (A : Option Addr) (n c : Nat) (ls : List StepV) (h : Sl w (fun b => b < w.heap.size) (.slice A n c) ls) (A3 : Option Addr) (n4 c5 : Nat) (ms : List StepV) (h' : Sl w (fun b => b < w.heap.size) (.slice A3 n4 c5) ms) :
    Calls Tryd.prog 13 #[.slice A n c, .slice A3 n4 c5] w fun e w' => e = .returned (.bool true) ∧ Below w.heap.size w w' := scJoins_wk h h'
end Go.Proofs.YtfjenamomipmdaaDoor
