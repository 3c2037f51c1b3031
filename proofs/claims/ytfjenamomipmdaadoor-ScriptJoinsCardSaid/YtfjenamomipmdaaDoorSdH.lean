/- ScriptBack. -/
import Derived.Test.YtfjenamomipmdaaDoorSdB
import Derived.Test.YtfjenamomipmdaaDoorSdG
import Derived.Test.YtfjenamomipmdaaDoorSdK
import Derived.Test.YtfjenamomipmdaaDoorScS
set_option linter.unusedSimpArgs false
set_option linter.unusedVariables false
namespace Go.Proofs.YtfjenamomipmdaaDoor
open Go Go.RowKit Go.Proofs Go.Trc Go.Sx
theorem parseL_err : ∀ (f : Nat) (l : List StepV) (s : List UInt8), ¬ (parseL f l s).2.2 = 0 → (parseL f l s).1 = []
  | 0, l, s, h => by simp [parseL] at h
  | f + 1, l, s, h => by
    rw [parseL] at h ⊢
    split
    · rename_i hs; rw [if_pos hs] at h; simp at h
    · rename_i hs
      rw [if_neg hs] at h
      split
      · rename_i h1
        rw [if_pos h1] at h
        split
        · rename_i h2; rw [if_pos h2] at h; exact parseL_err f _ _ h
        · rfl
      · rfl
theorem parse_err {s : List UInt8} (h : ¬ (parseV s).2.2 = 0) : (parseV s).1 = [] := by
  unfold parseV at h ⊢
  split
  · rfl
  · rename_i h1; rw [if_neg h1] at h; exact parseL_err _ _ _ h
def okS (l : List StepV) : List StepV := l.filter fun x => decide ((putS x).2 = 0)
theorem okS_take (l : List StepV) (k : Nat) (h : k < l.length) : okS (l.take (k + 1)) = if (putS l[k]).2 = 0 then okS (l.take k) ++ [l[k]] else okS (l.take k) := by
  unfold okS
  rw [List.take_add_one, List.getElem?_eq_getElem h, List.filter_append]
  split
  · rename_i h1; simp [h1]
  · rename_i h1; simp [h1]
theorem okS_mem {l : List StepV} {x : StepV} (h : x ∈ okS l) : x ∈ l ∧ (putS x).2 = 0 := by
  unfold okS at h
  obtain ⟨h1, h2⟩ := List.mem_filter.1 h
  exact ⟨h1, by simpa using h2⟩
set_option maxHeartbeats 2000000 in
theorem scBack_wk {w : World} {ok : Nat → Prop} {A : Option Addr} {n c : Nat} {ls : List StepV} (h : Sl w ok (.slice A n c) ls) (ts : List UInt8) :
    Calls Tryd.prog 12 #[.slice A n c, .string ⟨ts.toArray⟩] w (Ret (.bool true) w) := by
  have hs : (⟨ts.toArray⟩ : ByteArray).size = ts.length := by show ts.toArray.size = _; simp
  refine scBack_sx _ (fun b => some b = none) w A n c _ ?_
  rw [hs]
  refine (shown23_c w).mono ?_
  rintro e w1 ⟨rfl, b1⟩
  have f1 := (Fr.refl (fun b => some b = none) w).step b1
  refine ⟨_, rfl, ok_ret b1 (Fr.refl _ _), ?_⟩
  refine (few23_c (h.below b1)).mono ?_
  rintro e w2 ⟨A5, n6, n7, rfl, R2, b2⟩
  have f2 := f1.step b2
  have hn6 := R2.len
  have hfl : (fewS ls).length ≤ 30 := by unfold fewS; rw [List.length_map, List.length_take]; omega
  refine ⟨A5, n6, n7, rfl, ok_ret b2 f1, ?_⟩
  intro g8 hg8
  refine ⟨fun A n c i w' => ∃ k : Nat, i = (k : Int) ∧ k ≤ (fewS ls).length ∧ ∃ hs : List HdS, Rw none w2 w2.heap.size 54 w' (.slice A n c) hs [g8] ∧ Al (IsS w') hs (okS ((fewS ls).take k)), fun _ _ _ i _ => (n6 - i : Int).toNat, ?_, ?_⟩
  · intro w3 f3 b3 lo8 t8
    exact ⟨0, rfl, Nat.zero_le _, [], Rw.first ((Fr.refl _ _).step b3) lo8 t8 (by simp; exact heap_lt t8), Al.nil⟩
  rintro A9 n10 n11 _ w4 f4 ⟨k, rfl, hk, hs', q, al⟩
  have R24 := R2.below (fr_below (fr_none q.fr))
  refine ⟨fun hlt => ?_, fun hge => ?_⟩
  · have hk' : k < (fewS ls).length := by omega
    obtain ⟨p, o, A1, n1, c1, hA, hc, hs1⟩ := step_at R24.sl k hk'
    refine ⟨by omega, hlt, p, o, hA, _, _, _, _, A1, n1, c1, hc, ?_⟩
    refine (scPut_c _ hs1).mono ?_
    rintro e w5 ⟨A22, n23, n24, rfl, o5, b5⟩
    have f5 := f4.step b5
    have q5 := q.below b5
    have al5 := al_stt al (stT_below b5)
    refine ⟨A22, n23, n24, _, rfl, ok_ret b5 f4, fun h0 => ?_, fun hne => ⟨⟨k + 1, by rw [wrap_in (by omega)]; rfl, hk', hs', q5, by rw [okS_take _ k hk', if_neg hne]; exact al5⟩, by dsimp only; rw [wrap_in (by omega)]; omega⟩⟩
    obtain ⟨hr2, o2, a2⟩ := R24.below b5
    have hkh : k < hr2.length := by rw [a2.1]; exact hk'
    obtain ⟨p', o', hA', _, _, hwf, hc'⟩ := Sl.cells o2.sl k hkh
    have hk2 := a2.2 k hkh hk'
    refine ⟨by omega, hlt, p', o', hA', _, _, _, _, _, _, _, hc', fun g35 hg35 w6 f6 b6 lo35 t35 => ?_⟩
    have q6 := q5.on b6 [g35] (by simp only [List.mem_singleton]; rintro _ rfl; exact ⟨lo35, heap_lt t35⟩)
    have al6 := al_stt al5 (stT_below b6)
    have new : IsS w6 hr2[k] (fewS ls)[k] := ⟨hk2.1, hk2.2.1, hk2.2.2.1, hk2.2.2.2.1, Sl.stt hk2.2.2.2.2 (stT_below b6)⟩
    have hlh : hs'.length ≤ 30 := by
      rw [al.1]
      exact Nat.le_trans (List.length_filter_le _ _) (by rw [List.length_take]; omega)
    obtain ⟨w7, A36, n37, n38, hr7, m7, q7, gr7, -⟩ := q6.append2 51 51 _ 56 Tryd.underlying51 infoS rfl (arg_cells [hr2[k]] 1 rfl t35 (by decide) (by simp only [List.mem_singleton]; rintro _ rfl; exact hwf)) (by simp; omega) (by simp; omega)
    exact ⟨w7, A36, n37, n38, hr7, ⟨f2.step (fr_below (fr_none m7.1)), m7.2⟩, ⟨k + 1, by rw [wrap_in (by omega)]; rfl, hk', _, q7.less' (by intro g hg; simp at hg ⊢; omega), by rw [okS_take _ k hk', if_pos h0]; exact al_stt (al6.append (Al.one new)) (stT_app q6.own gr7)⟩, by dsimp only; rw [wrap_in (by omega)]; omega⟩
  · rw [List.take_of_length_le (by omega)] at al
    have R4 : RowsT w2.heap.size w4 (.slice A9 n10 n11) (okS (fewS ls)) := ⟨hs', q.own, al⟩
    have hol : (okS (fewS ls)).length ≤ 30 := Nat.le_trans (List.length_filter_le _ _) hfl
    have hpr : printV (okS (fewS ls)) = ((okS (fewS ls)).flatMap lineB, 0) := by rw [printV, if_neg (by omega), find_no fun x hx => (okS_mem hx).2]
    have hgd : ∀ x ∈ okS (fewS ls), rngs x ∧ (putS x).2 = 0 := fun x hx => by
      obtain ⟨h1, h2⟩ := okS_mem hx
      obtain ⟨j, hj, rfl⟩ := List.mem_iff_getElem.1 h1
      exact ⟨step_rng R24.sl j hj, h2⟩
    refine ⟨fun hgt => ?_, fun hle => ?_⟩
    · have e : (⟨ts.toArray⟩ : ByteArray).extract 0 3000 = ⟨(ts.take 3000).toArray⟩ := by
        apply ByteArray.ext
        rw [ByteArray.data_extract]
        simp
      have hr := run_cut_s (w := w4) ⟨ts.toArray⟩ 3000 (by omega)
      rw [e] at hr
      generalize ts.take 3000 = tt at hr
      refine ⟨_, hr, ?_⟩
      -- one's own are printed, and read
      refine (scPrint_c R4.sl).mono ?_
      rw [hpr]
      rintro e w5 ⟨rfl, b5⟩
      have f5 := f4.step b5
      have R5 := R4.below b5
      refine ⟨_, _, rfl, ok_ret b5 f4, fun hne => absurd rfl hne, fun _ => ⟨fun hsz => ?_, fun hsz => ?_⟩⟩
      · refine (scParse_c w5 ((okS (fewS ls)).flatMap lineB)).mono ?_
        have hl65 : ((okS (fewS ls)).flatMap lineB).length ≤ 65536 := by
          have hz : (⟨((okS (fewS ls)).flatMap lineB).toArray⟩ : ByteArray).size = ((okS (fewS ls)).flatMap lineB).length := by show (List.toArray _).size = _; simp
          have hsz' : (((⟨((okS (fewS ls)).flatMap lineB).toArray⟩ : ByteArray).size : Nat) : Int) ≤ 65536 := hsz
          rw [hz] at hsz'
          omega
        rw [parse_print hgd hl65 (by omega)]
        rintro e w6 ⟨A16, n17, n18, rfl, R6, b6⟩
        have f6 := f5.step b6
        refine ⟨A16, n17, n18, _, _, rfl, ok_ret b6 f5, ?_⟩
        refine (same23_c (R5.below b6).sl R6.sl).mono ?_
        rintro e w7 ⟨rfl, b7⟩
        have f7 := f6.step b7
        refine ⟨_, rfl, ok_ret b7 f6, fun hne => absurd rfl hne, fun _ => ⟨fun hne => absurd rfl hne, fun _ => ⟨fun hb => by simp at hb, fun _ => ?_⟩⟩⟩
        -- a text is read, and printed
        refine (scParse_c w7 tt).mono ?_
        rintro e wA ⟨A22, n23, n24, rfl, RA, bA⟩
        have fA := f7.step bA
        refine ⟨A22, n23, n24, _, _, rfl, ok_ret bA f7, fun hne => ⟨fun _ => ret_leaf (fr_none fA) ?_, fun hb => (by cases hb)⟩, fun he => ?_⟩
        · have h1 := RA.len
          rw [parse_err hne] at h1
          subst h1
          rfl
        · refine (scPrint_c RA.sl).mono ?_
          have hpp := print_parse (s := tt) (m := (parseV tt).1) (n := (parseV tt).2.1) (Prod.ext rfl (Prod.ext rfl he))
          rw [hpp]
          rintro e wB ⟨rfl, bB⟩
          exact ⟨_, _, rfl, ok_ret bB fA, fun _ => ⟨fun _ => ret_leaf (fr_none (fA.step bB)) (by simp), fun hne => absurd rfl hne⟩, fun hb => (by cases hb)⟩
      · skip
        -- a text is read, and printed
        refine (scParse_c w5 tt).mono ?_
        rintro e wA ⟨A22, n23, n24, rfl, RA, bA⟩
        have fA := f5.step bA
        refine ⟨A22, n23, n24, _, _, rfl, ok_ret bA f5, fun hne => ⟨fun _ => ret_leaf (fr_none fA) ?_, fun hb => (by cases hb)⟩, fun he => ?_⟩
        · have h1 := RA.len
          rw [parse_err hne] at h1
          subst h1
          rfl
        · refine (scPrint_c RA.sl).mono ?_
          have hpp := print_parse (s := tt) (m := (parseV tt).1) (n := (parseV tt).2.1) (Prod.ext rfl (Prod.ext rfl he))
          rw [hpp]
          rintro e wB ⟨rfl, bB⟩
          exact ⟨_, _, rfl, ok_ret bB fA, fun _ => ⟨fun _ => ret_leaf (fr_none (fA.step bB)) (by simp), fun hne => absurd rfl hne⟩, fun hb => (by cases hb)⟩
    · skip
      -- one's own are printed, and read
      refine (scPrint_c R4.sl).mono ?_
      rw [hpr]
      rintro e w5 ⟨rfl, b5⟩
      have f5 := f4.step b5
      have R5 := R4.below b5
      refine ⟨_, _, rfl, ok_ret b5 f4, fun hne => absurd rfl hne, fun _ => ⟨fun hsz => ?_, fun hsz => ?_⟩⟩
      · refine (scParse_c w5 ((okS (fewS ls)).flatMap lineB)).mono ?_
        have hl65 : ((okS (fewS ls)).flatMap lineB).length ≤ 65536 := by
          have hz : (⟨((okS (fewS ls)).flatMap lineB).toArray⟩ : ByteArray).size = ((okS (fewS ls)).flatMap lineB).length := by show (List.toArray _).size = _; simp
          have hsz' : (((⟨((okS (fewS ls)).flatMap lineB).toArray⟩ : ByteArray).size : Nat) : Int) ≤ 65536 := hsz
          rw [hz] at hsz'
          omega
        rw [parse_print hgd hl65 (by omega)]
        rintro e w6 ⟨A16, n17, n18, rfl, R6, b6⟩
        have f6 := f5.step b6
        refine ⟨A16, n17, n18, _, _, rfl, ok_ret b6 f5, ?_⟩
        refine (same23_c (R5.below b6).sl R6.sl).mono ?_
        rintro e w7 ⟨rfl, b7⟩
        have f7 := f6.step b7
        refine ⟨_, rfl, ok_ret b7 f6, fun hne => absurd rfl hne, fun _ => ⟨fun hne => absurd rfl hne, fun _ => ⟨fun hb => by simp at hb, fun _ => ?_⟩⟩⟩
        -- a text is read, and printed
        refine (scParse_c w7 ts).mono ?_
        rintro e wA ⟨A22, n23, n24, rfl, RA, bA⟩
        have fA := f7.step bA
        refine ⟨A22, n23, n24, _, _, rfl, ok_ret bA f7, fun hne => ⟨fun _ => ret_leaf (fr_none fA) ?_, fun hb => (by cases hb)⟩, fun he => ?_⟩
        · have h1 := RA.len
          rw [parse_err hne] at h1
          subst h1
          rfl
        · refine (scPrint_c RA.sl).mono ?_
          have hpp := print_parse (s := ts) (m := (parseV ts).1) (n := (parseV ts).2.1) (Prod.ext rfl (Prod.ext rfl he))
          rw [hpp]
          rintro e wB ⟨rfl, bB⟩
          exact ⟨_, _, rfl, ok_ret bB fA, fun _ => ⟨fun _ => ret_leaf (fr_none (fA.step bB)) (by simp), fun hne => absurd rfl hne⟩, fun hb => (by cases hb)⟩
      · skip
        -- a text is read, and printed
        refine (scParse_c w5 ts).mono ?_
        rintro e wA ⟨A22, n23, n24, rfl, RA, bA⟩
        have fA := f5.step bA
        refine ⟨A22, n23, n24, _, _, rfl, ok_ret bA f5, fun hne => ⟨fun _ => ret_leaf (fr_none fA) ?_, fun hb => (by cases hb)⟩, fun he => ?_⟩
        · have h1 := RA.len
          rw [parse_err hne] at h1
          subst h1
          rfl
        · refine (scPrint_c RA.sl).mono ?_
          have hpp := print_parse (s := ts) (m := (parseV ts).1) (n := (parseV ts).2.1) (Prod.ext rfl (Prod.ext rfl he))
          rw [hpp]
          rintro e wB ⟨rfl, bB⟩
          exact ⟨_, _, rfl, ok_ret bB fA, fun _ => ⟨fun _ => ret_leaf (fr_none (fA.step bB)) (by simp), fun hne => absurd rfl hne⟩, fun hb => (by cases hb)⟩
theorem scriptBack_walk (w : World) (A : Option Addr) (n c : Nat) (ls : List StepV) (h : Sl w (fun b => b < w.heap.size) (.slice A n c) ls) (s : ByteArray) (hs : s.size ≤ 140737488351232) :
    Calls Tryd.prog 12 #[.slice A n c, .string s] w fun e w' => e = .returned (.bool true) ∧ Below w.heap.size w w' := by
  obtain ⟨⟨ts⟩⟩ := s
  exact scBack_wk h ts
end Go.Proofs.YtfjenamomipmdaaDoor
