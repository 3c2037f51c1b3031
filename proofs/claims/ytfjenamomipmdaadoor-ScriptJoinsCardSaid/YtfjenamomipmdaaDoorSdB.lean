/- Script: strings.Cut at a line's end. -/
import Derived.Test.YtfjenamomipmdaaDoorScN
import Derived.Test.YtfjenamomipmdaaDoorShC
import Derived.Test.YtfjenamomipmdaaDoorSpC
import Derived.Test.YtfjenamomipmdaaDoorScP
set_option linter.unusedSimpArgs false
set_option linter.unusedVariables false
namespace Go.Proofs.YtfjenamomipmdaaDoor
open Go Go.RowKit Go.Proofs Go.Trc Go.Sx
theorem idx_no : ∀ {xs : List UInt8}, (10 : UInt8) ∉ xs → Lib.indexByte xs 10 = -1
  | [], _ => rfl
  | b :: l, h => by
    have hb : (b == 10) = false := by simp only [beq_eq_false_iff_ne]; rintro rfl; exact h (by simp)
    have ih := idx_no (xs := l) fun hm => h (List.mem_cons_of_mem _ hm)
    rw [Lib.indexByte, hb, ih]; rfl
theorem idx_yes : ∀ {a : List UInt8} (r : List UInt8), (10 : UInt8) ∉ a → Lib.indexByte (a ++ 10 :: r) 10 = a.length
  | [], r, _ => rfl
  | b :: l, r, h => by
    have hb : (b == 10) = false := by simp only [beq_eq_false_iff_ne]; rintro rfl; exact h (by simp)
    have ih := idx_yes (a := l) r fun hm => h (List.mem_cons_of_mem _ hm)
    have e : (((l.length : Nat) : Int) == -1) = false := by simp only [beq_eq_false_iff_ne]; omega
    rw [List.cons_append, Lib.indexByte, hb, ih, e]
    simp
theorem cut_hi_s {w : World} (a r : List UInt8) : (Instr.sliceAt 9 (.string ⟨(a ++ r).toArray⟩) none (some (.int .i64 (a.length : Int))) none).run Tryd.prog w = .ok (.string ⟨a.toArray⟩) w := by
  rw [run_cut_s ⟨(a ++ r).toArray⟩ a.length (by show _ ≤ (a ++ r).toArray.size; simp)]
  congr 3
  apply ByteArray.ext
  rw [ByteArray.data_extract]
  simp
theorem cut_lo_s {w : World} (a r : List UInt8) : (Instr.sliceAt 9 (.string ⟨(a ++ r).toArray⟩) (some (.int .i64 (a.length : Int))) none none).run Tryd.prog w = .ok (.string ⟨r.toArray⟩) w := by
  have h0 : (0 : Int) ≤ a.length := by omega
  have hs : (⟨(a ++ r).toArray⟩ : ByteArray).size = a.length + r.length := by show (a ++ r).toArray.size = _; simp
  have h1 : (a.length : Int) ≤ ((a.length + r.length : Nat) : Int) := by omega
  have e : (⟨(a ++ r).toArray⟩ : ByteArray).extract a.length (a.length + r.length) = ⟨r.toArray⟩ := by
    apply ByteArray.ext
    rw [ByteArray.data_extract]
    simp
  simp [Instr.sliceAt, run_underlying Tryd.underlying9, Instr.slice, Instr.sliceBounds, Instr.sliceBound, asIntOf, h0, hs, h1, e]
theorem slCut_no (w : World) (xs : List UInt8) (h : (10 : UInt8) ∉ xs) : Calls Tryd.prog 83 #[.string ⟨xs.toArray⟩, .string ⟨#[10]⟩] w (Ret (.tuple #[.string ⟨xs.toArray⟩, .string ⟨#[]⟩, .bool false]) w) := by
  refine slCut_sx _ (fun _ => False) w _ _ ?_
  refine (Tryd.stringslite_Index_one ⟨xs.toArray⟩ 10 w).mono ?_
  rintro e w' ⟨rfl, rfl⟩
  have hi : Lib.indexByte (⟨xs.toArray⟩ : ByteArray).data.toList 10 = -1 := by simpa using idx_no h
  rw [hi]
  refine ⟨_, rfl, ⟨Fr.refl _ _, by exact ⟨Nat.le_refl _, fun _ h => by cases h⟩⟩, fun hge => absurd hge (by decide), fun _ => ⟨rfl, Below.refl _ _⟩⟩
theorem slCut_yes (w : World) (a r : List UInt8) (h : (10 : UInt8) ∉ a) (hl : a.length ≤ 1000000) : Calls Tryd.prog 83 #[.string ⟨(a ++ 10 :: r).toArray⟩, .string ⟨#[10]⟩] w (Ret (.tuple #[.string ⟨a.toArray⟩, .string ⟨r.toArray⟩, .bool true]) w) := by
  refine slCut_sx _ (fun _ => False) w _ _ ?_
  refine (Tryd.stringslite_Index_one ⟨(a ++ 10 :: r).toArray⟩ 10 w).mono ?_
  rintro e w' ⟨rfl, rfl⟩
  have hi : Lib.indexByte (⟨(a ++ 10 :: r).toArray⟩ : ByteArray).data.toList 10 = a.length := by simpa using idx_yes r h
  rw [hi]
  have h1 : (⟨#[10]⟩ : ByteArray).size = 1 := rfl
  refine ⟨_, rfl, ⟨Fr.refl _ _, by exact ⟨Nat.le_refl _, fun _ h => by cases h⟩⟩, fun _ w2 f2 b2 => ⟨_, fun w' _ => cut_hi_s a (10 :: r), _, fun w' _ => ?_, rfl, b2⟩, fun hlt => absurd hlt (by omega)⟩
  rw [h1, wrap_in (by omega)]
  have := cut_lo_s (w := w') (a ++ [10]) r
  rw [List.append_assoc, List.length_append, List.length_singleton] at this
  simpa using this
theorem cut_no (w : World) (xs : List UInt8) (h : (10 : UInt8) ∉ xs) : Calls Tryd.prog 59 #[.string ⟨xs.toArray⟩, .string ⟨#[10]⟩] w (Ret (.tuple #[.string ⟨xs.toArray⟩, .string ⟨#[]⟩, .bool false]) w) := by
  refine cut_sx _ (fun _ => False) w _ _ ?_
  refine (slCut_no w xs h).mono ?_
  rintro e w' ⟨rfl, b⟩
  exact ⟨_, _, _, rfl, ok_ret b (Fr.refl _ _), rfl, b⟩
theorem cut_yes (w : World) (a r : List UInt8) (h : (10 : UInt8) ∉ a) (hl : a.length ≤ 1000000) : Calls Tryd.prog 59 #[.string ⟨(a ++ 10 :: r).toArray⟩, .string ⟨#[10]⟩] w (Ret (.tuple #[.string ⟨a.toArray⟩, .string ⟨r.toArray⟩, .bool true]) w) := by
  refine cut_sx _ (fun _ => False) w _ _ ?_
  refine (slCut_yes w a r h hl).mono ?_
  rintro e w' ⟨rfl, b⟩
  exact ⟨_, _, _, rfl, ok_ret b (Fr.refl _ _), rfl, b⟩
end Go.Proofs.YtfjenamomipmdaaDoor


/- Script: Parse. -/
set_option linter.unusedSimpArgs false
set_option linter.unusedVariables false
namespace Go.Proofs.YtfjenamomipmdaaDoor
open Go Go.RowKit Go.Proofs Go.Trc Go.Sx
open Classical in
/-- What is left of a text, behind steps that were read: the fuel is its length. -/
noncomputable def parseL : Nat → List StepV → List UInt8 → List StepV × Int × Int
  | 0, l, _ => (l, 0, 0)
  | f + 1, l, s => if s = [] then (l, 0, 0) else if (10 : UInt8) ∈ s then
      (if (lineV (s.takeWhile (· != 10))).2 = 0 then parseL f (l ++ [(lineV (s.takeWhile (· != 10))).1]) ((s.dropWhile (· != 10)).drop 1) else ([], (l.length : Int) + 1, 240))
    else ([], (l.length : Int) + 1, 240)
noncomputable def parseV (s : List UInt8) : List StepV × Int × Int := if 65536 < s.length ∨ 2048 < s.count 10 then ([], 0, 3) else parseL s.length [] s
def RetParse (w : World) (x : List StepV × Int × Int) (e : Ending) (w' : World) : Prop :=
  ∃ A n c, e = .returned (.tuple #[.slice A n c, .int .i64 x.2.1, .int .i64 x.2.2]) ∧ RowsT w.heap.size w' (.slice A n c) x.1 ∧ Below w.heap.size w w'
theorem rows_none (base : Nat) (w : World) : RowsT base w (.slice none 0 0) [] := ⟨[], OwnF.nil _ _ _, Al.nil⟩
theorem parse_nil (f : Nat) (l : List StepV) : parseL f l [] = (l, 0, 0) := by cases f <;> simp [parseL]
theorem split_at {s : List UInt8} (h : (10 : UInt8) ∈ s) : ∃ a r, s = a ++ 10 :: r ∧ (10 : UInt8) ∉ a ∧ s.takeWhile (· != 10) = a ∧ (s.dropWhile (· != 10)).drop 1 = r := by
  induction s with
  | nil => simp at h
  | cons b s ih =>
    by_cases hb : b = 10
    · subst hb
      exact ⟨[], s, rfl, by simp, by simp, by simp⟩
    · obtain ⟨a, r, e, ha, h1, h2⟩ := ih (by rcases List.mem_cons.1 h with h | h; exact absurd h.symm hb; exact h)
      refine ⟨b :: a, r, by rw [e]; rfl, fun hm => by rcases List.mem_cons.1 hm with hm | hm; exact hb hm.symm; exact ha hm, ?_, ?_⟩
      · rw [List.takeWhile_cons, if_pos (by simpa using hb), h1]
      · rw [List.dropWhile_cons, if_pos (by simpa using hb), h2]
theorem parse_step {f : Nat} {l : List StepV} {a r : List UInt8} (ha : (10 : UInt8) ∉ a) (hf : (a ++ 10 :: r).length ≤ f) :
    parseL f l (a ++ 10 :: r) = if (lineV a).2 = 0 then parseL (f - 1) (l ++ [(lineV a).1]) r else ([], (l.length : Int) + 1, 240) := by
  obtain ⟨a', r', e, ha', h1, h2⟩ := split_at (s := a ++ 10 :: r) (by simp)
  have hu : a' = a ∧ r' = r := by
    have t1 : (a ++ 10 :: r).takeWhile (· != 10) = a := by
      rw [List.takeWhile_append_of_pos (fun x hx => by simp only [bne_iff_ne, ne_eq]; rintro rfl; exact ha hx)]; simp
    rw [h1] at t1
    refine ⟨t1, ?_⟩
    rw [t1] at e
    have := List.append_cancel_left e
    injection this with _ this
    exact this.symm
  obtain ⟨rfl, rfl⟩ := hu
  cases f with
  | zero => simp at hf
  | succ f =>
    rw [parseL, if_neg (by simp), if_pos (by simp), h1, h2]; rfl
theorem parse_bad {f : Nat} {l : List StepV} {s : List UInt8} (hs : s ≠ []) (h : (10 : UInt8) ∉ s) (hf : s.length ≤ f) : parseL f l s = ([], (l.length : Int) + 1, 240) := by
  cases f with
  | zero => exact absurd (List.length_eq_zero_iff.1 (by omega)) hs
  | succ f => rw [parseL, if_neg hs, if_neg h]
theorem wrap_rng0 (x : Int) : -9223372036854775808 ≤ IntKind.i64.wrap x ∧ IntKind.i64.wrap x ≤ 9223372036854775807 := by
  simp only [IntKind.wrap, IntKind.bits, IntKind.signed]
  simp
  omega
theorem take_rng (bs : List UInt8) : rngs (takeS bs).1 := by
  have z : rngs zeroS := by unfold rngs zeroS; decide
  unfold takeS
  split
  · exact z
  · split
    · exact ⟨wrap_rng0 _, wrap_rng0 _, wrap_rng0 _, wrap_rng0 _⟩
    · split
      · exact ⟨wrap_rng0 _, wrap_rng0 _, wrap_rng0 _, wrap_rng0 _⟩
      · exact z
theorem line_rng (xs : List UInt8) : rngs (lineV xs).1 := by
  rw [← line_same]
  unfold refLineV
  split
  · exact take_rng _
  · show rngs zeroS; unfold rngs zeroS; decide
end Go.Proofs.YtfjenamomipmdaaDoor


/- Script: Parse, its contract. -/
set_option linter.unusedSimpArgs false
set_option linter.unusedVariables false
namespace Go.Proofs.YtfjenamomipmdaaDoor
open Go Go.RowKit Go.Proofs Go.Trc Go.Sx
set_option maxHeartbeats 2000000 in
theorem scParse_c (w : World) (xs : List UInt8) : Calls Tryd.prog 32 #[.string ⟨xs.toArray⟩] w (RetParse w (parseV xs)) := by
  have hs : (⟨xs.toArray⟩ : ByteArray).size = xs.length := by show xs.toArray.size = _; simp
  refine scParse_sx _ (fun b => some b = none) w _ ?_
  rw [hs]
  refine ⟨fun hgt => ?_, fun hle => ?_⟩
  · rw [parseV, if_pos (.inl (by omega))]
    exact ⟨none, 0, 0, rfl, rows_none _ _, Below.refl _ _⟩
  refine (Tryd.strings_Count_one ⟨xs.toArray⟩ 10 w).mono ?_
  rintro e w1 ⟨rfl, rfl⟩
  have hc : Lib.countByte (⟨xs.toArray⟩ : ByteArray).data.toList 10 = xs.count 10 := by simp [Lib.countByte]
  rw [hc]
  refine ⟨_, rfl, ⟨Fr.refl _ _, ⟨Nat.le_refl _, fun _ h => by cases h⟩⟩, fun hgt => ?_, fun hle2 => ?_⟩
  · rw [parseV, if_pos (.inr (by omega))]
    exact ⟨none, 0, 0, rfl, rows_none _ _, Below.refl _ _⟩
  have hpv : parseV xs = parseL xs.length [] xs := by rw [parseV, if_neg (by omega)]
  rw [hpv]
  refine ⟨fun _ _ _ _ _ A n c s w' => ∃ (l : List StepV) (t : List UInt8) (f : Nat), s = ⟨t.toArray⟩ ∧ t.length ≤ f ∧ t.length ≤ 65536 ∧ parseL xs.length [] xs = parseL f l t ∧ l.length + t.count 10 ≤ 2048 ∧ ∃ hs : List HdS, Rw none w1 w1.heap.size 54 w' (.slice A n c) hs [] ∧ Al (IsS w') hs l, fun _ _ _ _ _ _ _ _ s _ => s.size,
    ⟨[], xs, xs.length, rfl, Nat.le_refl _, by omega, rfl, by simp; omega, [], Rw.nil (Fr.refl _ _) (by simp), Al.nil⟩, ?_⟩
  rintro A2 n3 n4 i5 i6 A7 n8 n9 _ w2 f2 ⟨l, t, f, rfl, htf, htl, hp, hcn, hs', r, al⟩
  have hn8 : n8 = l.length := by rw [r.own.sl.len, al.1]
  refine ⟨fun hne => ?_, fun heq => ?_⟩
  · have ht : t ≠ [] := by rintro rfl; simp at hne
    by_cases h10 : (10 : UInt8) ∈ t
    · obtain ⟨a, r', rfl, ha, -, -⟩ := split_at h10
      rw [List.length_append, List.length_cons] at htl
      rw [List.count_append, List.count_cons_self] at hcn
      have htf' := htf
      rw [List.length_append, List.length_cons] at htf'
      refine (cut_yes w2 a r' ha (by omega)).mono ?_
      rintro e w3 ⟨rfl, b3⟩
      have f3 := f2.step b3
      refine ⟨_, _, _, rfl, ok_ret b3 f2, ?_⟩
      refine (line_all w3 a (by omega)).mono ?_
      rintro e w4 ⟨A18, n19, n20, rfl, o4, b4⟩
      have f4 := f3.step b4
      refine ⟨_, _, _, _, A18, n19, n20, _, rfl, ok_ret b4 f3, fun g22 hg22 => ⟨fun hb => (by cases hb), fun _ => ⟨fun hbad w5 f5 b5 lo t5 => ?_, fun h0 g23 hg23 w5 f5 b5 lo23 t23 lo22 t22 => ?_⟩⟩⟩
      · rw [hp, parse_step ha htf, if_neg hbad, wrap_in (by omega), hn8]
        exact ⟨none, 0, 0, rfl, rows_none _ _, fr_below (fr_none f5)⟩
      · have r5 := ((r.below b3).below b4).on b5 [g23, g22] (by
          simp only [List.mem_cons, List.not_mem_nil, or_false]
          rintro _ (rfl | rfl)
          · exact ⟨lo23, heap_lt t23⟩
          · exact ⟨lo22, heap_lt t22⟩)
        have al5 := al_stt (al_stt (al_stt al (stT_below b3)) (stT_below b4)) (stT_below b5)
        have new : IsS w5 (((lineV a).1.1, (lineV a).1.2.1, (lineV a).1.2.2.1, (lineV a).1.2.2.2.1, ⟨A18, n19, n20⟩) : HdS) (lineV a).1 := ⟨rfl, rfl, rfl, rfl, own_nT (o4.below b5) (by decide)⟩
        have hlh : hs'.length = l.length := al.1
        obtain ⟨w6, A24, n25, n26, hr6, m6, r6, gr6, -⟩ := r5.append2 51 51 _ 56 Tryd.underlying51 infoS rfl (arg_cells [(((lineV a).1.1, (lineV a).1.2.1, (lineV a).1.2.2.1, (lineV a).1.2.2.2.1, ⟨A18, n19, n20⟩) : HdS)] 1 rfl t23 (by decide) (by simp only [List.mem_singleton]; rintro _ rfl; exact hd_wf (line_rng a) _)) (by rw [hlh]; simp; omega) (by rw [hlh]; simp; omega)
        refine ⟨w6, A24, n25, n26, hr6, ⟨m6.1, m6.2⟩, ⟨l ++ [(lineV a).1], r', f - 1, rfl, by omega, by omega, by rw [hp, parse_step ha htf, if_pos h0], by rw [List.length_append, List.length_singleton]; omega, _, r6.less' (by simp), al_stt (al5.append (Al.one new)) (stT_app r5.own gr6)⟩, ?_⟩
        show r'.toArray.size < (a ++ 10 :: r').toArray.size
        simp; omega
    · refine (cut_no w2 t h10).mono ?_
      rintro e w3 ⟨rfl, b3⟩
      have f3 := f2.step b3
      refine ⟨_, _, _, rfl, ok_ret b3 f2, ?_⟩
      refine (line_all w3 t (by omega)).mono ?_
      rintro e w4 ⟨A18, n19, n20, rfl, o4, b4⟩
      refine ⟨_, _, _, _, A18, n19, n20, _, rfl, ok_ret b4 f3, fun g22 hg22 => ⟨fun _ w5 f5 b5 lo t5 => ?_, fun hb => by cases hb⟩⟩
      rw [hp, parse_bad ht h10 htf, wrap_in (by omega), hn8]
      exact ⟨none, 0, 0, rfl, rows_none _ _, fr_below (fr_none f5)⟩
  · have ht : t = [] := by
      have := bytes_toList_inj.1 (beq_iff_eq.1 heq)
      injection this with this
      simpa using congrArg Array.toList this
    rw [hp, ht, parse_nil]
    exact ⟨A7, n8, n9, rfl, ⟨hs', r.own, al⟩, fr_below (fr_none f2)⟩
end Go.Proofs.YtfjenamomipmdaaDoor
