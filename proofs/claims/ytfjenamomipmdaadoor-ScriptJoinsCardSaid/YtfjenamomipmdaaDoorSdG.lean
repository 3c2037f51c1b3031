/- Script: what is printed is read: plain. -/
import Derived.Test.YtfjenamomipmdaaDoorSdB
import Derived.Test.YtfjenamomipmdaaDoorScA
set_option linter.unusedSimpArgs false
set_option linter.unusedVariables false
namespace Go.Proofs.YtfjenamomipmdaaDoor
open Go Go.RowKit Go.Proofs Go.Trc Go.Sx
theorem dg_hex {n : Nat} (h : n < 16) : hexV (dg n) = n ∧ dg n ≠ 10 := by
  have key : ∀ m : Fin 16, hexV (dg m.val) = m.val ∧ dg m.val ≠ 10 := by decide
  exact key ⟨n, h⟩
theorem unhex_hex : ∀ bs : List UInt8, unhex (hexB bs) = bs
  | [] => rfl
  | b :: bs => by
    have hb := b.toNat_lt
    show pairB (dg (b.toNat / 16)) (dg (b.toNat % 16)) :: unhex (hexB bs) = _
    rw [unhex_hex bs]
    congr 1
    apply UInt8.toNat_inj.1
    rw [pair_nat, (dg_hex (by omega)).1, (dg_hex (by omega)).1]
    omega
theorem hex_no10 : ∀ bs : List UInt8, (10 : UInt8) ∉ hexB bs
  | [] => by simp [hexB]
  | b :: bs => by
    have hb := b.toNat_lt
    intro h
    have h' : (10 : UInt8) ∈ dg (b.toNat / 16) :: dg (b.toNat % 16) :: hexB bs := h
    simp only [List.mem_cons] at h'
    rcases h' with h' | h' | h'
    · exact (dg_hex (n := b.toNat / 16) (by omega)).2 h'.symm
    · exact (dg_hex (n := b.toNat % 16) (by omega)).2 h'.symm
    · exact hex_no10 bs h'
/-- The digits of a step's bytes are read as that step. -/
theorem line_hex (bs : List UInt8) : lineV (hexB bs) = takeS bs := by
  rw [← line_same, refLineV, unhex_hex, if_pos rfl]
theorem line_put {x : StepV} (hr : rngs x) (h : (putS x).2 = 0) : lineV (hexB (putS x).1) = (x, 0) := by rw [line_hex, takeS_put hr h]
theorem parse_lines : ∀ (ls : List StepV) (l : List StepV) (f : Nat) (r : List UInt8), (∀ x ∈ ls, rngs x ∧ (putS x).2 = 0) → (ls.flatMap lineB ++ r).length ≤ f →
    ∃ f', r.length ≤ f' ∧ parseL f l (ls.flatMap lineB ++ r) = parseL f' (l ++ ls) r
  | [], l, f, r, _, hf => ⟨f, by simpa using hf, by simp⟩
  | x :: ls, l, f, r, h, hf => by
    have hx := h x (by simp)
    have e : (x :: ls).flatMap lineB ++ r = hexB (putS x).1 ++ 10 :: (ls.flatMap lineB ++ r) := by simp [lineB]
    rw [e] at hf ⊢
    have hp := line_put hx.1 hx.2
    rw [parse_step (hex_no10 _) hf, hp, if_pos rfl]
    rw [List.length_append, List.length_cons] at hf
    obtain ⟨f', h1, h2⟩ := parse_lines ls (l ++ [x]) (f - 1) r (fun y hy => h y (List.mem_cons_of_mem _ hy)) (by omega)
    exact ⟨f', h1, by rw [h2]; simp⟩
theorem lines_count : ∀ ls : List StepV, (ls.flatMap lineB).count 10 = ls.length
  | [] => rfl
  | x :: ls => by
    rw [List.flatMap_cons, List.count_append, lines_count ls, lineB, List.count_append, List.count_eq_zero.2 (hex_no10 _)]
    simp; omega
/-- A script that was printed is read as it was. -/
theorem parse_print {ls : List StepV} (h : ∀ x ∈ ls, rngs x ∧ (putS x).2 = 0) (hl : (ls.flatMap lineB).length ≤ 65536) (hn : ls.length ≤ 2048) : parseV (ls.flatMap lineB) = (ls, 0, 0) := by
  rw [parseV, if_neg (by rw [lines_count]; omega)]
  obtain ⟨f', -, h2⟩ := parse_lines ls [] (ls.flatMap lineB).length [] h (by simp)
  rw [List.append_nil] at h2
  rw [h2, List.nil_append, parse_nil]
theorem nth_take {bs : List UInt8} {k : Nat} (h : k + 8 ≤ bs.length) : bs.drop k = numB (nthN bs k) ++ bs.drop (k + 8) := num_take (numV_at h)
theorem head_take {bs : List UInt8} (h : 32 ≤ bs.length) : bs = headB (nthN bs 0) (nthN bs 8) (nthN bs 16) (nthN bs 24) ++ bs.drop 32 := by
  have h0 := nth_take (bs := bs) (k := 0) (by omega)
  have h1 := nth_take (bs := bs) (k := 8) (by omega)
  have h2 := nth_take (bs := bs) (k := 16) (by omega)
  have h3 := nth_take (bs := bs) (k := 24) (by omega)
  rw [h3, ← List.append_assoc] at h2
  rw [h2, ← List.append_assoc, ← List.append_assoc] at h1
  rw [h1, ← List.append_assoc, ← List.append_assoc, ← List.append_assoc] at h0
  simpa [headB] using h0
theorem put_take_S {bs : List UInt8} {x : StepV} (h : takeS bs = (x, 0)) : putS x = (bs, 0) := by
  unfold takeS at h
  split at h
  · simp at h
  · rename_i h1
    have hh := head_take (bs := bs) (by omega)
    split at h
    · rename_i h2
      rw [List.drop_of_length_le (by omega), List.append_nil] at hh
      simp only [Prod.mk.injEq, and_true] at h
      subst h
      rw [putS, if_pos rfl, ← hh]
    · rename_i h2
      split at h
      · rename_i h3
        simp only [Prod.mk.injEq, and_true] at h
        subst h
        obtain ⟨l, hl⟩ : ∃ l, wholeV (bs.drop 32) = (l, 0) := ⟨_, Prod.ext rfl h3⟩
        obtain ⟨e, hm⟩ := whole_take hl
        have hne : l ≠ [] := by rintro rfl; have := (may_good hm).1; simp at this
        rw [hl]
        rw [putS, if_neg hne, putV, if_pos hm, ← e, ← hh]
      · simp at h
theorem line_inv {a : List UInt8} {x : StepV} (h : lineV a = (x, 0)) : hexB (putS x).1 = a ∧ (putS x).2 = 0 := by
  rw [← line_same] at h
  unfold refLineV at h
  split at h
  · rename_i he
    have := put_take_S h
    rw [this]
    exact ⟨he, rfl⟩
  · simp at h
theorem parse_inv : ∀ (f : Nat) (l : List StepV) (s : List UInt8) (m : List StepV) (n : Int), s.length ≤ f → parseL f l s = (m, n, 0) → ∃ ls, m = l ++ ls ∧ s = ls.flatMap lineB ∧ (∀ x ∈ ls, (putS x).2 = 0) ∧ n = 0
  | 0, l, s, m, n, hf, h => by
    have hs : s = [] := List.length_eq_zero_iff.1 (by omega)
    rw [parseL] at h
    simp only [Prod.mk.injEq] at h
    exact ⟨[], by simp [h.1], by simp [hs], by simp, h.2.1.symm⟩
  | f + 1, l, s, m, n, hf, h => by
    by_cases hs : s = []
    · subst hs
      rw [parse_nil] at h
      simp only [Prod.mk.injEq] at h
      exact ⟨[], by simp [h.1], rfl, by simp, h.2.1.symm⟩
    · by_cases h10 : (10 : UInt8) ∈ s
      · obtain ⟨a, r, rfl, ha, -, -⟩ := split_at h10
        rw [parse_step ha hf] at h
        split at h
        · rename_i h0
          rw [List.length_append, List.length_cons] at hf
          obtain ⟨ls, e1, e2, e3, e4⟩ := parse_inv f _ r m n (by omega) h
          obtain ⟨p1, p2⟩ := line_inv (a := a) (x := (lineV a).1) (Prod.ext rfl h0)
          refine ⟨(lineV a).1 :: ls, by rw [e1]; simp, ?_, fun x hx => ?_, e4⟩
          · rw [List.flatMap_cons, lineB, p1, e2]; simp
          · rcases List.mem_cons.1 hx with rfl | hx
            · exact p2
            · exact e3 x hx
        · simp at h
      · rw [parse_bad hs h10 hf] at h
        simp at h
theorem print_parse {s : List UInt8} {m : List StepV} {n : Int} (h : parseV s = (m, n, 0)) : printV m = (s, 0) := by
  unfold parseV at h
  split at h
  · simp at h
  · rename_i h1
    obtain ⟨ls, e1, e2, e3, -⟩ := parse_inv _ _ _ _ _ (Nat.le_refl _) h
    rw [List.nil_append] at e1
    subst e1
    have hc := lines_count m
    rw [← e2] at hc
    rw [printV, if_neg (by omega), find_no e3, e2]
end Go.Proofs.YtfjenamomipmdaaDoor
