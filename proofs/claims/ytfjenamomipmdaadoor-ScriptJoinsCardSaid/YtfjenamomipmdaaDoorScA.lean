/- Script: what is laid down is taken as it was: plain. -/
import Derived.Test.YtfjenamomipmdaaDoorSpC
import Derived.Test.YtfjenamomipmdaaDoorSpB
set_option linter.unusedSimpArgs false
set_option linter.unusedVariables false
namespace Go.Proofs.YtfjenamomipmdaaDoor
open Go Go.RowKit Go.Proofs Go.Trc Go.Sx
theorem nth_put {pre : List UInt8} {x : Int} {k : Nat} (hx : rng x) (r : List UInt8) (hp : pre.length = k) : nthN (pre ++ (numB x ++ r)) k = x := by
  have h := numV_at (bs := pre ++ (numB x ++ r)) (k := k) (by rw [List.length_append, List.length_append, numB_len, hp]; omega)
  rw [List.drop_left' hp, num_put x hx] at h
  simp only [Prod.mk.injEq] at h
  exact h.1.symm
theorem head_nth {k s n a : Int} (hk : rng k) (hs : rng s) (hn : rng n) (ha : rng a) (r : List UInt8) :
    nthN (headB k s n a ++ r) 0 = k ∧ nthN (headB k s n a ++ r) 8 = s ∧ nthN (headB k s n a ++ r) 16 = n ∧ nthN (headB k s n a ++ r) 24 = a := by
  have e0 : headB k s n a ++ r = [] ++ (numB k ++ (numB s ++ (numB n ++ (numB a ++ r)))) := by simp [headB]
  have e1 : headB k s n a ++ r = numB k ++ (numB s ++ (numB n ++ (numB a ++ r))) := by simp [headB]
  have e2 : headB k s n a ++ r = (numB k ++ numB s) ++ (numB n ++ (numB a ++ r)) := by simp [headB]
  have e3 : headB k s n a ++ r = (numB k ++ numB s ++ numB n) ++ (numB a ++ r) := by simp [headB]
  refine ⟨?_, ?_, ?_, ?_⟩
  · rw [e0]; exact nth_put hk _ rfl
  · rw [e1]; exact nth_put hs _ rfl
  · rw [e2]; exact nth_put hn _ rfl
  · rw [e3]; exact nth_put ha _ rfl
/-- What a step that can be put is put as. -/
theorem putS_ok {x : StepV} (h : (putS x).2 = 0) : (x.2.2.2.2 = [] ∧ (putS x).1 = headB x.1 x.2.1 x.2.2.1 x.2.2.2.1) ∨ (x.2.2.2.2 ≠ [] ∧ mayEditV x.2.2.2.2 = 0 ∧ (putS x).1 = headB x.1 x.2.1 x.2.2.1 x.2.2.2.1 ++ editB x.2.2.2.2) := by
  unfold putS at h ⊢
  split
  · rename_i h0; exact .inl ⟨h0, rfl⟩
  · rename_i h0
    rw [if_neg h0] at h
    unfold putV at h ⊢
    split
    · rename_i hm; exact .inr ⟨h0, hm, rfl⟩
    · rename_i hm; rw [if_neg hm] at h; exact absurd h hm
theorem head_drop (k s n a : Int) (r : List UInt8) : (headB k s n a ++ r).drop 32 = r := List.drop_left' rfl
theorem edit_two {l : List OpV} (hl : l ≠ []) : 2 ≤ (editB l).length := by
  cases l with
  | nil => exact absurd rfl hl
  | cons o l => rw [editB, List.flatMap_cons, opB]; simp
theorem takeS_put {x : StepV} (hr : rngs x) (h : (putS x).2 = 0) : takeS (putS x).1 = (x, 0) := by
  obtain ⟨r1, r2, r3, r4⟩ := hr
  rcases putS_ok h with ⟨h0, e⟩ | ⟨h0, hm, e⟩
  · have hh := head_nth r1 r2 r3 r4 []
    rw [List.append_nil] at hh
    rw [e, takeS_even (headB_len ..), hh.1, hh.2.1, hh.2.2.1, hh.2.2.2, ← h0]
  · have hh := head_nth r1 r2 r3 r4 (editB x.2.2.2.2)
    have h2 := edit_two h0
    have hw := whole_put hm
    rw [e, takeS_whole (by rw [List.length_append, headB_len]; omega) (by rw [head_drop, hw]), hh.1, hh.2.1, hh.2.2.1, hh.2.2.2, head_drop, hw]
theorem whole_zero : wholeV [0] = ([], 2) := by
  rcases whole_else [0] with ⟨l, h⟩ | h
  · obtain ⟨e, hl⟩ := whole_take h
    obtain ⟨h1, -⟩ := may_good hl
    rw [editB] at e
    injection e with e _
    exfalso
    match hn : l.length, h1 with
    | 1, _ => rw [hn] at e; exact absurd e (by decide)
    | 2, _ => rw [hn] at e; exact absurd e (by decide)
    | 3, _ => rw [hn] at e; exact absurd e (by decide)
    | 4, _ => rw [hn] at e; exact absurd e (by decide)
    | 5, _ => rw [hn] at e; exact absurd e (by decide)
    | 6, _ => rw [hn] at e; exact absurd e (by decide)
    | 0, h1 => omega
    | n + 7, h1 => omega
  · exact h
theorem takeS_more {x : StepV} (h : (putS x).2 = 0) : (takeS ((putS x).1 ++ [0])).2 = 240 := by
  rcases putS_ok h with ⟨h0, e⟩ | ⟨h0, hm, e⟩
  · rw [e, takeS_none (by rw [List.length_append, headB_len]; decide) (by rw [head_drop, whole_zero]; decide)]
  · have h2 := edit_two h0
    rw [e, List.append_assoc, takeS_none (by rw [List.length_append, headB_len, List.length_append]; omega) (by rw [head_drop, whole_more hm (by simp)]; decide)]
theorem takeS_cut {x : StepV} (h : (putS x).2 = 0) : (takeS ((putS x).1.take ((putS x).1.length - 1))).2 = 240 := by
  rcases putS_ok h with ⟨h0, e⟩ | ⟨h0, hm, e⟩
  · rw [e, takeS_short (by rw [List.length_take, headB_len]; decide)]
  · have h2 := edit_two h0
    have e2 : (headB x.1 x.2.1 x.2.2.1 x.2.2.2.1 ++ editB x.2.2.2.2).take ((headB x.1 x.2.1 x.2.2.1 x.2.2.2.1 ++ editB x.2.2.2.2).length - 1) = headB x.1 x.2.1 x.2.2.1 x.2.2.2.1 ++ (editB x.2.2.2.2).take ((editB x.2.2.2.2).length - 1) := by
      rw [List.take_append, List.length_append, headB_len, List.take_of_length_le (by rw [headB_len]; omega)]
      congr 2
      omega
    rw [e, e2, takeS_none (by rw [List.length_append, headB_len, List.length_take]; omega) (by rw [head_drop, whole_cut hm]; decide)]
theorem putS_len32 {x : StepV} (h : (putS x).2 = 0) : 32 ≤ (putS x).1.length := by
  rcases putS_ok h with ⟨h0, e⟩ | ⟨h0, hm, e⟩
  · rw [e, headB_len]; decide
  · rw [e, List.length_append, headB_len]; omega
theorem putS_inj {x y : StepV} (hx : rngs x) (hy : rngs y) (h : (putS x).2 = 0) (h' : (putS y).2 = 0) : (putS x).1 = (putS y).1 ↔ x = y := by
  constructor
  · intro e
    have h1 := takeS_put hx h
    rw [e, takeS_put hy h'] at h1
    simp only [Prod.mk.injEq] at h1
    exact h1.1.symm
  · rintro rfl; rfl
end Go.Proofs.YtfjenamomipmdaaDoor
