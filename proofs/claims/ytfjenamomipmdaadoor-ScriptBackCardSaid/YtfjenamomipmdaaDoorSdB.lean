/- Script: Parse. -/
import Derived.Test.YtfjenamomipmdaaDoorSdA
import Derived.Test.YtfjenamomipmdaaDoorScP
set_option linter.unusedSimpArgs false
set_option linter.unusedVariables false
namespace Go.Proofs.YtfjenamomipmdaaDoor
open Go Go.RowKit Go.Proofs Go.Trc Go.Sx
open Classical in
/-- What is left of a text, behind steps that were read: the fuel is its length. -/
noncomputable def parseL : Nat → List StepV → List UInt8 → List StepV × Int × Int
  | 0, l, _ => (l, 0, 0)
  | f + 1, l, s => if s = [] then (l, 0, 0) else if (10 : UInt8) ∈ s then
      (if (lineV (s.takeWhile (· != 10))).2 = 0 then parseL f (l ++ [(lineV (s.takeWhile (· != 10))).1]) ((s.dropWhile (· != 10)).drop 1) else ([], (l.length : Int) + 1, 240))
    else ([], (l.length : Int) + 1, 240)
noncomputable def parseV (s : List UInt8) : List StepV × Int × Int := if 65536 < s.length ∨ 2048 < s.count 10 then ([], 0, 3) else parseL s.length [] s
def RetParse (w : World) (x : List StepV × Int × Int) (e : Ending) (w' : World) : Prop :=
  ∃ A n c, e = .returned (.tuple #[.slice A n c, .int .i64 x.2.1, .int .i64 x.2.2]) ∧ RowsT w.heap.size w' (.slice A n c) x.1 ∧ Below w.heap.size w w'
theorem rows_none (base : Nat) (w : World) : RowsT base w (.slice none 0 0) [] := ⟨[], OwnF.nil _ _ _, Al.nil⟩
theorem parse_nil (f : Nat) (l : List StepV) : parseL f l [] = (l, 0, 0) := by cases f <;> simp [parseL]
theorem split_at {s : List UInt8} (h : (10 : UInt8) ∈ s) : ∃ a r, s = a ++ 10 :: r ∧ (10 : UInt8) ∉ a ∧ s.takeWhile (· != 10) = a ∧ (s.dropWhile (· != 10)).drop 1 = r := by
  induction s with
  | nil => simp at h
  | cons b s ih =>
    by_cases hb : b = 10
    · subst hb
      exact ⟨[], s, rfl, by simp, by simp, by simp⟩
    · obtain ⟨a, r, e, ha, h1, h2⟩ := ih (by rcases List.mem_cons.1 h with h | h; exact absurd h.symm hb; exact h)
      refine ⟨b :: a, r, by rw [e]; rfl, fun hm => by rcases List.mem_cons.1 hm with hm | hm; exact hb hm.symm; exact ha hm, ?_, ?_⟩
      · rw [List.takeWhile_cons, if_pos (by simpa using hb), h1]
      · rw [List.dropWhile_cons, if_pos (by simpa using hb), h2]
theorem parse_step {f : Nat} {l : List StepV} {a r : List UInt8} (ha : (10 : UInt8) ∉ a) (hf : (a ++ 10 :: r).length ≤ f) :
    parseL f l (a ++ 10 :: r) = if (lineV a).2 = 0 then parseL (f - 1) (l ++ [(lineV a).1]) r else ([], (l.length : Int) + 1, 240) := by
  obtain ⟨a', r', e, ha', h1, h2⟩ := split_at (s := a ++ 10 :: r) (by simp)
  have hu : a' = a ∧ r' = r := by
    have t1 : (a ++ 10 :: r).takeWhile (· != 10) = a := by
      rw [List.takeWhile_append_of_pos (fun x hx => by simp only [bne_iff_ne, ne_eq]; rintro rfl; exact ha hx)]; simp
    rw [h1] at t1
    refine ⟨t1, ?_⟩
    rw [t1] at e
    have := List.append_cancel_left e
    injection this with _ this
    exact this.symm
  obtain ⟨rfl, rfl⟩ := hu
  cases f with
  | zero => simp at hf
  | succ f =>
    rw [parseL, if_neg (by simp), if_pos (by simp), h1, h2]; rfl
theorem parse_bad {f : Nat} {l : List StepV} {s : List UInt8} (hs : s ≠ []) (h : (10 : UInt8) ∉ s) (hf : s.length ≤ f) : parseL f l s = ([], (l.length : Int) + 1, 240) := by
  cases f with
  | zero => exact absurd (List.length_eq_zero_iff.1 (by omega)) hs
  | succ f => rw [parseL, if_neg hs, if_neg h]
theorem wrap_rng0 (x : Int) : -9223372036854775808 ≤ IntKind.i64.wrap x ∧ IntKind.i64.wrap x ≤ 9223372036854775807 := by
  simp only [IntKind.wrap, IntKind.bits, IntKind.signed]
  simp
  omega
theorem take_rng (bs : List UInt8) : rngs (takeS bs).1 := by
  have z : rngs zeroS := by unfold rngs zeroS; decide
  unfold takeS
  split
  · exact z
  · split
    · exact ⟨wrap_rng0 _, wrap_rng0 _, wrap_rng0 _, wrap_rng0 _⟩
    · split
      · exact ⟨wrap_rng0 _, wrap_rng0 _, wrap_rng0 _, wrap_rng0 _⟩
      · exact z
theorem line_rng (xs : List UInt8) : rngs (lineV xs).1 := by
  rw [← line_same]
  unfold refLineV
  split
  · exact take_rng _
  · show rngs zeroS; unfold rngs zeroS; decide
end Go.Proofs.YtfjenamomipmdaaDoor
