/- Operations: names, sameness, few: contracts. -/
import Derived.Test.YtfjenamomipmdaaDoorOpZ
import Derived.Test.YtfjenamomipmdaaDoorFix
set_option linter.unusedSimpArgs false
set_option linter.unusedVariables false
namespace Go.Proofs.YtfjenamomipmdaaDoor
open Go Go.RowKit Go.Proofs Go.Trc Go.Sx

instance fixOp : Fixed OpV := ⟨fun o => o.cells.toList, fun o => o.ok ∧ o.tx.size ≤ maxLen, ⟨fun h => h, fun h => h⟩⟩
/-- A name. -/
structure IDV where
  s : Int
  n : Int
  deriving DecidableEq
instance repID : Rep IDV where
  sz := 2
  pos := by decide
  K := fun _ _ x cs => cs = [.int .i64 x.s, .int .i64 x.n]
  len := by rintro _ _ _ _ rfl; rfl
  one := by rintro _ _ _ _ rfl u hu; simp at hu; rcases hu with rfl | rfl <;> rfl
  mono := by rintro _ _ _ _ _ _ _ h; exact h
instance fixID : Fixed IDV := ⟨fun x => [.int .i64 x.s, .int .i64 x.n], fun _ => True, ⟨fun h => ⟨h, trivial⟩, fun h => h.1⟩⟩

def nameV (o : OpV) : List IDV := if o.kd = 1 ∨ o.kd = 3 then [⟨o.s, o.n⟩] else if o.kd = 5 then [⟨o.s1, o.n1⟩, ⟨o.s2, o.n2⟩] else []
def namesV (l : List OpV) : List IDV := l.flatMap nameV
theorem nameV_len (o : OpV) : (nameV o).length ≤ 2 := by unfold nameV; split <;> (try split) <;> simp
theorem namesV_len : ∀ l : List OpV, (namesV l).length ≤ 2 * l.length
  | [] => by simp [namesV]
  | o :: l => by
    have := namesV_len l
    have h := nameV_len o
    simp only [namesV, List.flatMap_cons, List.length_append, List.length_cons] at this ⊢
    omega
theorem names_take (l : List OpV) (k : Nat) (h : k < l.length) : namesV (l.take (k + 1)) = namesV (l.take k) ++ nameV l[k] := by
  unfold namesV
  rw [List.take_succ_eq_append_getElem h, List.flatMap_append]
  simp


theorem neq_id (W : World) (x y : IDV) : (binOp .neq 33 (.agg #[.int .i64 x.s, .int .i64 x.n]) (.agg #[.int .i64 y.s, .int .i64 y.n])).run Tryd.prog W = .ok (.bool (!(decide (x = y)))) W := by
  obtain ⟨s, n⟩ := x
  obtain ⟨s', n'⟩ := y
  go_simp
  by_cases h : s = s' <;> by_cases h' : n = n' <;> simp [h, h']
theorem take_eq_step {α : Type} {xs ys : List α} {k : Nat} (h1 : k < xs.length) (h2 : k < ys.length) (h : xs.take k = ys.take k) (e : xs[k] = ys[k]) : xs.take (k + 1) = ys.take (k + 1) := by
  rw [List.take_succ_eq_append_getElem h1, List.take_succ_eq_append_getElem h2, h, e]
theorem ne_at {α : Type} {xs ys : List α} {k : Nat} (h1 : k < xs.length) (h2 : k < ys.length) (e : ¬ xs[k] = ys[k]) : ¬ xs = ys := fun h => e (by subst h; rfl)
set_option maxHeartbeats 1000000 in
theorem ref_same_c {w : World} {ok ok' : Nat → Prop} {A A' : Option Addr} {n c n' c' : Nat} {xs ys : List OpV} (h : Sl w ok (.slice A n c) xs) (h' : Sl w ok' (.slice A' n' c') ys) :
    Calls Tryd.prog 18 #[.agg #[.slice A n c], .agg #[.slice A' n' c']] w (Ret (.bool (decide (xs = ys))) w) := by
  refine ref09_Same_sx _ (fun _ => False) w A n c A' n' c' ?_
  intro g6 hg6 g7 hg7
  have hn := h.len
  have hn' := h'.len
  have hle := h.le
  refine ⟨fun hne => fun w1 f1 _ => ret_leaf f1 (by rw [decide_eq_false (fun e => hne (by rw [hn,hn',e]))]), fun he => ?_⟩
  refine ⟨fun _ i _ => ∃ k : Nat, i = k ∧ k ≤ xs.length ∧ xs.take k = ys.take k, fun _ i _ => (n - i : Int).toNat, fun w1 _ _ => ⟨0,rfl,Nat.zero_le _,rfl⟩, ?_⟩
  rintro b6 _ w1 f1 ⟨k, rfl, hk, he'⟩
  refine ⟨fun hlt => ?_, fun hge => ?_⟩
  · have kx : k < xs.length := by omega
    have ky : k < ys.length := by omega
    obtain ⟨b, o, rfl, _, hb, hw, _⟩ := Sl.cells h k kx
    obtain ⟨b', o', rfl, _, hb', hw', _⟩ := Sl.cells h' k ky
    refine ⟨by omega, hlt, b, o, rfl, fun w2 f2 b2 => ⟨_, _, _, _, _, _, _, _, _, _, _, _, _, _, _, _, _, _, _, _, (h.below (fr_below f2)).at_k k kx, ⟨Nat.lt_of_lt_of_le hb f1.size, by simp⟩, by omega, by omega, b', o', rfl,
      _, _, _, _, _, _, _, _, _, _, _, _, _, _, _, _, _, _, _, _, (h'.below (fr_below f2)).at_k k ky, ⟨Nat.lt_of_lt_of_le hb' f1.size, by simp⟩,
      !(decide (xs[k] = ys[k])), fun w' _ => neq_op w' xs[k] ys[k], fun hb => ret_leaf f2 ?_, fun hb => ⟨⟨k + 1, by rw [wrap_in (by omega)]; rfl, by omega, ?_⟩, by rw [wrap_in (by omega)]; dsimp only; omega⟩⟩⟩
    · rw [decide_eq_false (ne_at kx ky (by simpa using hb))]
    · exact take_eq_step kx ky he' (by simpa using hb)
  · refine ret_leaf f1 ?_
    rw [List.take_of_length_le (by omega), List.take_of_length_le (by omega)] at he'
    rw [decide_eq_true he']
end Go.Proofs.YtfjenamomipmdaaDoor

