/- OpZero, OpKinds: the walks. -/
import Derived.Test.YtlcjlcfogcbddaaOpZ
import Derived.Test.YtlcjlcfogcbddaaLaw09a
set_option linter.unusedSimpArgs false
set_option linter.unusedVariables false
namespace Go.Proofs.Ytlcjlcfogcbddaa
open Go Go.RowKit Go.Proofs Go.Trc Go.Sx

theorem eql_bool (W : World) (x y : Bool) : (binOp .eql 4 (.bool x) (.bool y)).run Try.prog W = .ok (.bool (x == y)) W := by
  go_simp

theorem mayEdit_one (o : OpV) : mayEditV [o] = mayV o := by
  unfold mayEditV
  rw [if_neg (by simp)]
  simp only [firstBad]
  split <;> simp_all

def bare (k s n : Int) : OpV := ⟨k, s, n, 0, 0, 0, 0, 0, 0, 0, 0, 0, 0, 0, 0, 0, 0, false, ⟨#[]⟩, 0⟩
theorem bare_may (k s n : Int) : mayV (bare k s n) = if (k = 1 ∨ k = 2 ∨ k = 4 ∨ k = 7 ∨ k = 8) ∧ idOk s n = true then 0 else 1 := by
  have h1 : onlyV (bare k s n) = bare k s n := by
    show (if k = 6 then bare k s n else if k = 3 then bare k s n else if k = 5 then bare k s n else if k = 7 then bare k s n else if k = 8 then bare k s n else bare k s n) = bare k s n
    simp
  have z1 : idOk 0 0 = false := by decide
  have z2 : cornerOk 0 0 0 0 0 = false := by decide
  have z3 : attrOk 0 = true := by decide
  have z4 : labelOk ⟨#[]⟩ = true := by decide
  unfold mayV
  rw [if_pos h1]
  unfold badV partsOk bare
  simp only [z1, z2, z3, z4]
  cases idOk s n
  · simp
  · by_cases e1 : k = 1
    · subst e1; simp
    by_cases e2 : k = 2
    · subst e2; simp
    by_cases e4 : k = 4
    · subst e4; simp
    by_cases e7 : k = 7
    · subst e7; simp
    by_cases e8 : k = 8
    · subst e8; simp
    simp [e1, e2, e4, e7, e8]

set_option maxHeartbeats 4000000 in
theorem opKinds_wk (w : World) (k : Int) (hk : rng k) (s n : Int) : Calls Try.prog 4 #[.int .i64 k, .agg #[.int .i64 s, .int .i64 n]] w (Ret (.bool true) w) := by
  have hok : (bare k s n).ok := by simp [OpV.ok, rng, bare]; exact hk
  have hm := bare_may k s n
  refine opKinds_sx _ (fun _ => False) w k s n ?_
  intro g hg w1 f1 _
  refine (shown_c w1).mono ?_
  rintro e w2 ⟨rfl, b2⟩
  have f2 := f1.step b2
  refine ⟨_, rfl, ok_below f1 b2, ?_⟩
  clear hg f1 b2
  repeat' (first
    | (with_reducible refine And.intro ?_ ?_)
    | (with_reducible refine ⟨_, eql_bool _ _ _, ?_⟩)
    | ((with_reducible refine (ref01_may_c _ _ _).mono ?_); rintro e w' ⟨rfl, b⟩; refine ⟨_, rfl, ok_ret b (by assumption), ?_⟩; replace b := Fr.step (S := fun _ => False) (a := w) (by assumption) b)
    | (refine (may_c _ (bare k s n) hok).mono ?_; rintro e w' ⟨rfl, b⟩; refine ⟨_, rfl, ok_ret b (by assumption), ?_⟩; replace b := Fr.step (S := fun _ => False) (a := w) (by assumption) b)
    | (with_reducible intro _))
  all_goals first
    | (exfalso; simp_all; done)
    | (exfalso; cases hI : idOk s n <;> simp_all; done)
    | (refine (mayEdit_c _ (fun _ => True) _ 1 1 [bare k s n] ?_).mono ?_
       · refine Sl.of_heap (t := 29) (fr := (0, 0)) (cs := (bare k s n).cells.toList) ?_ ⟨rfl, hok, (Nat.zero_le _ : 0 ≤ maxLen)⟩ trivial
         assumption
       rintro e w' ⟨rfl, b⟩
       refine ⟨_, rfl, ok_ret b (by assumption), ret_leaf (Fr.step (by assumption) b) ?_⟩
       rw [mayEdit_one]; simp)

theorem trueB {b : Bool} (h : b = true) : Value.bool b = .bool true := by rw [h]

theorem only_nn (o : OpV) (h5 : ¬ o.kd = 5) (h8 : ¬ o.kd = 8) : (onlyV o).nn = 0 := by
  unfold onlyV; rw [if_neg h5, if_neg h8]
  split
  · rfl
  · split
    · rfl
    · split <;> rfl
theorem only_tx (o : OpV) (h7 : ¬ o.kd = 7) : (onlyV o).tx = ⟨#[]⟩ := by
  unfold onlyV; rw [if_neg h7]
  split
  · rfl
  · split
    · rfl
    · split
      · rfl
      · split <;> rfl
theorem only_s1 (o : OpV) (h5 : ¬ o.kd = 5) : (onlyV o).s1 = 0 := by
  unfold onlyV; rw [if_neg h5]
  split
  · rfl
  · split
    · rfl
    · split
      · rfl
      · split <;> rfl
theorem may_other {o : OpV} (h : ¬ onlyV o = o) : mayV o = 1 := by unfold mayV; rw [if_neg h]
theorem may_kind {o : OpV} (h : mayV o = 0) : 1 ≤ o.kd ∧ o.kd ≤ 8 := by
  unfold mayV at h
  split at h
  · unfold badV partsOk at h
    by_cases hk : 1 ≤ o.kd ∧ o.kd ≤ 8
    · exact hk
    · exfalso
      have e1 : ¬ (o.kd = 1 ∨ o.kd = 2 ∨ o.kd = 4 ∨ o.kd = 7) := by omega
      have e2 : ¬ o.kd = 6 := by omega
      have e3 : ¬ o.kd = 3 := by omega
      have e4 : ¬ o.kd = 5 := by omega
      have e5 : ¬ o.kd = 8 := by omega
      simp [if_neg e1, if_neg e2, if_neg e3, if_neg e4, if_neg e5] at h
  · cases h
theorem may_far {o : OpV} (h : o.kd < 1 ∨ 8 < o.kd) : mayV o = 1 := by
  unfold mayV
  have e1 : ¬ (o.kd = 1 ∨ o.kd = 2 ∨ o.kd = 4 ∨ o.kd = 7) := by omega
  have e2 : ¬ o.kd = 6 := by omega
  have e3 : ¬ o.kd = 3 := by omega
  have e4 : ¬ o.kd = 5 := by omega
  have e5 : ¬ o.kd = 8 := by omega
  split
  · unfold badV partsOk
    simp [if_neg e1, if_neg e2, if_neg e3, if_neg e4, if_neg e5]
  · rfl

theorem may_cl (w : World) (a b c d e f g h i j k l m n p q r : Int) (x : Bool) (y : ByteArray) (z : Int) (ho : (OpV.mk a b c d e f g h i j k l m n p q r x y z).ok) :
    Calls Try.prog 10 #[.agg #[.int .i64 a, .int .i64 b, .int .i64 c, .int .i64 d, .int .i64 e, .int .i64 f, .int .i64 g, .int .i64 h, .int .i64 i, .int .i64 j, .int .i64 k, .int .i64 l, .int .i64 m, .int .i64 n, .int .i64 p, .int .i64 q, .int .i64 r, .bool x, .string y, .int .i64 z]] w
      (Ret (.int .i64 (mayV (OpV.mk a b c d e f g h i j k l m n p q r x y z))) w) := may_c w _ ho
set_option maxHeartbeats 8000000 in
theorem opZero_wk (w : World) (o : OpV) (ho : o.ok) (n : Int) (hn : rng n) (s : ByteArray) : Calls Try.prog 3 #[.agg o.cells, .int .i64 n, .string s] w (Ret (.bool true) w) := by
  refine opZero_sx _ (fun _ => False) w o.kd o.s o.n o.s1 o.n1 o.s2 o.n2 o.a1 o.a2 o.a3 o.a4 o.a5 o.b1 o.b2 o.b3 o.b4 o.b5 o.oe o.tx o.nn n s ?_
  intro g hg w1 f1 _
  refine (shown_c w1).mono ?_
  rintro e w2 ⟨rfl, b2⟩
  have f2 := f1.step b2
  refine ⟨_, rfl, ok_below f1 b2, ?_⟩
  refine (may_c _ o ho).mono ?_
  rintro e w3 ⟨rfl, b3⟩
  have f3 := f2.step b3
  refine ⟨_, rfl, ok_below f2 b3, fun _ => ret_leaf f3 rfl, fun hm => ⟨fun _ => ret_leaf f3 rfl, fun hn0 => ⟨fun _ => ret_leaf f3 rfl, fun hs => ?_⟩⟩⟩
  have hk := may_kind hm
  have hA : ¬ o.kd = 5 → ¬ o.kd = 8 → mayV { o with nn := n } = 1 := fun h5 h8 => may_other fun h => by
    have h1 := only_nn { o with nn := n } h5 h8
    rw [h] at h1; simp only at h1; omega
  have hB : ¬ o.kd = 7 → mayV { o with tx := s } = 1 := fun h7 => may_other fun h => by
    have h1 := only_tx { o with tx := s } h7
    rw [h] at h1; simp only at h1; subst h1; exact hs rfl
  have hC : ¬ o.kd = 5 → mayV { o with s1 := 1, n1 := 1 } = 1 := fun h5 => may_other fun h => by
    have h1 := only_s1 { o with s1 := 1, n1 := 1 } h5
    rw [h] at h1; simp only at h1; omega
  have hw : IntKind.i64.wrap (o.kd + 8) = o.kd + 8 := wrap_in (by omega)
  generalize IntKind.i64.wrap (o.kd + 8) = K at *
  have hD : mayV { o with kd := K } = 1 := may_far (by simp only [hw]; omega)
  have oA : OpV.ok { o with nn := n } := ⟨ho.1, ho.2.1, ho.2.2.1, hn⟩
  have oB : OpV.ok { o with tx := s } := ho
  have oC : OpV.ok { o with s1 := 1, n1 := 1 } := ho
  have oD : OpV.ok { o with kd := K } := ⟨by simp only [hw, rng]; omega, ho.2⟩
  clear hw b3 b2 hm hn ho hs hn0 f1 f2 hg
  intro g1 _ g2 _ g3 _ g4 _
  by_cases h5 : o.kd = 5
  · have h7 : (o.kd = 7) = False := by simp; omega
    have h8 : (o.kd = 8) = False := by simp; omega
    have h5' : (o.kd = 5) = True := by simp [h5]
    have hB := hB (by omega)
    clear hA hC
    simp only [h5', h7, h8, true_implies, false_implies, true_and, and_true, not_true, not_false_eq_true, implies_true, reduceCtorEq, Bool.true_eq_false, Bool.false_eq_true]
    repeat' (first
      | (with_reducible refine And.intro ?_ ?_)
      | ((with_reducible refine (may_cl _ _ _ _ _ _ _ _ _ _ _ _ _ _ _ _ _ _ _ _ _ (by assumption)).mono ?_); rintro e w' ⟨rfl, b⟩; refine ⟨_, rfl, ok_ret b (by assumption), ?_⟩; replace b := Fr.step (by assumption) b)
      | (with_reducible intro _))
    all_goals (refine ret_leaf (by assumption) ?_)
    all_goals (first | rfl | (simp only [hA]; rfl) | (simp only [hB]; rfl) | (simp only [hC]; rfl) | (simp only [hD]; rfl) | (exfalso; contradiction) | (exfalso; trace_state; omega))
  · have h5' : (o.kd = 5) = False := by simp [h5]
    have hC := hC h5
    by_cases h7 : o.kd = 7
    · have h8 : (o.kd = 8) = False := by simp; omega
      have h7' : (o.kd = 7) = True := by simp [h7]
      have hA := hA h5 (by omega)
      clear hB
      simp only [h5', h7', h8, true_implies, false_implies, true_and, and_true, not_true, not_false_eq_true, implies_true, reduceCtorEq, Bool.true_eq_false, Bool.false_eq_true]
      repeat' (first
        | (with_reducible refine And.intro ?_ ?_)
        | ((with_reducible refine (may_cl _ _ _ _ _ _ _ _ _ _ _ _ _ _ _ _ _ _ _ _ _ (by assumption)).mono ?_); rintro e w' ⟨rfl, b⟩; refine ⟨_, rfl, ok_ret b (by assumption), ?_⟩; replace b := Fr.step (by assumption) b)
        | (with_reducible intro _))
      all_goals (refine ret_leaf (by assumption) ?_)
      all_goals (first | rfl | (simp only [hA]; rfl) | (simp only [hB]; rfl) | (simp only [hC]; rfl) | (simp only [hD]; rfl) | (exfalso; contradiction) | (exfalso; trace_state; omega))
    · have h7' : (o.kd = 7) = False := by simp [h7]
      have hB := hB h7
      by_cases h8 : o.kd = 8
      · have h8' : (o.kd = 8) = True := by simp [h8]
        clear hA
        simp only [h5', h7', h8', true_implies, false_implies, true_and, and_true, not_true, not_false_eq_true, implies_true, reduceCtorEq, Bool.true_eq_false, Bool.false_eq_true]
        repeat' (first
          | (with_reducible refine And.intro ?_ ?_)
          | ((with_reducible refine (may_cl _ _ _ _ _ _ _ _ _ _ _ _ _ _ _ _ _ _ _ _ _ (by assumption)).mono ?_); rintro e w' ⟨rfl, b⟩; refine ⟨_, rfl, ok_ret b (by assumption), ?_⟩; replace b := Fr.step (by assumption) b)
          | (with_reducible intro _))
        all_goals (refine ret_leaf (by assumption) ?_)
        all_goals (first | rfl | (simp only [hA]; rfl) | (simp only [hB]; rfl) | (simp only [hC]; rfl) | (simp only [hD]; rfl) | (exfalso; contradiction) | (exfalso; trace_state; omega))
      · have h8' : (o.kd = 8) = False := by simp [h8]
        have hA := hA h5 h8
        simp only [h5', h7', h8', true_implies, false_implies, true_and, and_true, not_true, not_false_eq_true, implies_true, reduceCtorEq, Bool.true_eq_false, Bool.false_eq_true]
        repeat' (first
          | (with_reducible refine And.intro ?_ ?_)
          | ((with_reducible refine (may_cl _ _ _ _ _ _ _ _ _ _ _ _ _ _ _ _ _ _ _ _ _ (by assumption)).mono ?_); rintro e w' ⟨rfl, b⟩; refine ⟨_, rfl, ok_ret b (by assumption), ?_⟩; replace b := Fr.step (by assumption) b)
          | (with_reducible intro _))
        all_goals (refine ret_leaf (by assumption) ?_)
        all_goals (first | rfl | (simp only [hA]; rfl) | (simp only [hB]; rfl) | (simp only [hC]; rfl) | (simp only [hD]; rfl) | (exfalso; contradiction) | (exfalso; trace_state; omega))

/-- A value of two or more cells is a row of them. -/
theorem agg_of {v : Value} {cs : Array Value} (h : v.cells.toList = cs.toList) (n : 2 ≤ cs.size) : v = .agg cs := by
  have e : v.cells = cs := Array.ext' h
  cases v
  case agg a => exact congrArg Value.agg e
  all_goals (exfalso; rw [← e] at n; simp only [Value.cells] at n; simp at n)

theorem opKinds_walk (w : World) (k : Int) (hk : -9223372036854775808 ≤ k ∧ k ≤ 9223372036854775807) (v : Value) (x : IDT) (h : Rep.K w (fun b => b < w.heap.size) x v.cells.toList) :
    Calls Try.prog 4 #[.int .i64 k, v] w fun e w' => e = .returned (.bool true) ∧ Below w.heap.size w w' := by
  obtain ⟨s, n⟩ := x
  obtain ⟨c1, c2, h, ⟨rfl, _⟩, ⟨rfl, _⟩⟩ := h
  obtain rfl : v = .agg #[.int .i64 s, .int .i64 n] := agg_of h (by simp)
  exact opKinds_wk w k hk s n

theorem opZero_walk (w : World) (v : Value) (o : OpV) (h : Rep.K w (fun b => b < w.heap.size) o v.cells.toList) (n : Int) (hn : -9223372036854775808 ≤ n ∧ n ≤ 9223372036854775807) (s : ByteArray) (hs : s.size ≤ 140737488351232) :
    Calls Try.prog 3 #[v, .int .i64 n, .string s] w fun e w' => e = .returned (.bool true) ∧ Below w.heap.size w w' := by
  obtain rfl : v = .agg o.cells := agg_of h.1 (by simp [OpV.cells])
  exact opZero_wk w o h.2.1 n hn s
end Go.Proofs.Ytlcjlcfogcbddaa
