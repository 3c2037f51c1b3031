/- Operations: contracts of package op and of its reference. -/
import Derived.Test.YtfjenamomipmdaaDoorOpX
import Derived.Test.YtfjenamomipmdaaDoorCal
import Derived.Test.YtfjenamomipmdaaDoorOpA
import Derived.Test.YtfjenamomipmdaaDoorOpD
set_option linter.unusedSimpArgs false
set_option linter.unusedVariables false
namespace Go.Proofs.YtfjenamomipmdaaDoor
open Go Go.RowKit Go.Proofs Go.Trc Go.Sx

/-- An operation, field by field. -/
structure OpV where
  kd : Int
  s : Int
  n : Int
  s1 : Int
  n1 : Int
  s2 : Int
  n2 : Int
  a1 : Int
  a2 : Int
  a3 : Int
  a4 : Int
  a5 : Int
  b1 : Int
  b2 : Int
  b3 : Int
  b4 : Int
  b5 : Int
  oe : Bool
  tx : ByteArray
  nn : Int
  deriving DecidableEq

def OpV.cells (o : OpV) : Array Value := #[.int .i64 o.kd, .int .i64 o.s, .int .i64 o.n, .int .i64 o.s1, .int .i64 o.n1, .int .i64 o.s2, .int .i64 o.n2, .int .i64 o.a1, .int .i64 o.a2, .int .i64 o.a3, .int .i64 o.a4, .int .i64 o.a5,
  .int .i64 o.b1, .int .i64 o.b2, .int .i64 o.b3, .int .i64 o.b4, .int .i64 o.b5, .bool o.oe, .string o.tx, .int .i64 o.nn]

def rng (x : Int) : Prop := -9223372036854775808 ≤ x ∧ x ≤ 9223372036854775807
/-- Its numbers are int's. -/
def OpV.ok (o : OpV) : Prop := rng o.kd ∧ rng o.a5 ∧ rng o.b5 ∧ rng o.nn
def OpV.zero : OpV := ⟨0, 0, 0, 0, 0, 0, 0, 0, 0, 0, 0, 0, 0, 0, 0, 0, 0, false, ⟨#[]⟩, 0⟩

/-- The fields that its kind names. -/
def onlyV (o : OpV) : OpV :=
  if o.kd = 6 then { OpV.zero with kd := o.kd, s := o.s, n := o.n, s2 := o.s2, n2 := o.n2 }
  else if o.kd = 3 then { OpV.zero with kd := o.kd, s := o.s, n := o.n, a1 := o.a1, a2 := o.a2, a3 := o.a3, a4 := o.a4, a5 := o.a5, b1 := o.b1, b2 := o.b2, b3 := o.b3, b4 := o.b4, b5 := o.b5 }
  else if o.kd = 5 then { OpV.zero with kd := o.kd, s := o.s, n := o.n, s1 := o.s1, n1 := o.n1, s2 := o.s2, n2 := o.n2, nn := o.nn }
  else if o.kd = 7 then { OpV.zero with kd := o.kd, s := o.s, n := o.n, oe := o.oe, tx := o.tx }
  else if o.kd = 8 then { OpV.zero with kd := o.kd, s := o.s, n := o.n, oe := o.oe, nn := o.nn }
  else { OpV.zero with kd := o.kd, s := o.s, n := o.n }
/-- Each of these may be. -/
def partsOk (o : OpV) : Bool :=
  if o.kd = 1 ∨ o.kd = 2 ∨ o.kd = 4 ∨ o.kd = 7 then true
  else if o.kd = 6 then idOk o.s2 o.n2
  else if o.kd = 3 then cornerOk o.a1 o.a2 o.a3 o.a4 o.a5 && cornerOk o.b1 o.b2 o.b3 o.b4 o.b5
  else if o.kd = 5 then idOk o.s1 o.n1 && (idOk o.s2 o.n2 && decide (0 ≤ o.nn ∧ o.nn ≤ 3))
  else if o.kd = 8 then attrOk o.nn
  else false
def badV (o : OpV) : Int := if idOk o.s o.n && partsOk o then (if o.kd = 7 && !labelOk o.tx then 4 else 0) else 1
def mayV (o : OpV) : Int := if onlyV o = o then badV o else 1

theorem andNot3 (k : Int) (h : rng k) : (bits .andNot .i64 k 3 = 0) ↔ (0 ≤ k ∧ k ≤ 3) := by
  have := andNot_low k 2 (by decide) h
  rw [show ((2 ^ 2 - 1 : Nat) : Int) = 3 from rfl, show ((2 ^ 2 : Nat) : Int) = 4 from rfl] at this
  rw [this]
  omega

theorem corner_c (w : World) (s n t m k : Int) (hk : rng k) : Calls Tryd.prog 107 #[.agg #[.int .i64 s, .int .i64 n, .int .i64 t, .int .i64 m, .int .i64 k]] w (Ret (.bool (cornerOk s n t m k)) w) := may_corner w s n t m k hk
set_option maxHeartbeats 4000000 in
theorem only_c (w : World) (o : OpV) (ho : o.ok) : Calls Tryd.prog 87 #[.agg o.cells] w (Ret (.tuple #[.agg (onlyV o).cells, .int .i64 (badV o)]) w) := by
  obtain ⟨kd, s, n, s1, n1, s2, n2, a1, a2, a3, a4, a5, b1, b2, b3, b4, b5, oe, tx, nn⟩ := o
  obtain ⟨hkd, ha5, hb5, hnn⟩ := ho
  simp only at hkd ha5 hb5 hnn
  have h3 := andNot3 nn hnn
  refine op_only_sx _ (fun _ => False) w kd s n s1 n1 s2 n2 a1 a2 a3 a4 a5 b1 b2 b3 b4 b5 oe tx nn ?_
  have f0 : Fr (fun _ => False) w w := Fr.refl _ _
  repeat' (first
    | (with_reducible refine And.intro ?_ ?_)
    | (with_reducible intro _)
    | ((with_reducible refine (may_id _ _ _).mono ?_); rintro e w' ⟨rfl, b⟩; refine ⟨_, rfl, ok_ret b (by assumption), ?_⟩; replace b := Fr.step (S := fun _ => False) (a := w) (by assumption) b)
    | ((with_reducible (first | refine (corner_c _ _ _ _ _ _ ha5).mono ?_ | refine (corner_c _ _ _ _ _ _ hb5).mono ?_)); rintro e w' ⟨rfl, b⟩; refine ⟨_, rfl, ok_ret b (by assumption), ?_⟩; replace b := Fr.step (S := fun _ => False) (a := w) (by assumption) b)
    | ((with_reducible refine (may_label _ _).mono ?_); rintro e w' ⟨rfl, b⟩; refine ⟨_, rfl, ok_ret b (by assumption), ?_⟩; replace b := Fr.step (S := fun _ => False) (a := w) (by assumption) b)
    | ((with_reducible refine (may_attr _ _).mono ?_); rintro e w' ⟨rfl, rfl⟩; refine ⟨_, rfl, ok_same (by assumption), ?_⟩))
  all_goals (refine ret_leaf (by assumption) ?_)
  all_goals (simp [onlyV, badV, partsOk, OpV.cells, OpV.zero, *] <;> omega)

theorem opEq_iff (o p : OpV) : opEq o.kd o.s o.n o.s1 o.n1 o.s2 o.n2 o.a1 o.a2 o.a3 o.a4 o.a5 o.b1 o.b2 o.b3 o.b4 o.b5 o.nn p.kd p.s p.n p.s1 p.n1 p.s2 p.n2 p.a1 p.a2 p.a3 p.a4 p.a5 p.b1 p.b2 p.b3 p.b4 p.b5 p.nn o.oe p.oe o.tx p.tx = decide (o = p) := by
  obtain ⟨kd, s, n, s1, n1, s2, n2, a1, a2, a3, a4, a5, b1, b2, b3, b4, b5, oe, tx, nn⟩ := o
  obtain ⟨kd', s', n', s1', n1', s2', n2', a1', a2', a3', a4', a5', b1', b2', b3', b4', b5', oe', tx', nn'⟩ := p
  have ht : (tx.toList = tx'.toList) ↔ tx = tx' := bytes_toList_inj
  rw [Bool.eq_iff_iff]
  simp only [opEq, Bool.and_eq_true, decide_eq_true_eq, OpV.mk.injEq, ht]

theorem neq_op (W : World) (o p : OpV) : (binOp .neq 39 (.agg o.cells) (.agg p.cells)).run Tryd.prog W = .ok (.bool (!(decide (o = p)))) W := by
  rw [← opEq_iff]
  exact run_neq_op W _ _ _ _ _ _ _ _ _ _ _ _ _ _ _ _ _ _ _ _ _ _ _ _ _ _ _ _ _ _ _ _ _ _ _ _ _ _ _ _

theorem may_c (w : World) (o : OpV) (ho : o.ok) : Calls Tryd.prog 62 #[.agg o.cells] w (Ret (.int .i64 (mayV o)) w) := by
  refine op_May_sx _ (fun _ => False) w o.kd o.s o.n o.s1 o.n1 o.s2 o.n2 o.a1 o.a2 o.a3 o.a4 o.a5 o.b1 o.b2 o.b3 o.b4 o.b5 o.oe o.tx o.nn ?_
  intro g hg w1 f1 _
  refine (only_c w1 o ho).mono ?_
  rintro e w2 ⟨rfl, b2⟩
  refine ⟨_, _, _, _, _, _, _, _, _, _, _, _, _, _, _, _, _, _, _, _, _, rfl, ok_below f1 b2, fun g' _ w3 f3 b3 => ⟨_, neq_op w3 (onlyV o) o, fun h => ret_leaf f3 ?_, fun h => ret_leaf f3 ?_⟩⟩
  · simp at h; simp [mayV, h]
  · simp at h; simp [mayV, h]

theorem eql_dart (W : World) (s n k s' n' k' : Int) : (binOp .eql 35 (.agg #[.int .i64 s, .int .i64 n, .int .i64 k]) (.agg #[.int .i64 s', .int .i64 n', .int .i64 k'])).run Tryd.prog W = .ok (.bool (decide (s = s' ∧ n = n' ∧ k = k'))) W := by
  go_simp
  by_cases h : s = s' <;> by_cases h' : n = n' <;> by_cases h'' : k = k' <;> simp [h, h', h'']

/-! ### The reference -/
theorem ref01_may_c (w : World) (s n : Int) : Calls Tryd.prog 93 #[.agg #[.int .i64 s, .int .i64 n]] w (Ret (.bool (idOk s n)) w) := by
  refine ref01_May_sx _ (fun _ => False) w s n ?_
  repeat' (first
    | (with_reducible refine And.intro ?_ ?_)
    | (with_reducible intro _))
  all_goals (refine ret_leaf (by assumption) ?_)
  all_goals (simp [idOk, *] <;> omega)

theorem ref01_dart_c (w : World) (s n k : Int) : Calls Tryd.prog 111 #[.agg #[.int .i64 s, .int .i64 n, .int .i64 k]] w (Ret (.bool (dartOk s n k)) w) := by
  refine ref01_MayDart_sx _ (fun _ => False) w s n k ?_
  repeat' (first
    | (with_reducible refine And.intro ?_ ?_)
    | (with_reducible intro _)
    | ((with_reducible refine (ref01_may_c _ _ _).mono ?_); rintro e w' ⟨rfl, b⟩; refine ⟨_, rfl, ok_ret b (by assumption), ?_⟩; replace b := Fr.step (S := fun _ => False) (a := w) (by assumption) b))
  all_goals (refine ret_leaf (by assumption) ?_)
  all_goals (simp [dartOk, *])
  all_goals rfl

theorem ref09_corner_c (w : World) (s n t m k : Int) : Calls Tryd.prog 95 #[.agg #[.int .i64 s, .int .i64 n, .int .i64 t, .int .i64 m, .int .i64 k]] w (Ret (.bool (cornerOk s n t m k)) w) := by
  refine ref09_corner_sx _ (fun _ => False) w s n t m k ?_
  intro g hg w1 f1 _
  refine (ref01_may_c w1 s n).mono ?_
  rintro e w2 ⟨rfl, b2⟩
  have f2 := f1.step b2
  refine ⟨_, rfl, ok_below f1 b2, (ref01_dart_c w2 t m k).mono ?_⟩
  rintro e w3 ⟨rfl, b3⟩
  have f3 := f2.step b3
  refine ⟨_, rfl, ok_below f2 b3, fun h1 => ⟨fun h2 => ret_leaf f3 ?_, fun h2 => ⟨_, eql_dart w3 t m k 0 0 0, ret_leaf f3 ?_⟩⟩, fun h1 => ret_leaf f3 ?_⟩
  · simp [cornerOk, h1, h2]
  · simp [cornerOk, h1, h2]
  · simp [cornerOk, h1]

theorem ref04_attr_c (w : World) (n : Int) : Calls Tryd.prog 96 #[.int .i64 n] w (Ret (.bool (attrOk n)) w) := by
  refine ref04_MayAttr_sx _ (fun _ => False) w n ?_
  have f0 : Fr (fun _ => False) w w := Fr.refl _ _
  repeat' (first
    | (with_reducible refine And.intro ?_ ?_)
    | (with_reducible intro _))
  all_goals (refine ret_leaf (by assumption) ?_)
  all_goals (simp [attrOk, *] <;> omega)

theorem ref04_label_c (w : World) (s : ByteArray) (hs : s.size ≤ maxLen) : Calls Tryd.prog 97 #[.string s] w (Ret (.bool (labelOk s)) w) := by
  unfold maxLen at hs
  refine ref04_MayLabel_sx _ (fun _ => False) w s ?_
  refine ⟨fun b i w1 => ∃ k : Nat, i = k ∧ k ≤ s.size ∧ ∀ j (h : j < s.size), j < k → 32 ≤ s[j].toNat ∧ s[j].toNat ≤ 126, fun b i w1 => (s.size - i : Int).toNat, ⟨0, rfl, Nat.zero_le _, fun j _ h => absurd h (Nat.not_lt_zero _)⟩, ?_⟩
  rintro b i w1 f1 ⟨k, rfl, hk, hall⟩
  refine ⟨fun hlt => ?_, fun hge => ret_leaf f1 ?_⟩
  · have hlt' : k < s.size := by omega
    refine ⟨_, run_index_str _ Tryd.underlying9 s k hlt' _, fun h => ret_leaf f1 ?_, fun h => ⟨_, run_index_str _ Tryd.underlying9 s k hlt' _, fun h' => ret_leaf f1 ?_, fun h' => ⟨⟨k + 1, ?_, hlt', fun j hj hjk => ?_⟩, ?_⟩⟩⟩
    · have : labelOk s = false := by
        unfold labelOk
        rw [Bool.and_eq_false_iff]
        exact .inl (decide_eq_false fun hh => by have := hh k hlt'; omega)
      rw [this]
    · have : labelOk s = false := by
        unfold labelOk
        rw [Bool.and_eq_false_iff]
        exact .inl (decide_eq_false fun hh => by have := hh k hlt'; omega)
      rw [this]
    · rw [wrap_in (by have := hs; omega)]; omega
    · by_cases e : j = k
      · subst e; omega
      · exact hall j hj (by omega)
    · rw [wrap_in (by have := hs; omega)]; dsimp only; omega
  · have : labelOk s = decide ((s.size : Int) ≤ 16) := by
      unfold labelOk
      rw [decide_eq_true (fun i h => hall i h (by omega)), Bool.true_and]
      exact decide_eq_decide.2 (by omega)
    rw [this]

def restV (o : OpV) : OpV :=
  if o.kd = 3 then { o with kd := 0, s := 0, n := 0, a1 := 0, a2 := 0, a3 := 0, a4 := 0, a5 := 0, b1 := 0, b2 := 0, b3 := 0, b4 := 0, b5 := 0 }
  else if o.kd = 5 then { o with kd := 0, s := 0, n := 0, s1 := 0, n1 := 0, s2 := 0, n2 := 0, nn := 0 }
  else if o.kd = 6 then { o with kd := 0, s := 0, n := 0, s2 := 0, n2 := 0 }
  else if o.kd = 7 then { o with kd := 0, s := 0, n := 0, oe := false, tx := ⟨#[]⟩ }
  else if o.kd = 8 then { o with kd := 0, s := 0, n := 0, oe := false, nn := 0 }
  else { o with kd := 0, s := 0, n := 0 }

theorem rest_c (w : World) (o : OpV) : Calls Tryd.prog 94 #[.agg o.cells] w (Ret (.agg (restV o).cells) w) := by
  obtain ⟨kd, s, n, s1, n1, s2, n2, a1, a2, a3, a4, a5, b1, b2, b3, b4, b5, oe, tx, nn⟩ := o
  refine ref09_rest_sx _ (fun _ => False) w kd s n s1 n1 s2 n2 a1 a2 a3 a4 a5 b1 b2 b3 b4 b5 oe tx nn ?_
  repeat' (first
    | (with_reducible refine And.intro ?_ ?_)
    | (with_reducible intro _))
  all_goals (refine ret_leaf (by assumption) ?_)
  all_goals (simp [restV, OpV.cells, *])

theorem only_rest (o : OpV) (h : 1 ≤ o.kd ∧ o.kd ≤ 8) : onlyV o = o ↔ restV o = OpV.zero := by
  obtain ⟨kd, s, n, s1, n1, s2, n2, a1, a2, a3, a4, a5, b1, b2, b3, b4, b5, oe, tx, nn⟩ := o
  have hk : kd = 1 ∨ kd = 2 ∨ kd = 3 ∨ kd = 4 ∨ kd = 5 ∨ kd = 6 ∨ kd = 7 ∨ kd = 8 := by simp only at h; omega
  rcases hk with rfl | rfl | rfl | rfl | rfl | rfl | rfl | rfl
  all_goals simp [onlyV, restV, OpV.zero, eq_comm (a := (0 : Int)), eq_comm (a := (⟨#[]⟩ : ByteArray))]

theorem mayV_ref (o : OpV) : (if o.kd < 1 ∨ 8 < o.kd ∨ idOk o.s o.n = false ∨ ¬ restV o = OpV.zero then (1 : Int)
    else if o.kd = 3 then (if cornerOk o.a1 o.a2 o.a3 o.a4 o.a5 && cornerOk o.b1 o.b2 o.b3 o.b4 o.b5 then 0 else 1)
    else if o.kd = 5 then (if idOk o.s1 o.n1 && idOk o.s2 o.n2 && decide (0 ≤ o.nn ∧ o.nn ≤ 3) then 0 else 1)
    else if o.kd = 6 then (if idOk o.s2 o.n2 then 0 else 1)
    else if o.kd = 8 then (if attrOk o.nn then 0 else 1)
    else if o.kd = 7 then (if labelOk o.tx then 0 else 4) else 0) = mayV o := by
  have hr := only_rest o
  unfold mayV
  by_cases h1 : 1 ≤ o.kd ∧ o.kd ≤ 8
  · by_cases hq : restV o = OpV.zero
    · have ho := (hr h1).2 hq
      rw [if_pos ho]
      have h2 : ¬ o.kd < 1 := by omega
      have h3 : ¬ 8 < o.kd := by omega
      simp only [hq, not_true, or_false, h2, h3, false_or, badV, partsOk]
      cases hi : idOk o.s o.n
      · simp
      · have hk : o.kd = 1 ∨ o.kd = 2 ∨ o.kd = 3 ∨ o.kd = 4 ∨ o.kd = 5 ∨ o.kd = 6 ∨ o.kd = 7 ∨ o.kd = 8 := by omega
        rcases hk with h | h | h | h | h | h | h | h
        all_goals simp [h]
        · cases idOk o.s1 o.n1 <;> cases idOk o.s2 o.n2 <;> simp
        · cases labelOk o.tx <;> simp
    · have ho : ¬ onlyV o = o := fun h => hq ((hr h1).1 h)
      rw [if_neg ho, if_pos (.inr (.inr (.inr hq)))]
  · have h4 : o.kd < 1 ∨ 8 < o.kd := by omega
    rw [if_pos (by rcases h4 with h | h; exact .inl h; exact .inr (.inl h))]
    have hb : badV o = 1 := by
      have e1 : ¬ (o.kd = 1 ∨ o.kd = 2 ∨ o.kd = 4 ∨ o.kd = 7) := by omega
      have e2 : ¬ o.kd = 6 := by omega
      have e3 : ¬ o.kd = 3 := by omega
      have e4 : ¬ o.kd = 5 := by omega
      have e5 : ¬ o.kd = 8 := by omega
      simp only [badV, partsOk, if_neg e1, if_neg e2, if_neg e3, if_neg e4, if_neg e5, Bool.and_false, Bool.false_eq_true, if_false]
    rw [hb]
    split <;> rfl

theorem ref_may_c (w : World) (o : OpV) (ho : o.tx.size ≤ maxLen) : Calls Tryd.prog 69 #[.agg o.cells] w (Ret (.int .i64 (mayV o)) w) := by
  rw [← mayV_ref]
  refine ref09_May_sx _ (fun _ => False) w o.kd o.s o.n o.s1 o.n1 o.s2 o.n2 o.a1 o.a2 o.a3 o.a4 o.a5 o.b1 o.b2 o.b3 o.b4 o.b5 o.oe o.tx o.nn ?_
  repeat' (first
    | (with_reducible refine And.intro ?_ ?_)
    | (with_reducible intro _)
    | ((with_reducible refine (ref01_may_c _ _ _).mono ?_); rintro e w' ⟨rfl, b⟩; refine ⟨_, rfl, ok_ret b (by assumption), ?_⟩; replace b := Fr.step (S := fun _ => False) (a := w) (by assumption) b)
    | ((with_reducible refine (ref09_corner_c _ _ _ _ _ _).mono ?_); rintro e w' ⟨rfl, b⟩; refine ⟨_, rfl, ok_ret b (by assumption), ?_⟩; replace b := Fr.step (S := fun _ => False) (a := w) (by assumption) b)
    | ((with_reducible refine (ref04_label_c _ _ ho).mono ?_); rintro e w' ⟨rfl, b⟩; refine ⟨_, rfl, ok_ret b (by assumption), ?_⟩; replace b := Fr.step (S := fun _ => False) (a := w) (by assumption) b)
    | ((with_reducible refine (ref04_attr_c _ _).mono ?_); rintro e w' ⟨rfl, b⟩; refine ⟨_, rfl, ok_ret b (by assumption), ?_⟩; replace b := Fr.step (S := fun _ => False) (a := w) (by assumption) b)
    | (refine (rest_c _ o).mono ?_; rintro e w' ⟨rfl, b⟩; refine ⟨_, _, _, _, _, _, _, _, _, _, _, _, _, _, _, _, _, _, _, _, rfl, ok_ret b (by assumption), ⟨_, neq_op w' (restV o) OpV.zero, ?_⟩⟩; replace b := Fr.step (S := fun _ => False) (a := w) (by assumption) b))
  all_goals (refine ret_leaf (by assumption) ?_)
  all_goals (congr 1)
  all_goals (simp_all <;> omega)
  all_goals trace_state
end Go.Proofs.YtfjenamomipmdaaDoor

