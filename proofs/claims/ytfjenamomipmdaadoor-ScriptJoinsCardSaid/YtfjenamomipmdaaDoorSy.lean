/- Sy: the tree says what the code does (operations). -/
import Derived.Test.YtfjenamomipmdaaDoorSx
set_option linter.unusedSimpArgs false
set_option linter.unusedVariables false
namespace Go.Sx
open Go Go.RowKit Go.Trc

/-! ### Rows of letters -/
theorem nth_eq {α : Type} : ∀ (l : List α) (j : Nat), nth l j = l[j]?
  | [], _ => by simp [nth]
  | _ :: _, 0 => rfl
  | _ :: l, j + 1 => by simpa [nth] using nth_eq l j
theorem nth_app {α : Type} {l : List α} {j : Nat} (m : List α) (h : j < l.length) : nth (l ++ m) j = nth l j := by
  rw [nth_eq, nth_eq, List.getElem?_append_left h]
theorem nth_app2 {α : Type} (l m : List α) (j : Nat) : nth (l ++ m) (l.length + j) = nth m j := by
  rw [nth_eq, nth_eq, List.getElem?_append_right (by omega)]; congr 1; omega
theorem cells_len (e : Env) : ∀ l : List SC, (cellsDen e l).length = l.length
  | [] => rfl
  | _ :: l => by simp [cellsDen, cells_len e l]
theorem cells_nth (e : Env) : ∀ (l : List SC) (j : Nat), (cellsDen e l)[j]? = (nth l j).map (SC.den e)
  | [], _ => by simp [cellsDen, nth]
  | _ :: _, 0 => by simp [cellsDen, nth]
  | _ :: l, j + 1 => by simpa [cellsDen, nth] using cells_nth e l j
theorem cells_eq (e : Env) : ∀ l : List SC, cellsDen e l = l.map (SC.den e)
  | [] => rfl
  | _ :: l => by simp [cellsDen, cells_eq e l]
theorem svs_eq (e : Env) : ∀ l : List SV, svsDen e l = l.map (SV.den e)
  | [] => rfl
  | _ :: l => by simp [svsDen, svs_eq e l]
theorem ns_eq (e : Env) : ∀ l : List Nat, nsDen e l = l.map (Env.N e)
  | [] => rfl
  | _ :: l => by simp [nsDen, ns_eq e l]
theorem memN_iff : ∀ (l : List Nat) (i : Nat), memN l i = true ↔ i ∈ l
  | [], _ => by simp [memN]
  | j :: l, i => by
    unfold memN
    by_cases h : j = i
    · simp [h]
    · rw [if_neg h, memN_iff l i]; simp [Ne.symm h]
theorem setN_len {α : Type} : ∀ (l : List α) (j : Nat) (x : α), (setN l j x).length = l.length
  | [], _, _ => rfl
  | _ :: _, 0, _ => rfl
  | _ :: l, j + 1, x => by simp [setN, setN_len l j x]
theorem setN_nth {α : Type} : ∀ (l : List α) (j i : Nat) (x : α), nth (setN l j x) i = if i = j then (if j < l.length then some x else none) else nth l i
  | [], j, i, x => by simp [setN, nth]
  | _ :: _, 0, 0, x => by simp [setN, nth]
  | _ :: _, 0, i + 1, x => by simp [setN, nth]
  | _ :: l, j + 1, 0, x => by simp [setN, nth]
  | _ :: l, j + 1, i + 1, x => by
    simp only [setN, nth, setN_nth l j i x, Nat.add_right_cancel_iff, List.length_cons, Nat.add_lt_add_iff_right]

/-! ### Letters of a new value -/
theorem N_app (e l : Env) (j : Nat) (h : j < e.length) : Env.N (e ++ l) j = Env.N e j := by unfold Env.N; rw [nth_app l h]
theorem okC_den {m : Nat} {e : Env} (l : Env) (he : m ≤ e.length) : ∀ {c : SC}, okC m c = true → c.den (e ++ l) = c.den e := by
  intro c h
  unfold okC at h
  split at h <;> (try simp only [decide_eq_true_eq, Bool.and_eq_true] at h)
  · simp only [SC.den, IE.den, Env.I]; rw [nth_app l (by omega)]
  · simp only [SC.den, BE.den, Env.B]; rw [nth_app l (by omega)]
  · simp only [SC.den, SE.den, Env.S]; rw [nth_app l (by omega)]
  · simp only [SC.den, Env.V]; rw [nth_app l (by omega)]
  · simp only [SC.den, Env.N]; rw [nth_app l (by omega)]
  · simp only [SC.den, AE.den, NE.den, Env.A, Env.N]; rw [nth_app l (by omega), nth_app l (by omega), nth_app l (by omega)]
  · cases h
theorem okL_den {m : Nat} {e : Env} (l : Env) (he : m ≤ e.length) : ∀ {cs : List SC}, okL m cs = true → cellsDen (e ++ l) cs = cellsDen e cs
  | [], _ => rfl
  | c :: cs, h => by
    simp only [okL, Bool.and_eq_true] at h
    simp only [cellsDen, okC_den l he h.1, okL_den l he h.2]
theorem okP_den {m : Nat} {e : Env} (l : Env) (he : m ≤ e.length) : ∀ {ps : List (Bool × List SC)}, okP m ps = true → compsDen (e ++ l) ps = compsDen e ps
  | [], _ => rfl
  | (b, c) :: ps, h => by
    simp only [okP, Bool.and_eq_true] at h
    have h1 := okL_den l he h.1
    have h2 := okP_den l he h.2
    simp only [compsDen, h2]
    congr 1
    unfold compDen
    cases b
    · cases c with
      | nil => rfl
      | cons x c => simp only [okL, Bool.and_eq_true] at h; simpa using okC_den l he h.1.1
    · simp [h1]
theorem okV_den {m : Nat} {e : Env} (l : Env) (he : m ≤ e.length) {v : SV} (h : okV m v = true) : v.den (e ++ l) = v.den e := by
  cases v with
  | one c => exact okC_den l he h
  | agg c => simp only [SV.den, okL_den l he (show okL m c = true from h)]
  | tup c => simp only [SV.den, okP_den l he (show okP m c = true from h)]

theorem exs_spec : ∀ {ks : List K} {F : List At → Prop}, exs ks F → ∃ l, l.length = ks.length ∧ F l
  | [], F, h => ⟨[], rfl, h⟩
  | .i :: r, F, ⟨x, h⟩ => let ⟨l, h1, h2⟩ := exs_spec h; ⟨_ :: l, by simp [h1], h2⟩
  | .b :: r, F, ⟨x, h⟩ => let ⟨l, h1, h2⟩ := exs_spec h; ⟨_ :: l, by simp [h1], h2⟩
  | .s :: r, F, ⟨x, h⟩ => let ⟨l, h1, h2⟩ := exs_spec h; ⟨_ :: l, by simp [h1], h2⟩
  | .v :: r, F, ⟨x, h⟩ => let ⟨l, h1, h2⟩ := exs_spec h; ⟨_ :: l, by simp [h1], h2⟩
  | .n :: r, F, ⟨x, h⟩ => let ⟨l, h1, h2⟩ := exs_spec h; ⟨_ :: l, by simp [h1], h2⟩
  | .a :: r, F, ⟨x, h⟩ => let ⟨l, h1, h2⟩ := exs_spec h; ⟨_ :: l, by simp [h1], h2⟩
  | .z :: r, F, ⟨x, T, h⟩ => let ⟨l, h1, h2⟩ := exs_spec h; ⟨_ :: l, by simp [h1], h2⟩

/-! ### Tests -/
theorem BE.T_iff (e : Env) : ∀ b : BE, (b.T e ↔ b.den e = true) ∧ (b.F e ↔ b.den e = false)
  | .lit b => by simp [BE.T, BE.F, BE.den]
  | .var j => by simp [BE.T, BE.F, BE.den]
  | .eq x y => by simp [BE.T, BE.F, BE.den]
  | .ne x y => by simp [BE.T, BE.F, BE.den]
  | .lt x y => by simp [BE.T, BE.F, BE.den]
  | .le x y => by simp [BE.T, BE.F, BE.den]
  | .not x => by simp [BE.T, BE.F, BE.den]
  | .seq x y => by simp [BE.T, BE.F, BE.den]
  | .and x y => by
    have h1 := BE.T_iff e x; have h2 := BE.T_iff e y
    simp only [BE.T, BE.F, BE.den, h1, h2, Bool.and_eq_true, Bool.and_eq_false_iff, and_self]
  | .or x y => by
    have h1 := BE.T_iff e x; have h2 := BE.T_iff e y
    simp only [BE.T, BE.F, BE.den, h1, h2, Bool.or_eq_true, Bool.or_eq_false_iff, and_self]
theorem BE.neg_den (e : Env) (b : BE) : b.neg.den e = !b.den e := by
  cases b <;> simp [BE.neg, BE.den]
  case eq x y => rfl
  case ne x y => rw [Bool.eq_iff_iff]; simp
  case lt x y => rw [Bool.eq_iff_iff]; simp
  case le x y => rw [Bool.eq_iff_iff]; simp

/-! ### Frames -/
theorem Fr.refl (S : Nat → Prop) (w : World) : Fr S w w := ⟨rfl, rfl, rfl, Nat.le_refl _, fun _ _ _ => rfl⟩
theorem Fr.trans {S S' S'' : Nat → Prop} {a b c : World} (h : Fr S a b) (g : Fr S' b c) (h1 : ∀ k, k < a.heap.size → S k → S'' k) (h2 : ∀ k, k < a.heap.size → S' k → S'' k) : Fr S'' a c :=
  ⟨g.os.trans h.os, g.tape.trans h.tape, g.output.trans h.output, Nat.le_trans h.size g.size, fun k hk hn => (g.block k (Nat.lt_of_lt_of_le hk h.size) (fun hs => hn (h2 k hk hs))).trans (h.block k hk (fun hs => hn (h1 k hk hs)))⟩
theorem Fr.mono {S S' : Nat → Prop} {a b : World} (h : Fr S a b) (h1 : ∀ k, k < a.heap.size → S k → S' k) : Fr S' a b :=
  ⟨h.os, h.tape, h.output, h.size, fun k hk hn => h.block k hk fun hs => hn (h1 k hk hs)⟩
theorem Fr.below {S : Nat → Prop} {a b : World} (h : Fr S a b) (hn : ∀ k, ¬ S k) : Below a.heap.size a b := ⟨h.os, h.tape, h.output, h.size, fun k hk => h.block k hk (hn k)⟩
theorem fr_below {a b : World} (h : Fr (fun _ => False) a b) : Below a.heap.size a b := h.below fun _ h => h
theorem below_fr {S : Nat → Prop} {a b : World} (h : Below a.heap.size a b) : Fr S a b := ⟨h.os, h.tape, h.output, h.size, fun k hk _ => h.block k hk⟩
theorem Fr.step {S : Nat → Prop} {a b c : World} (h : Fr S a b) (g : Below b.heap.size b c) : Fr S a c := h.trans (below_fr (S := fun _ => False) g) (fun _ _ h => h) (fun _ _ h => h.elim)
/-- Behind a call that turns nothing of what there was. -/
theorem ok_below {S : Nat → Prop} {w0 w w' : World} {bs : List Nat} (f : Fr S w0 w) (g : Below w.heap.size w w') : Fr S w0 w' ∧ Mild bs w w' := ⟨f.step g, g.size, fun b _ h => g.block b h⟩
/-- .. that turns nothing at all. -/
theorem ok_same {S : Nat → Prop} {w0 w : World} {bs : List Nat} (f : Fr S w0 w) : Fr S w0 w ∧ Mild bs w w := ⟨f, Nat.le_refl _, fun _ _ _ => rfl⟩
theorem keep_below {N : Nat} {D : List Nat} {w w' : World} (g : Below w.heap.size w w') (h : N ≤ w.heap.size) : Keep N D w w' := fun k hk _ => g.block k (Nat.lt_of_lt_of_le hk h)

/-! ### What holds between the letters and the machine -/
structure Cx where
  P : Program
  S : Nat → Prop
  w0 : World
  R : Ending → World → Prop
  N : Nat
  D : List Nat
  we : World

/-- Where an order is open: what is kept. -/
structure Lim (c : Cx) (e : Env) (hp : List (Nat × TypeId × List SC)) (n : Nat) (w : World) (m : Nat) (D : List Nat) : Prop where
  cst : ∀ l, Env.N (e ++ l) m = c.N ∧ Env.L (e ++ l) m ++ nsDen (e ++ l) D = c.D
  keep : Keep c.N c.D c.we w
  lo : ∀ l j b, hpGet hp j = some b → j < m → Env.N (e ++ l) j < c.N
  hi : ∀ l j b, hpGet hp j = some b → m < j → c.N ≤ Env.N (e ++ l) j
  out : ∀ l j b, hpGet hp j = some b → memN D j = false → Env.N (e ++ l) j ∉ c.D
  mlt : m < n
  size : c.N ≤ w.heap.size
  dlt : ∀ x ∈ c.D, x < c.N

structure HOk (c : Cx) (L : List LC) (e : Env) (s : St) (a : Act) (wb w : World) : Prop where
  env : e.length = s.n
  scope : ∀ j b, hpGet s.hp j = some b → j < s.n
  lv : L.length = s.lv
  defers : a.defers = []
  size : a.tmps.size = s.tm.length
  tm : ∀ l t v, s.get t = some v → a.tmps.getD t undef = v.den (e ++ l)
  hp : ∀ l j t cs, hpGet s.hp j = some (t, cs) → w.heap[Env.N (e ++ l) j]? = some (.cells (cellsDen (e ++ l) cs).toArray t (0, 0))
  inj : ∀ l j j' b b', hpGet s.hp j = some b → hpGet s.hp j' = some b' → Env.N (e ++ l) j = Env.N (e ++ l) j' → j = j'
  own : ∀ l j b, hpGet s.hp j = some b → c.w0.heap.size ≤ Env.N (e ++ l) j ∨ c.S (Env.N (e ++ l) j)
  one : ∀ l j t cs, hpGet s.hp j = some (t, cs) → ∀ u ∈ cellsDen (e ++ l) cs, u.oneCell' = true
  fr : Fr c.S c.w0 w
  frame : ∀ l, Fr (fun b => b ∈ nsDen (e ++ l) s.wr) wb w
  fresh : ∀ l j, memN s.fresh j = true → wb.heap.size ≤ Env.N (e ++ l) j
  clean : s.clean = true → w = wb
  known : ∀ l b v, (b, v) ∈ s.known → b.den (e ++ l) = v
  lim : ∀ m D, s.lim = some (m, D) → Lim c e s.hp s.n w m D

abbrev Cx.sat (c : Cx) (t : Tree) (L : List LC) (e : Env) (wb : World) : Prop := Sx.sat c.P c.S c.w0 c.R t L e wb
section
variable {c : Cx} {L : List LC} {e : Env} {s : St} {a : Act} {wb w : World}

theorem getD_set (x : Array Value) (d t : Nat) (v : Value) : (x.setIfInBounds d v).getD t undef = if t = d then (if d < x.size then v else undef) else x.getD t undef := by
  rw [Array.getD_eq_getD_getElem?, Array.getElem?_setIfInBounds, Array.getD_eq_getD_getElem?]
  by_cases h : d = t
  · subst h
    by_cases h' : d < x.size <;> simp [h']
  · rw [if_neg h, if_neg (Ne.symm h)]

theorem St.get_spec {s : St} {t : Nat} {v : SV} : s.get t = some v ↔ nth s.tm t = some (some v) := by
  unfold St.get
  split
  · rename_i v' h; rw [h]; simp
  · rename_i h
    constructor
    · intro h'; cases h'
    · intro h'; exact (h v h').elim

theorem HOk.put (h : HOk c L e s a wb w) (d : Option Nat) {v : SV} {x : Value} (hv : ∀ l, x = v.den (e ++ l)) : HOk c L e (s.put d (some v)) (a.put d x) wb w := by
  cases d with
  | none => exact h
  | some d =>
    refine ⟨h.env, h.scope, h.lv, h.defers, ?_, ?_, h.hp, h.inj, h.own, h.one, h.fr, h.frame, h.fresh, h.clean, h.known, h.lim⟩
    · simp only [Act.put, St.put, Array.size_setIfInBounds, setN_len]; exact h.size
    · intro l t u ht
      rw [St.get_spec] at ht
      simp only [St.put, setN_nth] at ht
      simp only [Act.put, getD_set]
      by_cases htd : t = d
      · subst htd
        rw [if_pos rfl] at ht ⊢
        rw [h.size]
        split at ht
        · rename_i hlt
          rw [if_pos hlt]
          simp only [Option.some.injEq] at ht
          subst ht
          exact hv l
        · cases ht
      · rw [if_neg htd] at ht ⊢
        exact h.tm l t u (St.get_spec.2 ht)

theorem HOk.ext (h : HOk c L e s a wb w) (l : Env) : HOk c L (e ++ l) { s with n := s.n + l.length } a wb w where
  env := by simp [h.env]
  scope := fun j b hg => Nat.lt_of_lt_of_le (h.scope j b hg) (Nat.le_add_right _ _)
  lv := h.lv
  defers := h.defers
  size := h.size
  tm := fun m => by rw [List.append_assoc]; exact h.tm (l ++ m)
  hp := fun m => by rw [List.append_assoc]; exact h.hp (l ++ m)
  inj := fun m => by rw [List.append_assoc]; exact h.inj (l ++ m)
  own := fun m => by rw [List.append_assoc]; exact h.own (l ++ m)
  one := fun m => by rw [List.append_assoc]; exact h.one (l ++ m)
  fr := h.fr
  frame := fun m => by rw [List.append_assoc]; exact h.frame (l ++ m)
  fresh := fun m => by rw [List.append_assoc]; exact h.fresh (l ++ m)
  clean := h.clean
  known := fun m => by rw [List.append_assoc]; exact h.known (l ++ m)
  lim := fun m D hl => by
    have g := h.lim m D hl
    exact ⟨fun x => by rw [List.append_assoc]; exact g.cst (l ++ x), g.keep, fun x => by rw [List.append_assoc]; exact g.lo (l ++ x), fun x => by rw [List.append_assoc]; exact g.hi (l ++ x),
      fun x => by rw [List.append_assoc]; exact g.out (l ++ x), Nat.lt_of_lt_of_le g.mlt (Nat.le_add_right _ _), g.size, g.dlt⟩

/-- What is known of a test. -/
theorem HOk.know (h : HOk c L e s a wb w) {b : BE} {v : Bool} (hb : ∀ l, b.den (e ++ l) = v) : HOk c L e { s with known := (b, v) :: s.known } a wb w :=
  ⟨h.env, h.scope, h.lv, h.defers, h.size, h.tm, h.hp, h.inj, h.own, h.one, h.fr, h.frame, h.fresh, h.clean, fun l b' v' hm => by
    rcases List.mem_cons.1 hm with hm | hm
    · injection hm with h1 h2; subst h1; subst h2; exact hb l
    · exact h.known l b' v' hm, h.lim⟩

theorem ofVal1_den {v : Value} {x : SC} (h : ofVal1 v = some x) (e : Env) : x.den e = v := by
  unfold ofVal1 at h
  split at h <;> first | (injection h with h; subst h; rfl) | cases h
theorem ofVals_den : ∀ {l : List Value} {x : List SC}, ofVals l = some x → ∀ e, cellsDen e x = l
  | [], x, h, e => by simp only [ofVals, Option.some.injEq] at h; subst h; rfl
  | v :: l, x, h, e => by
    simp only [ofVals] at h
    split at h
    · rename_i c r h1 h2
      injection h with h; subst h
      simp only [cellsDen, ofVal1_den h1 e, ofVals_den h2 e]
    · cases h
theorem ofVal_den {v : Value} {x : SV} (h : ofVal v = some x) (e : Env) : x.den e = v := by
  unfold ofVal at h
  split at h
  · obtain ⟨l, h1, rfl⟩ := Option.map_eq_some_iff.1 h
    simp only [SV.den, ofVals_den h1 e, Array.toArray_toList]
  · obtain ⟨l, h1, rfl⟩ := Option.map_eq_some_iff.1 h
    exact ofVal1_den h1 e
theorem ofVal_cells {v : Value} {x : SV} (h : ofVal v = some x) (e : Env) : cellsDen e x.cells = v.cells.toList := by
  unfold ofVal at h
  split at h
  · obtain ⟨l, h1, rfl⟩ := Option.map_eq_some_iff.1 h
    simpa [SV.cells, Value.cells] using ofVals_den h1 e
  · rename_i hne
    obtain ⟨l, h1, rfl⟩ := Option.map_eq_some_iff.1 h
    have := ofVal1_den h1 e
    simp only [SV.cells, cellsDen, this]
    cases v <;> first | rfl | (exact (hne _ rfl).elim)

theorem HOk.ev (h : HOk c L e s a wb w) {x : Operand} {v : SV} (hx : s.ev x = some v) (l : Env) : a.eval x = v.den (e ++ l) := by
  cases x with
  | tmp t => exact h.tm l t v hx
  | const u => exact (ofVal_den hx _).symm
  | global g => simp only [St.ev, Option.some.injEq] at hx; subst hx; rfl
  | func f => simp only [St.ev, Option.some.injEq] at hx; subst hx; rfl
theorem HOk.ev0 (h : HOk c L e s a wb w) {x : Operand} {v : SV} (hx : s.ev x = some v) : a.eval x = v.den e := by simpa using h.ev hx []
theorem HOk.evs (h : HOk c L e s a wb w) : ∀ {xs : List Operand} {vs : List SV}, s.evs xs = some vs → ∀ l, xs.map a.eval = svsDen (e ++ l) vs
  | [], vs, hx, l => by simp only [St.evs, Option.some.injEq] at hx; subst hx; rfl
  | x :: xs, vs, hx, l => by
    simp only [St.evs] at hx
    split at hx
    · rename_i v r h1 h2
      injection hx with hx; subst hx
      simp only [List.map_cons, svsDen, h.ev h1 l, h.evs h2 l]
    · cases hx
/-- The same for all letters that may come. -/
theorem HOk.same (h : HOk c L e s a wb w) {x : Operand} {v : SV} (hx : s.ev x = some v) (l : Env) : v.den (e ++ l) = v.den e := by rw [← h.ev hx l, h.ev0 hx]

theorem hpGet_names : ∀ {h : List (Nat × TypeId × List SC)} {j : Nat} {b : TypeId × List SC}, hpGet h j = some b → j ∈ hpNames h
  | [], _, _, h => by cases h
  | (i, t, cs) :: r, j, b, h => by
    unfold hpGet at h
    split at h
    · rename_i hij; simp [hpNames, hij]
    · simp only [hpNames, List.mem_cons]; exact .inr (hpGet_names h)

theorem tells_spec (e : Env) (wb w : World) (Q : Prop) : ∀ (l : List (Bool × Nat × TypeId × List SC)), tells e wb w l Q →
    (∀ f j t cs, (f, j, t, cs) ∈ l → (f = true → wb.heap.size ≤ e.N j) ∧ w.heap[e.N j]? = some (.cells (cellsDen e cs).toArray t (0, 0))) → Q
  | [], h, _ => h
  | (true, j, t, cs) :: l, h, hl => by
    have := hl true j t cs (by simp)
    exact tells_spec e wb w Q l (h (this.1 rfl) this.2) fun f j t cs hm => hl f j t cs (List.mem_cons_of_mem _ hm)
  | (false, j, t, cs) :: l, h, hl => by
    have := hl false j t cs (by simp)
    exact tells_spec e wb w Q l (h this.2) fun f j t cs hm => hl f j t cs (List.mem_cons_of_mem _ hm)

theorem tellOf_mem (s : St) (q : List Nat) : ∀ (h : List Nat) (f : Bool) (j : Nat) (t : TypeId) (cs : List SC), (f, j, t, cs) ∈ tellOf s q h → f = memN s.fresh j ∧ hpGet s.hp j = some (t, cs)
  | [], _, _, _, _, hm => by simp [tellOf] at hm
  | i :: h, f, j, t, cs, hm => by
    unfold tellOf at hm
    split at hm
    · split at hm
      · rename_i t' cs' hg
        rcases List.mem_cons.1 hm with hm | hm
        · simp only [Prod.mk.injEq] at hm
          obtain ⟨h1, rfl, rfl, rfl⟩ := hm
          exact ⟨h1, hg⟩
        · exact tellOf_mem s q h f j t cs hm
      · exact tellOf_mem s q h f j t cs hm
    · exact tellOf_mem s q h f j t cs hm

/-- What is said of every such world is said of this one. -/
theorem HOk.world (h : HOk c L e s a wb w) {q : List Nat} {Q : World → Prop} (hw : Sx.world c.S c.w0 e wb (s.dl q) Q) : Q w := by
  have hl : ∀ f j t cs, (f, j, t, cs) ∈ (s.dl q).tell → (f = true → wb.heap.size ≤ e.N j) ∧ w.heap[e.N j]? = some (.cells (cellsDen e cs).toArray t (0, 0)) := by
    intro f j t cs hm
    obtain ⟨h1, h2⟩ := tellOf_mem s _ _ f j t cs hm
    refine ⟨fun hf => ?_, by simpa using h.hp [] j t cs h2⟩
    subst hf
    simpa using h.fresh [] j h1.symm
  unfold Sx.world at hw
  split at hw
  · rename_i hc
    have := h.clean hc
    subst this
    exact tells_spec e w w _ _ hw hl
  · refine tells_spec e wb w _ _ (hw w h.fr ?_) hl
    have hf := h.frame []
    rw [List.append_nil] at hf
    show Dl.frame e (s.dl q) wb w
    unfold Dl.frame
    split
    · rename_i hwr
      simp only [St.dl] at hwr
      rw [hwr] at hf
      exact hf.below (by simp [nsDen])
    · simp only [St.dl] at *
      exact hf

theorem HOk.N (h : HOk c L e s a wb w) (l : Env) {j : Nat} {b : TypeId × List SC} (hg : hpGet s.hp j = some b) : Env.N (e ++ l) j = e.N j :=
  N_app e l j (by rw [h.env]; exact h.scope j b hg)

/-- Behind another's work: the world is told anew, some blocks hold something else. -/
theorem HOk.told' (h : HOk c L e s a wb w) {w' : World} {l : Env} (H : List (Nat × TypeId × List SC)) (hfr : Fr c.S c.w0 w') (hsz : w.heap.size ≤ w'.heap.size)
    (hH : ∀ j t cs, hpGet H j = some (t, cs) → (∃ b, hpGet s.hp j = some b) ∧ (∀ m, w'.heap[e.N j]? = some (.cells (cellsDen (e ++ (l ++ m)) cs).toArray t (0, 0))) ∧ ∀ m, ∀ u ∈ cellsDen (e ++ (l ++ m)) cs, u.oneCell' = true)
    (hK : ∀ m D, s.lim = some (m, D) → Keep (e.N m) (e.L m ++ nsDen e D) w w') : HOk c L (e ++ l) { s.told l.length with hp := H } a w' w' where
  env := by simp [St.told, h.env]
  scope := fun j b hg => by
    obtain ⟨t, cs⟩ := b
    obtain ⟨⟨b, hb⟩, _⟩ := hH j t cs hg
    exact Nat.lt_of_lt_of_le (h.scope j b hb) (Nat.le_add_right _ _)
  lv := h.lv
  defers := h.defers
  size := h.size
  tm := fun m => by rw [List.append_assoc]; exact h.tm (l ++ m)
  hp := fun m j t cs hg => by
    rw [List.append_assoc]
    obtain ⟨⟨b, hb⟩, h2, _⟩ := hH j t cs hg
    rw [h.N _ hb]
    exact h2 m
  inj := fun m j j' b b' hg hg' => by
    rw [List.append_assoc]
    obtain ⟨⟨b1, hb1⟩, _⟩ := hH j b.1 b.2 hg
    obtain ⟨⟨b2, hb2⟩, _⟩ := hH j' b'.1 b'.2 hg'
    exact h.inj (l ++ m) j j' b1 b2 hb1 hb2
  own := fun m j b hg => by
    rw [List.append_assoc]
    obtain ⟨⟨b1, hb1⟩, _⟩ := hH j b.1 b.2 hg
    exact h.own (l ++ m) j b1 hb1
  one := fun m j t cs hg => by
    rw [List.append_assoc]
    obtain ⟨_, _, h3⟩ := hH j t cs hg
    exact h3 m
  fr := hfr
  frame := fun m => Fr.refl _ _
  fresh := fun m j hj => by simp [St.told, memN] at hj
  clean := fun _ => rfl
  known := fun m => by rw [List.append_assoc]; exact h.known (l ++ m)
  lim := fun m D hl => by
    have g := h.lim m D hl
    refine ⟨fun x => by rw [List.append_assoc]; exact g.cst (l ++ x), ?_, fun x j b hg => ?_, fun x j b hg => ?_, fun x j b hg => ?_, Nat.lt_of_lt_of_le g.mlt (Nat.le_add_right _ _), Nat.le_trans g.size hsz, g.dlt⟩
    · have hk := hK m D hl
      have h0 := g.cst []
      rw [List.append_nil] at h0
      rw [h0.1, h0.2] at hk
      exact fun k hk1 hk2 => (hk k hk1 hk2).trans (g.keep k hk1 hk2)
    · rw [List.append_assoc]
      obtain ⟨⟨b1, hb1⟩, _⟩ := hH j b.1 b.2 hg
      exact g.lo (l ++ x) j b1 hb1
    · rw [List.append_assoc]
      obtain ⟨⟨b1, hb1⟩, _⟩ := hH j b.1 b.2 hg
      exact g.hi (l ++ x) j b1 hb1
    · rw [List.append_assoc]
      obtain ⟨⟨b1, hb1⟩, _⟩ := hH j b.1 b.2 hg
      exact g.out (l ++ x) j b1 hb1

theorem HOk.told (h : HOk c L e s a wb w) {w' : World} {l : Env} (hfr : Fr c.S c.w0 w') (hm : Mild (nsDen e (hpNames s.hp)) w w') (hK : ∀ m D, s.lim = some (m, D) → Keep (e.N m) (e.L m ++ nsDen e D) w w') :
    HOk c L (e ++ l) (s.told l.length) a w' w' :=
  h.told' s.hp hfr hm.1 (fun j t cs hg => ⟨⟨_, hg⟩, fun m => by
    have := h.hp (l ++ m) j t cs hg
    rw [h.N _ hg] at this
    rw [hm.2 _ (by rw [ns_eq]; exact List.mem_map_of_mem (hpGet_names hg)) (Array.getElem?_eq_some_iff.1 this).1, this], fun m => h.one (l ++ m) j t cs hg⟩) hK

/-- The same world, told. -/
theorem HOk.here (h : HOk c L e s a wb w) (l : Env) : HOk c L (e ++ l) (s.told l.length) a w w :=
  h.told h.fr ⟨Nat.le_refl _, fun _ _ _ => rfl⟩ fun _ _ _ _ _ _ => rfl

/-! ### New blocks -/
theorem oneCells_spec {P : Program} {S : Nat → Prop} {w0 : World} {R : Ending → World → Prop} {t : Tree} {L : List LC} {e : Env} {wb : World} : ∀ {cs : List SC}, sat P S w0 R (oneCells cs t) L e wb →
    sat P S w0 R t L e wb ∧ ∀ x ∈ cs, (x.den e).oneCell' = true
  | [], h => ⟨h, by simp⟩
  | x :: cs, h => by
    have key : ∀ {h : sat P S w0 R (oneCells cs t) L e wb}, (x.den e).oneCell' = true → sat P S w0 R t L e wb ∧ ∀ y ∈ x :: cs, (y.den e).oneCell' = true := fun {h} hx => by
      obtain ⟨h1, h2⟩ := oneCells_spec (cs := cs) h
      exact ⟨h1, fun y hy => by rcases List.mem_cons.1 hy with rfl | hy; exact hx; exact h2 y hy⟩
    cases x with
    | val j => exact key (h := h.2) h.1
    | undef => exact h.elim
    | _ => exact key (h := h) rfl

theorem mem_cellsDen {e : Env} {cs : List SC} {u : Value} (h : u ∈ cellsDen e cs) : ∃ x ∈ cs, u = x.den e := by
  rw [cells_eq] at h
  obtain ⟨x, hx, rfl⟩ := List.mem_map.1 h
  exact ⟨x, hx, rfl⟩

theorem HOk.block (h : HOk c L e s a wb w) (t : TypeId) {cs : List SC} {vs : List Value} (hcs : ∀ l, cellsDen (e ++ l) cs = vs) (h1 : ∀ u ∈ vs, u.oneCell' = true) :
    HOk c L (e ++ [.n w.heap.size]) { s with hp := (s.n, t, cs) :: s.hp, fresh := s.n :: s.fresh, clean := false, n := s.n + 1 } a wb (w.alloc (.cells vs.toArray t)) := by
  have hnew : ∀ l, Env.N (e ++ ([At.n w.heap.size] ++ l)) s.n = w.heap.size := fun l => by
    unfold Env.N
    have := nth_app2 e ([At.n w.heap.size] ++ l) 0
    rw [Nat.add_zero, h.env] at this
    rw [this]
    rfl
  have hold : ∀ l j b, hpGet s.hp j = some b → Env.N (e ++ l) j < w.heap.size := fun l j b hg => by
    have := h.hp l j b.1 b.2 hg
    exact (Array.getElem?_eq_some_iff.1 this).1
  have hget : ∀ {j b}, hpGet ((s.n, t, cs) :: s.hp) j = some b → (j = s.n ∧ b = (t, cs)) ∨ (j ≠ s.n ∧ hpGet s.hp j = some b) := fun {j b} hg => by
    unfold hpGet at hg
    split at hg
    · rename_i hj; injection hg with hg; exact .inl ⟨hj.symm, hg.symm⟩
    · rename_i hj; exact .inr ⟨fun h => hj h.symm, hg⟩
  refine ⟨by simp [h.env], ?_, h.lv, h.defers, h.size, fun l => by rw [List.append_assoc]; exact h.tm _, ?_, ?_, ?_, ?_, ?_, ?_, ?_, fun h => (by cases h), fun l => by rw [List.append_assoc]; exact h.known _, ?_⟩
  · intro j b hg
    rcases hget hg with ⟨rfl, _⟩ | ⟨_, hg⟩
    · exact Nat.lt_succ_self _
    · exact Nat.lt_succ_of_lt (h.scope j b hg)
  · intro l j t' cs' hg
    rw [List.append_assoc]
    rcases hget hg with ⟨rfl, hb⟩ | ⟨_, hg⟩
    · injection hb with hb1 hb2; subst hb1; subst hb2
      rw [hnew, hcs]
      exact heap_alloc_new w _
    · rw [Below.heap_alloc _ _ _ (hold _ j _ hg)]
      exact h.hp _ j t' cs' hg
  · intro l j j' b b' hg hg'
    rw [List.append_assoc]
    rcases hget hg with ⟨rfl, _⟩ | ⟨_, hg⟩ <;> rcases hget hg' with ⟨rfl, _⟩ | ⟨_, hg'⟩
    · exact fun _ => rfl
    · intro he
      rw [hnew] at he
      have := hold ([At.n w.heap.size] ++ l) j' b' hg'
      omega
    · intro he
      rw [hnew] at he
      have := hold ([At.n w.heap.size] ++ l) j b hg
      omega
    · exact h.inj _ j j' b b' hg hg'
  · intro l j b hg
    rw [List.append_assoc]
    rcases hget hg with ⟨rfl, _⟩ | ⟨_, hg⟩
    · rw [hnew]; exact .inl h.fr.size
    · exact h.own _ j b hg
  · intro l j t' cs' hg
    rw [List.append_assoc]
    rcases hget hg with ⟨rfl, hb⟩ | ⟨_, hg⟩
    · injection hb with hb1 hb2; subst hb1; subst hb2
      rw [hcs]; exact h1
    · exact h.one _ j t' cs' hg
  · exact h.fr.step ((Below.refl _ _).alloc (Nat.le_refl _) _)
  · intro l
    rw [List.append_assoc]
    exact (h.frame _).step ((Below.refl _ _).alloc (Nat.le_refl _) _)
  · intro l j hj
    rw [List.append_assoc]
    unfold memN at hj
    split at hj
    · rename_i hj'; subst hj'; rw [hnew]; exact (h.frame []).size
    · exact h.fresh _ j hj
  · intro m D hl
    have g := h.lim m D hl
    refine ⟨fun x => by rw [List.append_assoc]; exact g.cst _, fun k hk1 hk2 => (Below.heap_alloc _ _ _ (Nat.lt_of_lt_of_le hk1 g.size)).trans (g.keep k hk1 hk2), fun l j b hg hj => ?_, fun l j b hg hj => ?_, fun l j b hg hj => ?_,
      Nat.lt_succ_of_lt g.mlt, by have := g.size; simp; omega, g.dlt⟩
    · rw [List.append_assoc]
      rcases hget hg with ⟨rfl, _⟩ | ⟨_, hg⟩
      · have := g.mlt; omega
      · exact g.lo _ j b hg hj
    · rw [List.append_assoc]
      rcases hget hg with ⟨rfl, _⟩ | ⟨_, hg⟩
      · rw [hnew]; exact g.size
      · exact g.hi _ j b hg hj
    · rw [List.append_assoc]
      rcases hget hg with ⟨rfl, _⟩ | ⟨_, hg⟩
      · rw [hnew]; exact fun hm => by have := g.dlt _ hm; have := g.size; omega
      · exact g.out _ j b hg hj

/-! ### Stores into known blocks -/
theorem hpGet_set : ∀ (h : List (Nat × TypeId × List SC)) (j i : Nat) (cs : List SC), hpGet (hpSet h j cs) i = if i = j then (hpGet h j).map (fun b => (b.1, cs)) else hpGet h i
  | [], j, i, cs => by simp [hpSet, hpGet]
  | (k, t, c) :: r, j, i, cs => by
    have ih := hpGet_set r j i cs
    by_cases hkj : k = j
    · subst hkj
      by_cases hik : i = k
      · subst hik; simp [hpSet, hpGet]
      · simp [hpSet, hpGet, Ne.symm hik, hik]
    · by_cases hij : i = j
      · subst hij
        simpa [hpSet, hkj, hpGet] using ih
      · simp only [hpSet, if_neg hkj, hpGet, if_neg hij] at ih ⊢
        by_cases hki : k = i
        · simp [hki]
        · simp only [if_neg hki]; exact ih

theorem putL_den (e : Env) : ∀ (l : List SC) (o : Nat) (m : List SC), o + m.length ≤ l.length → cellsDen e (putL l o m) = (cellsDen e l).take o ++ cellsDen e m ++ (cellsDen e l).drop (o + m.length)
  | l, 0, m, _ => by simp [putL, cells_eq]
  | [], o + 1, m, h => by simp only [List.length_nil] at h; omega
  | x :: l, o + 1, m, h => by
    have := putL_den e l o m (by simp only [List.length_cons] at h; omega)
    simp only [putL, cellsDen, List.take_succ_cons, List.cons_append, this]
    rw [show o + 1 + m.length = (o + m.length) + 1 by omega, List.drop_succ_cons]

theorem HOk.store (h : HOk c L e s a wb w) {j : Nat} {t : TypeId} {cs0 cs : List SC} {vs : List Value} (hg : hpGet s.hp j = some (t, cs0)) (hcs : ∀ l, cellsDen (e ++ l) cs = vs) (h1 : ∀ u ∈ vs, u.oneCell' = true)
    (hl : ∀ m D, s.lim = some (m, D) → m < j ∨ memN D j = true) :
    HOk c L e { s with hp := hpSet s.hp j cs, wr := if memN s.fresh j || memN s.wr j then s.wr else j :: s.wr, clean := false } a wb (w.setRow (e.N j) vs.toArray) := by
  have hget : ∀ {i b}, hpGet (hpSet s.hp j cs) i = some b → (i = j ∧ b = (t, cs)) ∨ (i ≠ j ∧ hpGet s.hp i = some b) := fun {i b} hg' => by
    rw [hpGet_set] at hg'
    split at hg'
    · rename_i hij
      rw [hg] at hg'
      simp only [Option.map_some, Option.some.injEq] at hg'
      exact .inl ⟨hij, hg'.symm⟩
    · rename_i hij; exact .inr ⟨hij, hg'⟩
  have hold : ∀ {i b}, hpGet (hpSet s.hp j cs) i = some b → ∃ b', hpGet s.hp i = some b' := fun {i b} hg' => by
    rcases hget hg' with ⟨rfl, _⟩ | ⟨_, h'⟩
    · exact ⟨_, hg⟩
    · exact ⟨_, h'⟩
  have hown := h.own [] j _ hg
  have hblk := h.hp [] j t cs0 hg
  rw [List.append_nil] at hown hblk
  have far : ∀ k, k ≠ e.N j → (w.setRow (e.N j) vs.toArray).heap[k]? = w.heap[k]? := fun k hk => setRow_other w _ k _ hk
  refine ⟨h.env, ?_, h.lv, h.defers, h.size, h.tm, ?_, ?_, ?_, ?_, ?_, ?_, h.fresh, fun h => (by cases h), h.known, ?_⟩
  · intro i b hg'
    obtain ⟨b', hb⟩ := hold hg'
    exact h.scope i b' hb
  · intro l i t' cs' hg'
    rcases hget hg' with ⟨rfl, hb⟩ | ⟨hne, h'⟩
    · injection hb with hb1 hb2; subst hb1; subst hb2
      rw [h.N l hg, hcs]
      exact setRow_heap w _ _ _ _ _ hblk
    · rw [far _ (fun he => hne (h.inj l i j _ _ h' hg (by rw [he, h.N l hg])))]
      exact h.hp l i t' cs' h'
  · intro l i i' b b' hg1 hg2
    obtain ⟨b1, hb1⟩ := hold hg1
    obtain ⟨b2, hb2⟩ := hold hg2
    exact h.inj l i i' b1 b2 hb1 hb2
  · intro l i b hg'
    obtain ⟨b', hb⟩ := hold hg'
    exact h.own l i b' hb
  · intro l i t' cs' hg'
    rcases hget hg' with ⟨rfl, hb⟩ | ⟨hne, h'⟩
    · injection hb with hb1 hb2; subst hb1; subst hb2
      rw [hcs]; exact h1
    · exact h.one l i t' cs' h'
  · refine ⟨h.fr.os, h.fr.tape, h.fr.output, by simpa using h.fr.size, fun k hk hn => ?_⟩
    rw [far k (fun he => ?_)]
    · exact h.fr.block k hk hn
    · subst he
      rcases hown with ho | ho
      · omega
      · exact hn ho
  · intro l
    have hf := h.frame l
    refine ⟨hf.os, hf.tape, hf.output, by simpa using hf.size, fun k hk hn => ?_⟩
    simp only at hn
    by_cases hm : (memN s.fresh j || memN s.wr j) = true
    · rw [if_pos hm] at hn
      rw [far k (fun he => ?_)]
      · exact hf.block k hk hn
      · subst he
        rw [Bool.or_eq_true] at hm
        rcases hm with hm | hm
        · have := h.fresh [] j hm
          rw [List.append_nil] at this
          omega
        · refine hn ?_
          rw [ns_eq, ← h.N l hg]
          exact List.mem_map_of_mem ((memN_iff _ _).1 hm)
    · rw [if_neg hm] at hn
      simp only [nsDen, List.mem_cons, not_or] at hn
      rw [far k (fun he => hn.1 (by rw [he, h.N l hg]))]
      exact hf.block k hk hn.2
  · intro m D hlm
    have g := h.lim m D hlm
    refine ⟨g.cst, fun k hk1 hk2 => ?_, fun l i b hg' => ?_, fun l i b hg' => ?_, fun l i b hg' => ?_, g.mlt, by simpa using g.size, g.dlt⟩
    · rw [far k (fun he => ?_)]
      · exact g.keep k hk1 hk2
      · subst he
        rcases hl m D hlm with hj | hj
        · have := g.hi [] j _ hg hj
          rw [List.append_nil] at this
          omega
        · refine hk2 ?_
          have := (g.cst []).2
          rw [List.append_nil] at this
          rw [← this, ns_eq]
          exact List.mem_append.2 (.inr (List.mem_map_of_mem ((memN_iff _ _).1 hj)))
    · obtain ⟨b', hb⟩ := hold hg'; exact g.lo l i b' hb
    · obtain ⟨b', hb⟩ := hold hg'; exact g.hi l i b' hb
    · obtain ⟨b', hb⟩ := hold hg'; exact g.out l i b' hb
end
end Go.Sx
