/- A region whose order is left open: what only looks is taken first, what turns memory comes in its row; the last of it need not keep what the others looked at. -/
import Derived.Test.YtfjenamomipmdaaDoorBase
set_option linter.unusedSimpArgs false
set_option linter.unusedVariables false
namespace Go.Trc
open Go Go.RowKit

section
variable {P : Program} {ops : Array Oper} {Q : Exit → Act → World → Prop} {md : Region.Mode} {S : World → Prop} {fin : List Nat}

/-- None of 'fin' has come up. -/
def noFin (fin : List Nat) (listed : Array Bool) : Bool := fin.all fun j => !listed.getD j true

theorem noFin_of_set {i : Nat} {listed : Array Bool} (h : noFin fin (listed.setIfInBounds i true) = true) : noFin fin listed = true := by
  refine List.all_eq_true.2 fun j hj => ?_
  have h1 := List.all_eq_true.1 h j hj
  by_cases hij : i = j
  · subst hij
    rcases Nat.lt_or_ge i listed.size with h' | h'
    · simp [h'] at h1
    · simp [Array.getElem?_eq_none h'] at h1
  · rw [getD_set_ne true hij] at h1; exact h1

theorem noFin_set {i : Nat} {listed : Array Bool} (hi : i ∉ fin) (h : noFin fin listed = true) : noFin fin (listed.setIfInBounds i true) = true := by
  refine List.all_eq_true.2 fun j hj => ?_
  rw [getD_set_ne true (fun e : i = j => hi (by subst e; exact hj))]
  exact List.all_eq_true.1 h j hj

/-- Every order from here on; S holds till one of 'fin' comes up. -/
def wpF (P : Program) (md : Region.Mode) (ops : Array Oper) (Q : Exit → Act → World → Prop) (S : World → Prop) (fin : List Nat) : Nat → Array Bool → Act → World → Prop
  | 0, listed, a, w => Region.ready md ops listed = [] ∧ Q .normal a w
  | k + 1, listed, a, w => (Region.ready md ops listed = [] → Q .normal a w) ∧
      ∀ i ∈ Region.ready md ops listed, wpOp P ops Q i (fun a' w' => (noFin fin (listed.setIfInBounds i true) = true → S w') ∧ wpF P md ops Q S fin k (listed.setIfInBounds i true) a' w') a w

theorem wpF_any : ∀ (k : Nat) (listed : Array Bool) (a : Act) (w : World), wpF P md ops Q S fin k listed a w → wpAny P md ops Q k listed a w
  | 0, _, _, _, h => h
  | k + 1, _, _, _, h => ⟨h.1, fun i hi => wpOp_mono (fun a' w' g => wpF_any k _ a' w' g.2) (h.2 i hi)⟩

/-- Those that wait for operation i, it among them. -/
def depC (md : Region.Mode) (ops : Array Oper) (i : Nat) : List Nat :=
  (List.range ops.size).foldl (fun C j => if j == i || (match ops[j]? with | some o => o.after.any fun e => Region.binds md e && C.contains e.on | none => false) then j :: C else C) []
/-- Each of C but i waits for one of C; none has come up. -/
def chainOk (md : Region.Mode) (ops : Array Oper) (i : Nat) (C : List Nat) (listed : Array Bool) : Bool :=
  C.all fun c => (!listed.getD c false) && (c == i || match ops[c]? with
    | some o => o.after.any fun e => Region.binds md e && C.contains e.on
    | none => false)
/-- Each of 'fin' waits for operation i. -/
def finWait (md : Region.Mode) (ops : Array Oper) (fin : List Nat) (listed : Array Bool) (i : Nat) : Bool :=
  (fin.all fun j => j != i && (depC md ops i).contains j) && chainOk md ops i (depC md ops i) listed

theorem chainOk_spec {i : Nat} {C : List Nat} {listed : Array Bool} (h : chainOk md ops i C listed = true) {c : Nat} (hc : c ∈ C) :
    listed.getD c false = false ∧ (c ≠ i → ∀ o, ops[c]? = some o → ∃ e ∈ o.after, Region.binds md e = true ∧ e.on ∈ C) := by
  have := List.all_eq_true.1 h c hc
  simp only [Bool.and_eq_true, Bool.not_eq_true', Bool.or_eq_true, beq_iff_eq] at this
  refine ⟨this.1, fun hci o ho => ?_⟩
  rcases this.2 with h2 | h2
  · exact absurd h2 hci
  · simp only [ho] at h2
    obtain ⟨e, he, hb⟩ := Array.any_eq_true'.1 h2
    simp only [Bool.and_eq_true, List.contains_iff_mem] at hb
    exact ⟨e, he, hb.1, hb.2⟩

theorem not_listed {i : Nat} {listed : Array Bool} (h : listed.getD i true = false) : listed.getD i false = false := by
  rcases Nat.lt_or_ge i listed.size with h' | h'
  · simp [h'] at h ⊢; exact h
  · simp [Array.getElem?_eq_none h'] at h

theorem ready_no {i j : Nat} {listed : Array Bool} {oj : Oper} (hr : i ∈ Region.ready md ops listed) (hall : ∀ e ∈ oj.after, Region.binds md e = true → listed.getD e.on false = true) :
    ∀ e ∈ oj.after, Region.binds md e = true → e.on ≠ i := fun e he hb heq => by
  have h1 := hall e he hb
  rw [heq, not_listed (mem_ready.1 hr).1] at h1
  cases h1

theorem wpF_first {i : Nat} {oi : Oper} {v : Value} (hi : ops[i]? = some oi) (hsel : ∀ (j : Nat) (o : Oper) cs b, ops[j]? = some o → o.op ≠ .select cs b)
    (hQ : ∀ c a w, Q (.panic c) (a.put oi.dst v) w → Q (.panic c) a w) (C : List Nat) (hfC : ∀ j ∈ fin, j ≠ i ∧ j ∈ C) (hCe : ∀ c ∈ C, c ≠ i → ∀ o, ops[c]? = some o → ∃ e ∈ o.after, Region.binds md e = true ∧ e.on ∈ C) :
    ∀ (k : Nat) (listed : Array Bool) (a : Act) (w : World), (∀ c ∈ C, listed.getD c false = false) →
      (∀ j oj, ops[j]? = some oj → j ≠ i → listed.getD j true = false → (∀ e ∈ oj.after, Region.binds md e = true → e.on ≠ i) → oi.apart ops oj = true) →
      i ∈ Region.ready md ops listed → YieldsIf P ops S oi v a → S w → noFin fin listed = true →
      wpF P md ops Q S fin k (listed.setIfInBounds i true) (a.put oi.dst v) w → wpF P md ops Q S fin (k + 1) listed a w := by
  intro k
  induction k with
  | zero =>
    intro listed a w _ _ hr hy hS _ H
    refine ⟨fun h => (by rw [h] at hr; cases hr), fun j hj => ?_⟩
    by_cases hji : j = i
    · subst hji; exact hy.wpOp hi hS ⟨fun _ => hS, H⟩
    · have h0 := ready_mono hj hji
      rw [H.1] at h0
      cases h0
  | succ k ih =>
    intro listed a w hun hfree hr hy hS hnf H
    refine ⟨fun h => (by rw [h] at hr; cases hr), fun j hj => ?_⟩
    by_cases hji : j = i
    · subst hji; exact hy.wpOp hi hS ⟨fun _ => hS, H⟩
    · obtain ⟨hju, oj, hoj, hall⟩ := mem_ready.1 hj
      have hno := ready_no (j := j) hr hall
      have hjC : j ∉ C := fun hjC => by
        obtain ⟨e, he, hb, heC⟩ := hCe j hjC hji oj hoj
        have h1 := hall e he hb
        rw [hun _ heC] at h1
        cases h1
      have hjf : j ∉ fin := fun hjf => hjC (hfC j hjf).2
      have h2 := wpOp_putIf hoj (hfree j oj hoj hji hju hno) (fun cs b => hsel i oi cs b hi) (fun cs b => hsel j oj cs b hoj) hQ hy (H.2 j (ready_mono hj hji))
      have hnf' := noFin_set hjf hnf
      refine wpOp_mono (fun a' w' g => ?_) h2
      have hS' : S w' := g.2.1 (by
        rw [Array.setIfInBounds_comm _ _ (Ne.symm hji)]
        exact noFin_set (fun hif => (hfC i hif).1 rfl) hnf')
      refine ⟨fun _ => hS', ih _ a' w' (fun c hc => by rw [getD_set_ne false (fun e : j = c => hjC (e ▸ hc))]; exact hun c hc) (fun m om hm hmi hmu hmo => hfree m om hm hmi ?_ hmo) (ready_mono hr (Ne.symm hji)) g.1 hS' hnf' ?_⟩
      · by_cases hjm : j = m
        · subst hjm; exact hju
        · rw [getD_set_ne true hjm] at hmu; exact hmu
      · rw [Array.setIfInBounds_comm _ _ hji]
        exact g.2.2

theorem wpF_first0 {i : Nat} {oi : Oper} {v : Value} (hi : ops[i]? = some oi) (hsel : ∀ (j : Nat) (o : Oper) cs b, ops[j]? = some o → o.op ≠ .select cs b)
    (hQ : ∀ c a w, Q (.panic c) (a.put oi.dst v) w → Q (.panic c) a w) (hif : i ∉ fin) :
    ∀ (k : Nat) (listed : Array Bool) (a : Act) (w : World),
      (∀ j oj, ops[j]? = some oj → j ≠ i → listed.getD j true = false → (∀ e ∈ oj.after, Region.binds md e = true → e.on ≠ i) → oi.apart ops oj = true) →
      i ∈ Region.ready md ops listed → Yields P ops oi v a → (noFin fin listed = true → S w) →
      wpF P md ops Q S fin k (listed.setIfInBounds i true) (a.put oi.dst v) w → wpF P md ops Q S fin (k + 1) listed a w := by
  intro k
  induction k with
  | zero =>
    intro listed a w _ hr hy hS H
    refine ⟨fun h => (by rw [h] at hr; cases hr), fun j hj => ?_⟩
    by_cases hji : j = i
    · subst hji; exact hy.wpOp hi ⟨fun h => hS (noFin_of_set h), H⟩
    · have h0 := ready_mono hj hji
      rw [H.1] at h0
      cases h0
  | succ k ih =>
    intro listed a w hfree hr hy hS H
    refine ⟨fun h => (by rw [h] at hr; cases hr), fun j hj => ?_⟩
    by_cases hji : j = i
    · subst hji; exact hy.wpOp hi ⟨fun h => hS (noFin_of_set h), H⟩
    · obtain ⟨hju, oj, hoj, hall⟩ := mem_ready.1 hj
      have hno := ready_no (j := j) hr hall
      have h2 := wpOp_put hoj (hfree j oj hoj hji hju hno) (fun cs b => hsel i oi cs b hi) (fun cs b => hsel j oj cs b hoj) hQ hy (H.2 j (ready_mono hj hji))
      refine wpOp_mono (fun a' w' g => ?_) h2
      have hS' : noFin fin (listed.setIfInBounds j true) = true → S w' := fun h => g.2.1 (by
        rw [Array.setIfInBounds_comm _ _ (Ne.symm hji)]
        exact noFin_set hif h)
      refine ⟨hS', ih _ a' w' (fun m om hm hmi hmu hmo => hfree m om hm hmi ?_ hmo) (ready_mono hr (Ne.symm hji)) g.1 hS' ?_⟩
      · by_cases hjm : j = m
        · subst hjm; exact hju
        · rw [getD_set_ne true hjm] at hmu; exact hmu
      · rw [Array.setIfInBounds_comm _ _ hji]
        exact g.2.2

/-- Take number i first: what it yields is the same wherever S holds. -/
theorem wpF_take (i : Nat) {oi : Oper} {k : Nat} {listed : Array Bool} {a : Act} {w : World} (hi : ops[i]? = some oi)
    (hs : Region.noSelect ops = true) (hf : Region.free md ops listed i = true) (hr : (Region.ready md ops listed).contains i = true) (hfin : finWait md ops fin listed i = true) (hnf : noFin fin listed = true)
    (hQ : ∀ c a w, ¬ Q (.panic c) a w) (hS : S w) (hw : Region.wanted oi (yielded ops a.tmps) = true)
    (h : ∃ v, (∀ w, S w → (execOp a.eval oi).run P w = .ok (.value v) w) ∧ wpF P md ops Q S fin k (listed.setIfInBounds i true) (a.put oi.dst v) w) : wpF P md ops Q S fin (k + 1) listed a w := by
  obtain ⟨v, hy, h⟩ := h
  unfold finWait at hfin
  simp only [Bool.and_eq_true] at hfin
  refine wpF_first hi (Region.noSelect_spec hs) (fun c a w g => (hQ _ _ _ g).elim) (depC md ops i) (fun j hj => ?_) (fun c hc => (chainOk_spec hfin.2 hc).2) k listed a w (fun c hc => (chainOk_spec hfin.2 hc).1) (Region.free_spec hi hf) (by simpa using hr) (.inl ⟨hw, hy⟩) hS hnf h
  have := List.all_eq_true.1 hfin.1 j hj
  simp only [Bool.and_eq_true, bne_iff_ne, ne_eq, List.contains_iff_mem] at this
  exact this

/-- .. in whatever world. -/
theorem wpF_take0 (i : Nat) {oi : Oper} {k : Nat} {listed : Array Bool} {a : Act} {w : World} (hi : ops[i]? = some oi)
    (hs : Region.noSelect ops = true) (hf : Region.free md ops listed i = true) (hr : (Region.ready md ops listed).contains i = true) (hif : fin.contains i = false)
    (hQ : ∀ c a w, ¬ Q (.panic c) a w) (hS : noFin fin listed = false ∨ S w) (hw : Region.wanted oi (yielded ops a.tmps) = true)
    (h : ∃ v, (∀ w, (execOp a.eval oi).run P w = .ok (.value v) w) ∧ wpF P md ops Q S fin k (listed.setIfInBounds i true) (a.put oi.dst v) w) : wpF P md ops Q S fin (k + 1) listed a w := by
  obtain ⟨v, hy, h⟩ := h
  exact wpF_first0 hi (Region.noSelect_spec hs) (fun c a w g => (hQ _ _ _ g).elim) (by simpa using hif) k listed a w (Region.free_spec hi hf) (by simpa using hr) (.inl ⟨hw, hy⟩) (fun h => hS.resolve_left (by rw [h]; decide)) h

/-- A guarded one that is passed over. -/
theorem wpF_skip (i : Nat) {oi : Oper} {k : Nat} {listed : Array Bool} {a : Act} {w : World} (hi : ops[i]? = some oi)
    (hs : Region.noSelect ops = true) (hf : Region.free md ops listed i = true) (hr : (Region.ready md ops listed).contains i = true) (hif : fin.contains i = false)
    (hQ : ∀ c a w, ¬ Q (.panic c) a w) (hS : noFin fin listed = false ∨ S w) (hw : Region.wanted oi (yielded ops a.tmps) = false)
    (h : wpF P md ops Q S fin k (listed.setIfInBounds i true) (a.put oi.dst undef) w) : wpF P md ops Q S fin (k + 1) listed a w :=
  wpF_first0 hi (Region.noSelect_spec hs) (fun c a w g => (hQ _ _ _ g).elim) (by simpa using hif) k listed a w (Region.free_spec hi hf) (by simpa using hr) (.inr ⟨hw, rfl⟩) (fun h => hS.resolve_left (by rw [h]; decide)) h

/-- The one that may come up is carried out; S holds behind it. -/
theorem wpF_do (i : Nat) {oi : Oper} {k : Nat} {listed : Array Bool} {a : Act} {w : World} (hr : Region.ready md ops listed = [i]) (hi : ops[i]? = some oi)
    (hw : Region.wanted oi (yielded ops a.tmps) = true)
    (h : ∀ K : Act → World → Prop, Hid (∀ a' w', S w' → (S w' → wpF P md ops Q S fin k (listed.setIfInBounds i true) a' w') → K a' w') → oi.wp P a w K Q) :
    wpF P md ops Q S fin (k + 1) listed a w := by
  refine ⟨fun h0 => (by rw [h0] at hr; cases hr), fun j hj => ?_⟩
  rw [hr] at hj
  obtain rfl : j = i := by simpa using hj
  unfold wpOp
  simp only [hi, hw, if_true]
  exact .inl (h _ fun a' w' h1 h2 => ⟨fun _ => h1, h2 h1⟩)

/-- .. one of the last, or behind one of these. -/
theorem wpF_fin (i : Nat) {oi : Oper} {k : Nat} {listed : Array Bool} {a : Act} {w : World} (hr : Region.ready md ops listed = [i]) (hi : ops[i]? = some oi) (hnf : noFin fin (listed.setIfInBounds i true) = false)
    (hw : Region.wanted oi (yielded ops a.tmps) = true)
    (h : ∀ K : Act → World → Prop, Hid (∀ a' w', wpF P md ops Q S fin k (listed.setIfInBounds i true) a' w' → K a' w') → oi.wp P a w K Q) :
    wpF P md ops Q S fin (k + 1) listed a w := by
  refine ⟨fun h0 => (by rw [h0] at hr; cases hr), fun j hj => ?_⟩
  rw [hr] at hj
  obtain rfl : j = i := by simpa using hj
  unfold wpOp
  simp only [hi, hw, if_true]
  exact .inl (h _ fun a' w' h2 => ⟨fun h => (by rw [hnf] at h; cases h), h2⟩)

/-- Two that may come up. -/
theorem wpF_do2 (i j : Nat) {oi oj : Oper} {k : Nat} {listed : Array Bool} {a : Act} {w : World} (hr : Region.ready md ops listed = [i, j]) (hi : ops[i]? = some oi) (hj : ops[j]? = some oj)
    (hwi : Region.wanted oi (yielded ops a.tmps) = true) (hwj : Region.wanted oj (yielded ops a.tmps) = true)
    (h1 : ∀ K : Act → World → Prop, Hid (∀ a' w', S w' → (S w' → wpF P md ops Q S fin k (listed.setIfInBounds i true) a' w') → K a' w') → oi.wp P a w K Q)
    (h2 : ∀ K : Act → World → Prop, Hid (∀ a' w', S w' → (S w' → wpF P md ops Q S fin k (listed.setIfInBounds j true) a' w') → K a' w') → oj.wp P a w K Q) :
    wpF P md ops Q S fin (k + 1) listed a w := by
  refine ⟨fun h0 => (by rw [h0] at hr; cases hr), fun m hm => ?_⟩
  rw [hr] at hm
  rcases List.mem_cons.1 hm with rfl | hm
  · unfold wpOp
    simp only [hi, hwi, if_true]
    exact .inl (h1 _ fun a' w' g1 g2 => ⟨fun _ => g1, g2 g1⟩)
  · obtain rfl : m = j := by simpa using hm
    unfold wpOp
    simp only [hj, hwj, if_true]
    exact .inl (h2 _ fun a' w' g1 g2 => ⟨fun _ => g1, g2 g1⟩)

theorem wpF_done {k : Nat} {listed : Array Bool} {a : Act} {w : World} (hr : Region.ready md ops listed = []) (h : Q .normal a w) : wpF P md ops Q S fin k listed a w := by
  cases k with
  | zero => exact ⟨hr, h⟩
  | succ k => exact ⟨fun _ => h, by rw [hr]; simp⟩

theorem wp_regionF {id : Nat} {a : Act} {w : World} (S : World → Prop) (fin : List Nat) (hm : P.follows .mixedOrders = true)
    (h : wpF P .any ops (NoPanic Q) S fin ops.size (Array.replicate ops.size false) a w.drew) : (Code.region id ops true).wp P Q a w :=
  wp_region_noPanic (wp_region_any hm (wpF_any _ _ _ _ h))

theorem no_panic {Q : Exit → Act → World → Prop} (c : List PanicEntry) (a : Act) (w : World) : ¬ NoPanic Q (.panic c) a w := fun h => h

/-- An operation that comes to a value. -/
theorem wp_run {o : Oper} {a : Act} {K : Act → World → Prop} {w w' : World} {v : Value} (hr : (execOp a.eval o).run P w = .ok (.value v) w') (h : K (a.put o.dst v) w') : o.wp P a w K Q := by
  unfold Oper.wp
  rw [hr]
  exact h

/-- A conversion. -/
theorem exec_convert {o : Oper} {a : Act} {w w' : World} {v u : Value} (src dst : TypeId) (x : Operand) (ho : o.op = .convert src dst x) (hx : a.eval x = v) (hr : (convert src dst v).run P w = .ok u w') :
    (execOp a.eval o).run P w = .ok (.value u) w' := by
  unfold execOp
  simp only [ho, hx, Sem.run_bind, Sem.run_pure, Result.andThen_ok, hr]

/-- 'append(s, xs...)' where s is full. -/
theorem wp_append_full {α : Type} [Rep α] {w : World} {o : Oper} {a : Act} {K : Act → World → Prop}
    (s x : Operand) (t e : TypeId) (ho : o.op = .call { callee := .builtin .append, args := #[s, x], argTypes := #[t, t] }) (z : Value) (bytes : Nat)
    (ht : P.underlying t = some (.slice e)) (hinfo : (P.info? e).map (fun i => (i.zero, i.size, i.bytes)) = some (some z, Rep.sz α, bytes)) (hzs : z.cells.size = Rep.sz α)
    {ok1 ok2 : Nat → Prop} (ok' : Nat → Prop) {A : Option Addr} {v2 : Value} {n : Nat} {xs ys : List α} (hs : a.eval s = .slice A n n) (hx : a.eval x = v2)
    (h1 : Sl w ok1 (.slice A n n) xs) (h2 : Arg w ok2 v2 ys) (hne : xs = [] ∨ 0 < ys.length)
    (hok : ok' w.heap.size) (hm1 : ∀ (x : α) cs, Rep.K w ok1 x cs → Rep.K w ok' x cs) (hm2 : ∀ (x : α) cs, Rep.K w ok2 x cs → Rep.K w ok' x cs)
    (hbytes : (xs.length + ys.length) * bytes ≤ 140737488355328) (hlen : xs.length + ys.length ≤ 9223372036854775807) (N : Nat) (hN : xs.length + ys.length = N)
    (h : ∀ A' c' w', Sl w' ok' (.slice A' N c') (xs ++ ys) → Below w.heap.size w w' → (0 < ys.length → (Value.slice A' N c').ownBlock = some w.heap.size ∧ w'.heap.size = w.heap.size + 1) → K (a.put o.dst (.slice A' N c')) w') :
    o.wp P a w K Q := by
  obtain ⟨i, hi, hz, hsz, hby⟩ := info_parts hinfo
  have hn : n = xs.length := by obtain ⟨A', c', he, _⟩ := h1; injection he
  subst hn
  obtain ⟨v', w', hr, g1, g2, g3⟩ := append_full (α := α) t o.type e i z bytes ht hi hz hsz hby hzs h1 h2 hne hok hm1 hm2 hbytes hlen
  obtain ⟨A', c', rfl, _⟩ := id g1
  rw [List.length_append, hN] at g1 hr g3
  exact wp_run (exec_append s x t ho hs hx hr) (h A' c' w' g1 g2 g3)
end
end Go.Trc
