/- Sw: the tree says what the code does (calls, each operation, regions). -/
import Derived.Test.YtfjenamomipmdaaDoorSz
set_option linter.unusedSimpArgs false
set_option linter.unusedVariables false
namespace Go.Sx
open Go Go.RowKit Go.Trc
variable {c : Cx} {L : List LC} {e : Env} {s : St} {a : Act} {wb w : World} {o : Oper} {ws : List FuncId} {k : St → Tree}

theorem without_mem : ∀ (l m : List Nat) (j : Nat), j ∈ without l m ↔ j ∈ l ∧ memN m j = false
  | [], m, j => by simp [without]
  | i :: l, m, j => by
    unfold without
    split
    · rename_i hi
      rw [without_mem l m j]
      constructor
      · rintro ⟨h1, h2⟩; exact ⟨List.mem_cons_of_mem _ h1, h2⟩
      · rintro ⟨h1, h2⟩
        rcases List.mem_cons.1 h1 with rfl | h1
        · rw [hi] at h2; cases h2
        · exact ⟨h1, h2⟩
    · rename_i hi
      simp only [List.mem_cons, without_mem l m j]
      constructor
      · rintro (rfl | ⟨h1, h2⟩)
        · exact ⟨.inl rfl, by simpa using hi⟩
        · exact ⟨.inr h1, h2⟩
      · rintro ⟨rfl | h1, h2⟩
        · exact .inl rfl
        · exact .inr ⟨h1, h2⟩

theorem havoc_spec {P : Program} {m : List Nat} : ∀ {h : List (Nat × TypeId × List SC)} {n : Nat} {hv : List (Nat × TypeId × List SC)} {hk : List K} {H : List (Nat × TypeId × List SC)}, havoc P m h n = some (hv, hk, H) →
    ∀ j t cs, hpGet H j = some (t, cs) → (memN m j = false ∧ hpGet h j = some (t, cs)) ∨ (memN m j = true ∧ (j, t, cs) ∈ hv ∧ ∃ cs0, hpGet h j = some (t, cs0))
  | [], n, hv, hk, H, hh, j, t, cs, hg => by
    simp only [havoc, Option.some.injEq, Prod.mk.injEq] at hh
    obtain ⟨rfl, rfl, rfl⟩ := hh
    cases hg
  | (i, ti, ci) :: h, n, hv, hk, H, hh, j, t, cs, hg => by
    unfold havoc at hh
    split at hh
    · rename_i hmi
      split at hh
      · rename_i cc ks hcc
        split at hh
        · split at hh
          · rename_i a' k' h' hr
            simp only [Option.some.injEq, Prod.mk.injEq] at hh
            obtain ⟨rfl, rfl, rfl⟩ := hh
            unfold hpGet at hg ⊢
            split at hg
            · rename_i hij
              subst hij
              simp only [Option.some.injEq, Prod.mk.injEq] at hg
              obtain ⟨rfl, rfl⟩ := hg
              exact .inr ⟨hmi, by simp, ci, by simp⟩
            · rename_i hij
              rw [if_neg hij]
              rcases havoc_spec hr j t cs hg with h1 | ⟨h1, h2, h3⟩
              · exact .inl h1
              · exact .inr ⟨h1, List.mem_cons_of_mem _ h2, h3⟩
          · cases hh
        · cases hh
      · cases hh
    · rename_i hmi
      split at hh
      · rename_i a' k' h' hr
        simp only [Option.some.injEq, Prod.mk.injEq] at hh
        obtain ⟨rfl, rfl, rfl⟩ := hh
        unfold hpGet at hg ⊢
        split at hg
        · rename_i hij
          subst hij
          simp only [Option.some.injEq, Prod.mk.injEq] at hg
          obtain ⟨rfl, rfl⟩ := hg
          exact .inl ⟨by simpa using hmi, by simp⟩
        · rename_i hij
          rw [if_neg hij]
          exact havoc_spec hr j t cs hg
      · cases hh

theorem holds_spec (e : Env) (w : World) (Q : Prop) : ∀ {l : List (Nat × TypeId × List SC)}, holds e w l Q → Q ∧ ∀ j t cs, (j, t, cs) ∈ l → w.heap[e.N j]? = some (.cells (cellsDen e cs).toArray t (0, 0))
  | [], h => ⟨h, by simp⟩
  | (j, t, cs) :: l, h => by
    obtain ⟨h1, h2⟩ := holds_spec e w Q h.2
    refine ⟨h1, fun j' t' cs' hm => ?_⟩
    rcases List.mem_cons.1 hm with hm | hm
    · simp only [Prod.mk.injEq] at hm
      obtain ⟨rfl, rfl, rfl⟩ := hm
      exact h.1
    · exact h2 j' t' cs' hm

theorem noVal_one (e : Env) : ∀ {l : List SC}, noVal l = true → ∀ u ∈ cellsDen e l, u.oneCell' = true
  | [], _, u, hu => by simp [cellsDen] at hu
  | x :: l, h, u, hu => by
    have key : noVal l = true ∧ (x.den e).oneCell' = true := by
      cases x with
      | val j => cases h
      | undef => cases h
      | _ => exact ⟨h, rfl⟩
    simp only [cellsDen, List.mem_cons] at hu
    rcases hu with rfl | hu
    · exact key.2
    · exact noVal_one e key.1 u hu
theorem okB_mem {m : Nat} : ∀ {l : List (Nat × TypeId × List SC)}, okB m l = true → ∀ j t cs, (j, t, cs) ∈ l → okL m cs = true
  | [], _, _, _, _, hm => by simp at hm
  | b :: l, h, j, t, cs, hm => by
    simp only [okB, Bool.and_eq_true] at h
    rcases List.mem_cons.1 hm with hm | hm
    · subst hm; exact h.1
    · exact okB_mem h.2 j t cs hm

theorem owes_spec {lim : Option (Nat × List Nat)} {w w' : World} {Q : Prop} (h : owes e lim w w' Q) : (∀ m D, lim = some (m, D) → Keep (e.N m) (e.L m ++ nsDen e D) w w') ∧ Q := by
  unfold owes at h
  split at h
  · exact ⟨fun m D hm => (by cases hm), h⟩
  · exact ⟨fun m' D' hm => (by injection hm with hm; injection hm with hm1 hm2; subst hm1; subst hm2; exact h.1), h.2⟩

theorem call_end {hv : List (Nat × TypeId × List SC)} {v : SV} {ks hk : List K} {m : List Nat} {H : List (Nat × TypeId × List SC)} (h : HOk c L e s a wb w)
    (hok : okV (s.n + ks.length) v = true) (hokB : okB (s.n + ks.length + hk.length) hv = true) (hH : havoc c.P m s.hp (s.n + ks.length) = some (hv, hk, H)) {w' : World} {l : Env} (hl : l.length = (ks ++ hk).length)
    (hfr : Fr c.S c.w0 w') (hm : Mild (nsDen e (without (hpNames s.hp) m)) w w') (hK : ∀ m D, s.lim = some (m, D) → Keep (e.N m) (e.L m ++ nsDen e D) w w')
    (hh : ∀ j t cs, (j, t, cs) ∈ hv → w'.heap[Env.N (e ++ l) j]? = some (.cells (cellsDen (e ++ l) cs).toArray t (0, 0)))
    (hone : ∀ j t cs, (j, t, cs) ∈ hv → ∀ x ∈ cs, (x.den (e ++ l)).oneCell' = true) (dst : Option Nat) :
    HOk c L (e ++ l) ({ s.told (ks.length + hk.length) with hp := H }.put dst (some v)) (a.put dst (v.den (e ++ l))) w' w' := by
  have hl' : l.length = ks.length + hk.length := by rw [hl, List.length_append]
  have hle : s.n + ks.length ≤ (e ++ l).length := by rw [List.length_append, h.env, hl']; omega
  have hle2 : s.n + ks.length + hk.length ≤ (e ++ l).length := by rw [List.length_append, h.env, hl']; omega
  have h2 := h.told' (l := l) H hfr hm.1 (fun j t cs hg => by
    rcases havoc_spec hH j t cs hg with ⟨h1, h2⟩ | ⟨h1, h2, cs0, h3⟩
    · refine ⟨⟨_, h2⟩, fun x => ?_, fun x => h.one (l ++ x) j t cs h2⟩
      have := h.hp (l ++ x) j t cs h2
      rw [h.N _ h2] at this
      rw [hm.2 _ (by rw [ns_eq]; exact List.mem_map_of_mem ((without_mem _ _ _).2 ⟨hpGet_names h2, h1⟩)) (Array.getElem?_eq_some_iff.1 this).1, this]
    · have hst : ∀ x, cellsDen (e ++ (l ++ x)) cs = cellsDen (e ++ l) cs := fun x => by rw [← List.append_assoc]; exact okL_den x hle2 (okB_mem hokB j t cs h2)
      have g1 := hh j t cs h2
      rw [h.N l h3] at g1
      exact ⟨⟨_, h3⟩, fun x => by rw [hst x]; exact g1, fun x u hu => by
      rw [hst x] at hu
      obtain ⟨y, hy, rfl⟩ := mem_cellsDen hu
      exact hone j t cs h2 y hy⟩) hK
  rw [hl'] at h2
  exact h2.put dst (fun x => (okV_den x hle hok).symm)

theorem onesB_spec {P : Program} {S : Nat → Prop} {w0 : World} {R : Ending → World → Prop} {t : Tree} {L : List LC} {e : Env} {wb : World} : ∀ {l : List (Nat × TypeId × List SC)}, sat P S w0 R (onesB l t) L e wb →
    sat P S w0 R t L e wb ∧ ∀ j t cs, (j, t, cs) ∈ l → ∀ x ∈ cs, (x.den e).oneCell' = true
  | [], h => ⟨h, by simp⟩
  | b :: l, h => by
    obtain ⟨h1, h2⟩ := oneCells_spec h
    obtain ⟨h3, h4⟩ := onesB_spec h1
    refine ⟨h3, fun j t cs hm => ?_⟩
    rcases List.mem_cons.1 hm with rfl | hm
    · exact h2
    · exact h4 j t cs hm

theorem callee_run {P : Program} {f : FuncId} (h : calleeOk P f = true) (xs : Array Value) (w : World) : (callFunc f xs).run P w = .ok (.enter f xs) w := by
  unfold calleeOk at h
  split at h
  · rename_i fn hf
    simp only [Bool.and_eq_true, Bool.not_eq_true'] at h
    simp only [callFunc, Sem.run_bind, program, Sem.run, Result.andThen_ok, hf, h.1, h.2, Bool.false_eq_true, if_false, Sem.run_pure]
  · cases h

/-- Behind a call that returns. -/
theorem call_sound {t : TypeId} {m q : List Nat} {mk : Dl → List Nat → List (Nat × TypeId × List SC) → SV → List K → Tree → Tree} (h : HOk c L e s a wb w)
    (hs : c.sat (call1 c.P mk q m t o.dst s k) L e wb)
    (hmk : ∀ kp hv v ks t, c.sat (mk (s.dl q) kp hv v ks t) L e wb → ∃ f as, (execOp a.eval o).run c.P w = .ok (.enter f as) w ∧
      Calls c.P f as w fun r w' => exs ks fun l => r = .returned (v.den (e ++ l)) ∧ (Fr c.S c.w0 w' ∧ Mild (nsDen e kp) w w') ∧ owes e s.lim w w' (holds (e ++ l) w' hv (c.sat t L (e ++ l) w')))
    {Q : Exit → Act → World → Prop} {K : Act → World → Prop} (hK : Doing c L e s k K) : o.wp c.P a w K Q := by
  unfold call1 at hs
  split at hs
  · rename_i v ks hf
    split at hs
    · rename_i hv hk H hH
      split at hs
      · rename_i hok
        simp only [Bool.and_eq_true] at hok
        obtain ⟨f, as, hr, hC⟩ := hmk _ _ _ _ _ hs
        unfold Oper.wp
        rw [hr]
        refine Calls.mono hC fun r w' hx => ?_
        obtain ⟨l, hl, rfl, ⟨hfr, hm⟩, hx⟩ := exs_spec hx
        obtain ⟨h3, hx⟩ := owes_spec hx
        obtain ⟨hx, hh⟩ := holds_spec _ _ _ hx
        obtain ⟨hx, h1⟩ := onesB_spec hx
        exact hK l _ _ w' w' (call_end h hok.1 hok.2 hH hl hfr hm h3 hh h1 o.dst) (put_lim _ _ _) hx
      · exact hs.elim
    · exact hs.elim
  · exact hs.elim

theorem evs_arr (h : HOk c L e s a wb w) {xs : Array Operand} {vs : List SV} (hx : s.evs xs.toList = some vs) : xs.map a.eval = (svsDen e vs).toArray := by
  have := h.evs hx []
  rw [List.append_nil] at this
  apply Array.ext'
  simpa using this

theorem callOp_sound (cl : Call) (ho : o.op = .call cl) (h : HOk c L e s a wb w) (hp : pureOp s o = false) (hk : lookOp c.P s o = false) (hs : c.sat (symOp c.P ws o s k) L e wb) {Q : Exit → Act → World → Prop} {K : Act → World → Prop} (hK : Doing c L e s k K) :
    o.wp c.P a w K Q := by
  unfold symOp at hs
  rw [ho] at hs
  simp only at hs
  split at hs
  · rename_i xs hxs
    have hargs := evs_arr h hxs
    split at hs
    · rename_i b hb
      have hbi : ∀ {b : Builtin} {r : RE}, cl.callee = .builtin b → r.den e = builtinSem b cl.argTypes o.type (svsDen e xs).toArray → (∀ cs xs, builtin b cl.argTypes o.type cs xs = (do pure (.value (← builtinSem b cl.argTypes o.type xs)))) →
          ∀ w' v, (r.den e).run c.P w = .ok v w' → (execOp a.eval o).run c.P w = .ok (.value v) w' := fun {b r} hb hr hsem w' v hrun => by
        unfold execOp; rw [ho]
        simp only [resolve, hb, Sem.run_bind, Sem.run_pure, Result.andThen_ok, invoke, hargs]
        rw [hsem]
        rw [hr] at hrun
        simp only [Sem.run_bind, Sem.run_pure, hrun, Result.andThen_ok]
      split at hs
      · unfold pureOp at hp; rw [ho] at hp; simp only [hb] at hp; cases hp
      · unfold pureOp at hp; rw [ho] at hp; simp only [hb] at hp; cases hp
      · unfold lookOp at hk; rw [ho] at hk; simp only [hb] at hk; cases hk
      · unfold lookOp at hk; rw [ho] at hk; simp only [hb] at hk; cases hk
      · unfold lookOp at hk; rw [ho] at hk; simp only [hb] at hk; cases hk
      · exact leave_sound h hs (hbi hb rfl fun _ _ => rfl) hK
      · exact leave_sound h hs (hbi hb rfl fun _ _ => rfl) hK
      · exact hs.elim
    · rename_i f hf
      have hres : (execOp a.eval o) = (do callFunc f (svsDen e xs).toArray) := by
        unfold execOp; rw [ho]
        simp only [resolve, hf, hargs]
        show (Deferred.ofValue (.func (.func f) #[] #[]) (svsDen e xs).toArray >>= fun d => invoke d.target d.args) = _
        show invoke (.fn (.func f) #[]) (#[] ++ (svsDen e xs).toArray) = _
        simp only [invoke, Array.empty_append, Array.append_empty]
      split at hs
      · rename_i hcal
        refine call_sound h hs (fun kp hv v ks t hsat => ?_) hK
        refine ⟨f, (svsDen e xs).toArray, by rw [hres]; exact callee_run hcal _ _, ?_⟩
        exact h.world hsat
      · split at hs
        · refine leave_sound h hs (fun w' v hr => ?_) hK
          rw [hres]
          simp only [RE.den, extSem, Sem.run_bind] at hr
          cases hcf : (callFunc f (svsDen e xs).toArray).run c.P w with
          | halt x w2 => rw [hcf] at hr; cases hr
          | ok x w2 =>
            rw [hcf] at hr
            cases x <;> simp [Result.andThen, stuck, Sem.run] at hr
            obtain ⟨rfl, rfl⟩ := hr
            rfl
        · exact hs.elim
    · rename_i g hne hg
      split at hs
      · rename_i gv hgv
        refine call_sound h hs (fun kp hv v ks t hsat => ?_) hK
        obtain ⟨f, as, hr, hC⟩ := h.world hsat
        refine ⟨f, as, ?_, hC⟩
        unfold execOp; rw [ho]
        simp only [resolve, hg, hargs, h.ev0 hgv]
        cases hd : (Deferred.ofValue (gv.den e) (svsDen e xs).toArray).run c.P w with
        | halt x w2 => simp only [Sem.run_bind, hd, Result.andThen] at hr; cases hr
        | ok d w2 =>
          simp only [Sem.run_bind, hd, Result.andThen] at hr ⊢
          have hw2 : w2 = w := by
            cases hgg : gv.den e <;> simp [hgg, Deferred.ofValue, stuck, Sem.run] at hd <;> exact hd.2.symm
          subst hw2
          rw [hd] at hr
          exact hr
      · exact hs.elim
    · exact hs.elim
  · exact hs.elim

/-! ### Each operation -/
theorem pure_sound (h : HOk c L e s a wb w) (hp : pureOp s o = true) (hs : c.sat (symOp c.P ws o s k) L e wb) (G : World → Prop) : Still c L e s a wb w o k G := by
  cases ho : o.op
  case move x => exact move_sound x (.inl ho) h hs G
  case assign x => exact move_sound x (.inr ho) h hs G
  case pick x y z => exact pick_sound x y z ho h hs G
  case build t parts => exact build_sound t parts ho h hs G
  case unOp op t x => exact unOp_sound op t x ho h hs G
  case extract x i => exact extract_sound x i ho h hs G
  case field t x f => exact field_sound t x f ho h hs G
  case nilCheck x => exact nilCheck_sound x ho h hs G
  case convert src dst x => exact convert_int_sound src dst x ho h hp hs G
  case binOp op t x y t' => exact binOp_sound op t t' x y ho h hs (.inl hp)
  case fieldAddr t x f => exact fieldAddr_sound t x f ho h hs (.inl hp)
  case indexAddr t x i => exact indexAddr_sound t x i ho h hs (.inl hp)
  case call cl =>
    unfold pureOp at hp
    rw [ho] at hp
    simp only at hp
    split at hp
    · rename_i hb; exact len_sound cl ho hb h hs G
    · cases hp
  all_goals (unfold pureOp at hp; rw [ho] at hp; cases hp)

theorem look_sound (h : HOk c L e s a wb w) (hp : lookOp c.P s o = true) (hs : c.sat (symOp c.P ws o s k) L e wb)
    {G : World → Prop} (hG : ∀ w', G w' → (s.lim = none → w' = w) ∧ ∀ m D, s.lim = some (m, D) → Keep c.N c.D c.we w') : Still c L e s a wb w o k G := by
  cases ho : o.op
  case load t x => exact load_sound t x ho h hs hG
  case fieldAddr t x f => exact fieldAddr_sound t x f ho h hs (.inr hG)
  case indexAddr t x i => exact indexAddr_sound t x i ho h hs (.inr hG)
  case binOp op t x y t' => exact binOp_sound op t t' x y ho h hs (.inr hG)
  case index t x i =>
    unfold symOp at hs
    rw [ho] at hs
    simp only at hs
    split at hs
    · rename_i u v hx hi
      refine looked_sound rfl h hs (fun w' v' hr => ?_) hG
      unfold execOp; rw [ho]; simp only [h.ev0 hx, h.ev0 hi, Sem.run_bind, Sem.run_pure, Result.andThen_ok]
      simp only [RE.den] at hr
      simp only [hr, Result.andThen_ok]
    · exact hs.elim
  case slice t x lo hi mx =>
    unfold symOp at hs
    rw [ho] at hs
    simp only at hs
    have hopt : ∀ {q : Option Operand} {r : Option SV}, (match q with | some x => (s.ev x).map some | none => some none) = some r → q.map a.eval = r.map (SV.den e) := fun {q r} hq => by
      cases q with
      | none => simp only [Option.some.injEq] at hq; subst hq; rfl
      | some x =>
        obtain ⟨v, hv, rfl⟩ := Option.map_eq_some_iff.1 hq
        simp only [Option.map_some, h.ev0 hv]
    split at hs
    · rename_i u l1 l2 l3 hx h1 h2 h3
      refine looked_sound rfl h hs (fun w' v' hr => ?_) hG
      unfold execOp; rw [ho]
      simp only [h.ev0 hx, hopt h1, hopt h2, hopt h3, Sem.run_bind, Sem.run_pure, Result.andThen_ok]
      simp only [RE.den] at hr
      simp only [hr, Result.andThen_ok]
    · exact hs.elim
  case convert src dst x =>
    unfold lookOp at hp
    rw [ho] at hp
    simp only at hp
    unfold symOp at hs
    rw [ho] at hs
    simp only at hs
    split at hs
    · split at hs
      · rename_i h1 h2
        unfold lookConv at hp
        rw [h1, h2] at hp
        cases hp
      · exact hs.elim
    · rename_i v _ hx
      rw [if_pos hp] at hs
      exact looked_sound rfl h hs (fun w' v' hr => exec_of (f := Go.convert src dst) (h.ev0 hx) (by unfold execOp; rw [ho]) hr) hG
    · exact hs.elim
  case call cl =>
    unfold lookOp at hp
    rw [ho] at hp
    simp only at hp
    unfold symOp at hs
    rw [ho] at hs
    simp only at hs
    split at hs
    · rename_i xs hxs
      have hargs := evs_arr h hxs
      have hbi : ∀ {b : Builtin} {r : RE}, cl.callee = .builtin b → r.den e = builtinSem b cl.argTypes o.type (svsDen e xs).toArray → (∀ cs xs, builtin b cl.argTypes o.type cs xs = (do pure (.value (← builtinSem b cl.argTypes o.type xs)))) →
          ∀ w' v, (r.den e).run c.P w' = .ok v w' → (execOp a.eval o).run c.P w' = .ok (.value v) w' := fun {b r} hb hr hsem w' v hrun => by
        unfold execOp; rw [ho]
        simp only [resolve, hb, Sem.run_bind, Sem.run_pure, Result.andThen_ok, invoke, hargs]
        rw [hsem]
        rw [hr] at hrun
        simp only [Sem.run_bind, Sem.run_pure, hrun, Result.andThen_ok]
      split at hp
      · rename_i hb
        simp only [hb] at hs
        exact looked_sound rfl h hs (hbi hb rfl fun _ _ => rfl) hG
      · rename_i hb
        simp only [hb] at hs
        exact looked_sound rfl h hs (hbi hb rfl fun _ _ => rfl) hG
      · rename_i hb
        simp only [hb] at hs
        exact looked_sound rfl h hs (hbi hb rfl fun _ _ => rfl) hG
      · cases hp
    · exact hs.elim
  all_goals (unfold lookOp at hp; rw [ho] at hp; cases hp)

theorem op_sound (h : HOk c L e s a wb w) (hs : c.sat (symOp c.P ws o s k) L e wb) {Q : Exit → Act → World → Prop} {K : Act → World → Prop} (hK : Doing c L e s k K) : o.wp c.P a w K Q := by
  have hG : ∀ w', w' = w → (s.lim = none → w' = w) ∧ ∀ m D, s.lim = some (m, D) → Keep c.N c.D c.we w' := fun w' hw => ⟨fun _ => hw, fun m D hl => by rw [hw]; exact (h.lim m D hl).keep⟩
  cases hp : pureOp s o with
  | true => exact doing_still (pure_sound h hp hs (fun w' => w' = w)) rfl hK
  | false =>
    cases hk : lookOp c.P s o with
    | true => exact doing_still (look_sound h hk hs hG) rfl hK
    | false =>
      cases ho : o.op
      case alloc t => exact alloc_sound t ho h hs hK
      case box t x => exact box_sound t x ho h hs hK
      case buildSlice t len parts => exact buildSlice_sound t len parts ho h hs hK
      case store t p x => exact store_sound t p x ho h hs hK
      case call cl => exact callOp_sound cl ho h hp hk hs hK
      case convert src dst x =>
        unfold lookOp at hk
        rw [ho] at hk
        simp only at hk
        unfold symOp at hs
        rw [ho] at hs
        simp only at hs
        split at hs
        · rename_i hx
          unfold pureOp at hp
          rw [ho] at hp
          simp only [hx] at hp
          cases hp
        · rename_i v _ hx
          rw [if_neg (by rw [hk]; decide)] at hs
          split at hs
          · refine leaveD_sound h hs (fun w' v' hr => ?_) hK
            unfold execOp; rw [ho]; simp only [h.ev0 hx, Sem.run_bind, Sem.run_pure]
            simp only [RE.den] at hr
            simp only [hr, Result.andThen_ok]
          refine leave_sound h hs (fun w' v' hr => ?_) hK
          unfold execOp; rw [ho]; simp only [h.ev0 hx, Sem.run_bind, Sem.run_pure]
          simp only [RE.den] at hr
          simp only [hr, Result.andThen_ok]
        · exact hs.elim
      case makeSlice t l cp =>
        unfold symOp at hs
        rw [ho] at hs
        simp only at hs
        split at hs
        · rename_i u v hx hi
          refine leave_sound h hs (fun w' v' hr => ?_) hK
          unfold execOp; rw [ho]; simp only [h.ev0 hx, h.ev0 hi, Sem.run_bind, Sem.run_pure]
          simp only [RE.den] at hr
          simp only [hr, Result.andThen_ok]
        · exact hs.elim
      case makeFunc fn first captured =>
        unfold symOp at hs
        rw [ho] at hs
        simp only at hs
        split at hs
        · rename_i u v hx hi
          refine doing_still (looked_sound rfl h hs (fun w' v' hr => ?_) hG) rfl hK
          unfold execOp; rw [ho]; simp only [evs_arr h hx, evs_arr h hi, Sem.run_bind, Sem.run_pure]
          simp only [RE.den] at hr
          simp only [hr, Result.andThen_ok]
        · exact hs.elim
      case range t x =>
        unfold symOp at hs
        rw [ho] at hs
        simp only at hs
        split at hs
        · rename_i u hx
          refine leave_sound h hs (fun w' v' hr => ?_) hK
          unfold execOp; rw [ho]; simp only [h.ev0 hx, Sem.run_bind, Sem.run_pure]
          simp only [RE.den] at hr
          simp only [hr, Result.andThen_ok]
        · exact hs.elim
      case next x str =>
        unfold symOp at hs
        rw [ho] at hs
        simp only at hs
        split at hs
        · rename_i u hx
          refine leave_sound h hs (fun w' v' hr => ?_) hK
          unfold execOp; rw [ho]; simp only [h.ev0 hx, Sem.run_bind, Sem.run_pure]
          simp only [RE.den] at hr
          simp only [hr, Result.andThen_ok]
        · exact hs.elim
      all_goals first
        | (unfold pureOp at hp; rw [ho] at hp; cases hp; done)
        | (unfold lookOp at hk; rw [ho] at hk; cases hk; done)
        | (unfold symOp at hs; rw [ho] at hs; exact hs.elim)
end Go.Sx
