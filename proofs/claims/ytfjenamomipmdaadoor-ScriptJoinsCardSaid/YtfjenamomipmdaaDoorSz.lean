/- Sz: the tree says what the code does (each operation). -/
import Derived.Test.YtfjenamomipmdaaDoorSy
set_option linter.unusedSimpArgs false
set_option linter.unusedVariables false
namespace Go.Sx
open Go Go.RowKit Go.Trc
variable {c : Cx} {L : List LC} {e : Env} {s : St} {a : Act} {wb w : World} {o : Oper} {ws : List FuncId} {k : St → Tree}

/-- What is left behind an operation that comes to a value and turns nothing. -/
def Still (c : Cx) (L : List LC) (e : Env) (s : St) (a : Act) (wb w : World) (o : Oper) (k : St → Tree) (G : World → Prop) : Prop :=
  ∃ ext s' v wb', (∀ w', G w' → (execOp a.eval o).run c.P w' = .ok (.value v) w') ∧ HOk c L (e ++ ext) s' (a.put o.dst v) wb' w ∧ s'.lim = s.lim ∧ c.sat (k s') L (e ++ ext) wb'

theorem still_mk (h : HOk c L e s a wb w) {G : World → Prop} {v : SV} {x : Value} (hv : ∀ l, x = v.den (e ++ l)) (hr : ∀ w', G w' → (execOp a.eval o).run c.P w' = .ok (.value x) w')
    (hs : c.sat (k (s.put o.dst (some v))) L e wb) : Still c L e s a wb w o k G :=
  ⟨[], _, x, wb, hr, by rw [List.append_nil]; exact h.put o.dst hv, by unfold St.put; cases o.dst <;> rfl, by rw [List.append_nil]; exact hs⟩

theorem look_go : ∀ {l : List (BE × Bool)} {b : BE} {v : Bool}, St.look.go b l = some v → (b, v) ∈ l
  | [], _, _, h => by cases h
  | (d, u) :: l, b, v, h => by
    unfold St.look.go at h
    split at h
    · rename_i hd; injection h with h; subst h; subst hd; simp
    · exact List.mem_cons_of_mem _ (look_go h)

theorem clash_go {x : IE} {n : Int} : ∀ {l : List (BE × Bool)}, clash x n l = true → ∃ m : Int, (BE.eq x (.lit m), true) ∈ l ∧ m ≠ n
  | [], h => by cases h
  | (b, v) :: l, h => by
    unfold clash at h
    split at h
    · cases ‹_ :: _ = []›
    · rename_i y m l' he
      injection he with he1 he2
      injection he1 with e1 e2
      subst e1; subst e2; subst he2
      split at h
      · rename_i hc
        obtain ⟨rfl, hm⟩ := hc
        exact ⟨m, by simp, hm⟩
      · obtain ⟨m', h1, h2⟩ := clash_go h
        exact ⟨m', List.mem_cons_of_mem _ h1, h2⟩
    · rename_i p l' _ he
      injection he with he1 he2
      subst he2
      obtain ⟨m', h1, h2⟩ := clash_go h
      exact ⟨m', List.mem_cons_of_mem _ h1, h2⟩
theorem look2_go {s : St} {b : BE} {v : Bool} (h : s.look2 b = some v) : ∃ (x : IE) (m : Int), (BE.eq x (.lit m), true) ∈ s.known ∧ ∀ e, (BE.eq x (.lit m)).den e = true → b.den e = v := by
  unfold St.look2 at h
  split at h
  · rename_i x n
    split at h
    · rename_i hc
      injection h with h
      subst h
      obtain ⟨m, h1, h2⟩ := clash_go hc
      refine ⟨x, m, h1, fun e he => ?_⟩
      simp only [BE.den, IE.den, beq_iff_eq] at he ⊢
      rw [he]
      simpa using h2
    · cases h
  · rename_i x n
    split at h
    · rename_i hc
      injection h with h
      subst h
      obtain ⟨m, h1, h2⟩ := clash_go hc
      refine ⟨x, m, h1, fun e he => ?_⟩
      simp only [BE.den, IE.den, beq_iff_eq] at he ⊢
      rw [he]
      simpa using h2
    · cases h
  · cases h
theorem split_sound (h : HOk c L e s a wb w) {b : BE} {v : Bool} {k : Bool → St → Tree} (hb : ∀ l, b.den (e ++ l) = v) (hs : c.sat (split b s k) L e wb) :
    ∃ kn, HOk c L e { s with known := kn } a wb w ∧ c.sat (k v { s with known := kn }) L e wb := by
  have hself : { s with known := s.known } = s := rfl
  unfold split at hs
  split at hs
  · have := hb []
    simp only [BE.den] at this
    subst this
    exact ⟨s.known, h, hs⟩
  · split at hs
    · rename_i u hu
      have h1 := h.known [] _ _ (look_go hu)
      have h2 := hb []
      rw [h2] at h1
      subst h1
      exact ⟨s.known, h, hs⟩
    · split at hs
      · rename_i u hu
        have h1 := h.known [] _ _ (look_go hu)
        have h2 := hb []
        rw [BE.neg_den, h2] at h1
        subst h1
        rw [Bool.not_not] at hs
        exact ⟨s.known, h, hs⟩
      split at hs
      · rename_i u hu
        obtain ⟨x, m, h1, h2⟩ := look2_go hu
        have h3 := h2 _ (h.known [] _ _ h1)
        rw [hb] at h3
        subst h3
        exact ⟨s.known, h, hs⟩
      · have h2 := hb []
        rw [List.append_nil] at h2
        cases v with
        | true => exact ⟨_, h.know hb, hs.1 ((BE.T_iff e b).1.2 h2)⟩
        | false => exact ⟨_, h.know hb, hs.2 ((BE.T_iff e b).2.2 h2)⟩

theorem bool_den {x : BE} {y : Value} (h : ∀ l, y = SC.den (e ++ l) (.bool x)) : ∃ v, y = .bool v ∧ ∀ l, x.den (e ++ l) = v := by
  refine ⟨x.den e, by have := h []; rw [List.append_nil] at this; exact this, fun l => ?_⟩
  have h1 := h l
  have h2 := h []
  rw [List.append_nil] at h2
  rw [h2] at h1
  simp only [SC.den, Value.bool.injEq] at h1
  exact h1.symm
theorem int_den {kd : IntKind} {x : IE} {y : Value} (h : ∀ l, y = SC.den (e ++ l) (.int kd x)) : ∃ v, y = .int kd v ∧ ∀ l, x.den (e ++ l) = v := by
  refine ⟨x.den e, by have := h []; rw [List.append_nil] at this; exact this, fun l => ?_⟩
  have h1 := h l
  have h2 := h []
  rw [List.append_nil] at h2
  rw [h2] at h1
  simp only [SC.den, Value.int.injEq, true_and] at h1
  exact h1.symm
theorem str_den {x : SE} {y : Value} (h : ∀ l, y = SC.den (e ++ l) (.str x)) : ∃ v, y = .string v ∧ ∀ l, x.den (e ++ l) = v := by
  refine ⟨x.den e, by have := h []; rw [List.append_nil] at this; exact this, fun l => ?_⟩
  have h1 := h l
  have h2 := h []
  rw [List.append_nil] at h2
  rw [h2] at h1
  simp only [SC.den, Value.string.injEq] at h1
  exact h1.symm
theorem agg_den {x : List SC} {y : Value} (h : ∀ l, y = SV.den (e ++ l) (.agg x)) : ∃ v, y = .agg v.toArray ∧ ∀ l, cellsDen (e ++ l) x = v := by
  refine ⟨cellsDen e x, by have := h []; rw [List.append_nil] at this; exact this, fun l => ?_⟩
  have h1 := h l
  have h2 := h []
  rw [List.append_nil] at h2
  rw [h2] at h1
  simp only [SV.den, Value.agg.injEq] at h1
  exact (congrArg Array.toList h1.symm : _)

theorem move_sound (x : Operand) (ho : o.op = .move x ∨ o.op = .assign x) (h : HOk c L e s a wb w) (hs : c.sat (symOp c.P ws o s k) L e wb) (G : World → Prop) : Still c L e s a wb w o k G := by
  have hs' : c.sat (match s.ev x with | some v => k (s.put o.dst (some v)) | none => .bad 10) L e wb := by
    unfold symOp at hs
    rcases ho with ho | ho <;> rw [ho] at hs <;> exact hs
  split at hs'
  · rename_i v hv
    refine still_mk h (fun l => h.ev hv l) (fun w' _ => ?_) hs'
    rcases ho with ho | ho <;> (unfold execOp; rw [ho]; rfl)
  · exact hs'.elim

theorem pick_sound (x y z : Operand) (ho : o.op = .pick x y z) (h : HOk c L e s a wb w) (hs : c.sat (symOp c.P ws o s k) L e wb) (G : World → Prop) : Still c L e s a wb w o k G := by
  unfold symOp at hs
  rw [ho] at hs
  simp only at hs
  split at hs
  · rename_i b hb
    obtain ⟨v, hv, hbv⟩ := bool_den (fun l => h.ev hb l)
    obtain ⟨kn, h', hs'⟩ := split_sound h hbv hs
    have he : St.ev { s with known := kn } = St.ev s := by funext q; cases q <;> rfl
    rw [he] at hs'
    split at hs'
    · rename_i u hu
      obtain ⟨ext, s', v', wb', r1, r2, r3, r4⟩ := still_mk (k := k) (o := o) (G := G) h' (fun l => h.ev hu l) (fun w' _ => by
        unfold execOp; rw [ho]; simp only [hv, asBool, Sem.run_bind, Sem.run_pure, Result.andThen_ok]; cases v <;> rfl) hs'
      exact ⟨ext, s', v', wb', r1, r2, r3, r4⟩
    · exact hs'.elim
  · exact hs.elim

theorem eqGuard_int (P : Program) (op : BinOp) (t : TypeId) (x y : Operand) (k k' : IntKind) (m n : Int) (w : World) : (eqGuard op t x y (.int k m) (.int k' n)).run P w = .ok () w := by
  cases op <;> rfl
theorem eqGuard_str (P : Program) (op : BinOp) (t : TypeId) (x y : Operand) (m n : ByteArray) (w : World) : (eqGuard op t x y (.string m) (.string n)).run P w = .ok () w := by
  cases op <;> rfl
theorem eqGuard_ptr (P : Program) (op : BinOp) (t : TypeId) (x y : Operand) (m n : Option Addr) (w : World) : (eqGuard op t x y (.pointer m) (.pointer n)).run P w = .ok () w := by
  cases op <;> rfl

theorem exec_bin {x y : Operand} {op : BinOp} {t t' : TypeId} (ho : o.op = .binOp op t x y t') {u v r : Value} (hx : a.eval x = u) (hy : a.eval y = v) {P : Program} {w w' : World}
    (hg : (eqGuard op t x y u v).run P w = .ok () w) (hr : (binOp op t u v).run P w = .ok r w') : (execOp a.eval o).run P w = .ok (.value r) w' := by
  unfold execOp; rw [ho]; simp only [hx, hy, Sem.run_bind, Sem.run_pure, hg, Result.andThen_ok, hr]

theorem arith_sound {op : BinOp} {kd : IntKind} {x y : IE} {m n : Int} (t : TypeId) (k1 : SV → St → Tree) (hx : ∀ l, x.den (e ++ l) = m) (hy : ∀ l, y.den (e ++ l) = n) (hs : c.sat (arithOf op kd x y s k1) L e wb) :
    ∃ v r, (∀ l, r = SV.den (e ++ l) v) ∧ (∀ w, (binOp op t (.int kd m) (.int kd n)).run c.P w = .ok r w) ∧ c.sat (k1 v s) L e wb := by
  have hx0 := hx []
  have hy0 := hy []
  rw [List.append_nil] at hx0 hy0
  unfold arithOf at hs
  cases op
  case add => exact ⟨_, .int kd (kd.wrap (m + n)), fun l => by simp only [SV.den, SC.den, IE.den, IE.wrap'_den, IE.add'_den, IE.sub'_den, IE.mul'_den, hx, hy], fun w => by simp [binOp, Op.intArith], hs⟩
  case sub => exact ⟨_, .int kd (kd.wrap (m - n)), fun l => by simp only [SV.den, SC.den, IE.den, IE.wrap'_den, IE.add'_den, IE.sub'_den, IE.mul'_den, hx, hy], fun w => by simp [binOp, Op.intArith], hs⟩
  case mul => exact ⟨_, .int kd (kd.wrap (m * n)), fun l => by simp only [SV.den, SC.den, IE.den, IE.wrap'_den, IE.add'_den, IE.sub'_den, IE.mul'_den, hx, hy], fun w => by simp [binOp, Op.intArith], hs⟩
  case quo =>
    have hn : ¬ n = 0 := by have := hs.1; simp only [BE.T, IE.den, hy0] at this; exact this
    exact ⟨_, .int kd (kd.wrap (m.tdiv n)), fun l => by simp only [SV.den, SC.den, IE.den, IE.wrap'_den, IE.add'_den, IE.sub'_den, IE.mul'_den, hx, hy], fun w => by simp [binOp, Op.intDiv, hn], hs.2⟩
  case rem =>
    have hn : ¬ n = 0 := by have := hs.1; simp only [BE.T, IE.den, hy0] at this; exact this
    exact ⟨_, .int kd (m.tmod n), fun l => by simp only [SV.den, SC.den, IE.den, IE.wrap'_den, IE.add'_den, IE.sub'_den, IE.mul'_den, hx, hy], fun w => by simp [binOp, Op.intDiv, hn], hs.2⟩
  case and => exact ⟨_, .int kd (Go.bits .and kd m n), fun l => by simp only [SV.den, SC.den, IE.den, IE.wrap'_den, IE.add'_den, IE.sub'_den, IE.mul'_den, hx, hy], fun w => by simp [binOp, Op.intBits, Go.bits], hs⟩
  case or => exact ⟨_, .int kd (Go.bits .or kd m n), fun l => by simp only [SV.den, SC.den, IE.den, IE.wrap'_den, IE.add'_den, IE.sub'_den, IE.mul'_den, hx, hy], fun w => by simp [binOp, Op.intBits, Go.bits], hs⟩
  case xor => exact ⟨_, .int kd (Go.bits .xor kd m n), fun l => by simp only [SV.den, SC.den, IE.den, IE.wrap'_den, IE.add'_den, IE.sub'_den, IE.mul'_den, hx, hy], fun w => by simp [binOp, Op.intBits, Go.bits], hs⟩
  case andNot => exact ⟨_, .int kd (Go.bits .andNot kd m n), fun l => by simp only [SV.den, SC.den, IE.den, IE.wrap'_den, IE.add'_den, IE.sub'_den, IE.mul'_den, hx, hy], fun w => by simp [binOp, Op.intBits, Go.bits], hs⟩
  case eql => exact ⟨_, .bool (m == n), fun l => by simp only [SV.den, SC.den, BE.den, BE.eq'_den, BE.lt'_den, BE.le'_den, hx, hy], fun w => by simp [binOp, Op.intCmp], hs⟩
  case neq => exact ⟨_, .bool (m != n), fun l => by simp only [SV.den, SC.den, BE.den, BE.ne'_den, BE.lt'_den, BE.le'_den, hx, hy], fun w => by simp [binOp, Op.intCmp], hs⟩
  case lss => exact ⟨_, .bool (decide (m < n)), fun l => by simp only [SV.den, SC.den, BE.den, BE.lt'_den, BE.le'_den, hx, hy], fun w => by simp [binOp, Op.intCmp], hs⟩
  case leq => exact ⟨_, .bool (decide (m ≤ n)), fun l => by simp only [SV.den, SC.den, BE.den, BE.lt'_den, BE.le'_den, hx, hy], fun w => by simp [binOp, Op.intCmp], hs⟩
  case gtr => exact ⟨_, .bool (decide (n < m)), fun l => by simp only [SV.den, SC.den, BE.den, BE.lt'_den, BE.le'_den, hx, hy], fun w => by simp [binOp, Op.intCmp], hs⟩
  case geq => exact ⟨_, .bool (decide (n ≤ m)), fun l => by simp only [SV.den, SC.den, BE.den, BE.lt'_den, BE.le'_den, hx, hy], fun w => by simp [binOp, Op.intCmp], hs⟩
  case shl => exact hs.elim
  case shr => exact hs.elim

theorem HOk.evc (h : HOk c L e s a wb w) {x : Operand} {v : SC} (hx : s.ev x = some (.one v)) (l : Env) : a.eval x = v.den (e ++ l) := h.ev hx l

/-- One that only looks, told by another. -/
theorem looked_sound {r : RE} {t : TypeId} {dst : Option Nat} (hd : o.dst = dst) (h : HOk c L e s a wb w) (hs : c.sat (looked c.P r t dst s k) L e wb)
    (hex : ∀ w' v, (r.den e).run c.P w' = .ok v w' → (execOp a.eval o).run c.P w' = .ok (.value v) w')
    {G : World → Prop} (hG : ∀ w', G w' → (s.lim = none → w' = w) ∧ ∀ m D, s.lim = some (m, D) → Keep c.N c.D c.we w') : Still c L e s a wb w o k G := by
  unfold looked at hs
  split at hs
  · rename_i v ks hf
    split at hs
    · rename_i hok
      have hw := h.world (q := leadsV r.vals) hs
      obtain ⟨l, hl, h1, h2⟩ := exs_spec hw
      have hle : s.n + ks.length ≤ (e ++ l).length := by rw [List.length_append, h.env, hl]; exact Nat.le_refl _
      refine ⟨l, _, v.den (e ++ l), w, fun w' hw' => hex w' _ ?_, (h.here l).put o.dst (fun m => (okV_den m hle hok).symm), ?_, ?_⟩
      · unfold looks at h1
        split at h1
        · rename_i hlim
          rw [(hG w' hw').1 hlim]
          exact h1
        · rename_i m D hlim
          have g := h.lim m D hlim
          have g0 := g.cst []
          rw [List.append_nil] at g0
          refine h1 w' ?_
          rw [g0.1, g0.2]
          exact fun k hk1 hk2 => ((hG w' hw').2 m D hlim k hk1 hk2).trans (g.keep k hk1 hk2).symm
      · unfold St.put; cases o.dst <;> rfl
      · rw [hl, hd]; exact h2
    · exact hs.elim
  · exact hs.elim

theorem exec_of {f : Value → Sem Value} {x : Operand} {u : Value} (hx : a.eval x = u) {P : Program} (he : execOp a.eval o = (do pure (.value (← f (a.eval x))))) {w w' : World} {v : Value} (hr : (f u).run P w = .ok v w') :
    (execOp a.eval o).run P w = .ok (.value v) w' := by
  rw [he, hx]; simp only [Sem.run_bind, Sem.run_pure, hr, Result.andThen_ok]

theorem unOp_sound (op : UnOp) (t : TypeId) (x : Operand) (ho : o.op = .unOp op t x) (h : HOk c L e s a wb w) (hs : c.sat (symOp c.P ws o s k) L e wb) (G : World → Prop) : Still c L e s a wb w o k G := by
  unfold symOp at hs
  rw [ho] at hs
  simp only at hs
  split at hs
  · rename_i b hb
    obtain ⟨v, hv, hbv⟩ := bool_den (fun l => h.ev hb l)
    exact still_mk h (x := .bool (!v)) (fun l => by simp only [SV.den, SC.den, BE.neg_den, hbv]) (fun w' _ => exec_of (f := Op.unary .not) hv (by unfold execOp; rw [ho]) (by simp [Op.unary])) hs
  · rename_i kx b hb
    obtain ⟨v, hv, hbv⟩ := int_den (fun l => h.ev hb l)
    exact still_mk h (x := .int kx (kx.wrap (0 - v))) (fun l => by simp only [SV.den, SC.den, IE.den, hbv]) (fun w' _ => exec_of (f := Op.unary .neg) hv (by unfold execOp; rw [ho]) (by simp [Op.unary, Op.intArith])) hs
  · rename_i kx b hb
    obtain ⟨v, hv, hbv⟩ := int_den (fun l => h.ev hb l)
    exact still_mk h (x := .int kx (Go.bits .xor kx (if kx.signed then -1 else kx.max) v)) (fun l => by simp only [SV.den, SC.den, IE.den, hbv]) (fun w' _ => exec_of (f := Op.unary .xor) hv (by unfold execOp; rw [ho]) (by simp [Op.unary, Op.intBits, Go.bits])) hs
  · exact hs.elim

theorem extract_sound (x : Operand) (i : Nat) (ho : o.op = .extract x i) (h : HOk c L e s a wb w) (hs : c.sat (symOp c.P ws o s k) L e wb) (G : World → Prop) : Still c L e s a wb w o k G := by
  unfold symOp at hs
  rw [ho] at hs
  simp only at hs
  split at hs
  · rename_i l hl
    have hnth : ∀ (e : Env) (l : List (Bool × List SC)) (i : Nat), (compsDen e l)[i]? = (nth l i).map (compDen e) := by
      intro e l
      induction l with
      | nil => intro i; simp [compsDen, nth]
      | cons p l ih => intro i; cases i with
        | zero => simp [compsDen, nth]
        | succ i => simpa [compsDen, nth] using ih i
    have hex : ∀ (p : Bool × List SC), nth l i = some p → ∀ w', (execOp a.eval o).run c.P w' = .ok (.value (compDen e p)) w' := fun p hp w' =>
      exec_of (f := fun v => Instr.extract v i) (h.ev0 hl) (by unfold execOp; rw [ho]) (by
        simp only [Instr.extract, SV.den, List.getElem?_toArray, hnth, hp, Option.map_some, Sem.run_pure])
    have hcst : ∀ (p : Bool × List SC), nth l i = some p → ∀ m, compDen e p = compDen (e ++ m) p := fun p hp m => by
      have h1 := h.same hl m
      simp only [SV.den, Value.tuple.injEq] at h1
      have h2 := congrArg (fun x : Array Value => x.toList[i]?) h1
      simp only [hnth, hp, Option.map_some, Option.some.injEq] at h2
      exact h2.symm
    split at hs
    · rename_i cs hp
      exact still_mk h (fun m => by have := hcst _ hp m; simpa [compDen, SV.den] using this) (fun w' _ => hex _ hp w') hs
    · rename_i x' hp
      exact still_mk h (fun m => by have := hcst _ hp m; simpa [compDen, SV.den] using this) (fun w' _ => hex _ hp w') hs
    · exact hs.elim
  · exact hs.elim

theorem nilCheck_sound (x : Operand) (ho : o.op = .nilCheck x) (h : HOk c L e s a wb w) (hs : c.sat (symOp c.P ws o s k) L e wb) (G : World → Prop) : Still c L e s a wb w o k G := by
  unfold symOp at hs
  rw [ho] at hs
  simp only at hs
  have hex : ∀ (p : Addr), a.eval x = .pointer (some p) → ∀ w', (execOp a.eval o).run c.P w' = .ok (.value (.pointer (some p))) w' := fun p hp w' => by
    unfold execOp; rw [ho]; simp only [hp, Sem.run_pure]
  split at hs
  · rename_i j off hp
    have := h.ev0 hp
    exact still_mk h (x := .pointer (some ⟨e.N j, off, none⟩)) (fun l => by rw [← h.ev hp l]; exact this.symm) (fun w' _ => hex _ this w') hs
  · rename_i b o' y sz off hp
    have := h.ev0 hp
    exact still_mk h (x := .pointer (some ⟨e.N b, e.N o' + (y.den e).toNat * sz + off, none⟩)) (fun l => by rw [← h.ev hp l]; exact this.symm) (fun w' _ => hex _ this w') hs
  · rename_i j hp
    obtain ⟨b, o', hpp, hs⟩ := hs
    have hv : a.eval x = .pointer (some ⟨b, o', none⟩) := (h.ev0 hp).trans hpp
    have hlen : e.length = s.n := h.env
    have hb : ∀ l, Env.N (e ++ ([At.n b, At.n o'] ++ l)) s.n = b := fun l => by
      have := nth_app2 e ([At.n b, At.n o'] ++ l) 0
      rw [Nat.add_zero, hlen] at this
      unfold Env.N; rw [this]; rfl
    have ho' : ∀ l, Env.N (e ++ ([At.n b, At.n o'] ++ l)) (s.n + 1) = o' := fun l => by
      have := nth_app2 e ([At.n b, At.n o'] ++ l) 1
      rw [hlen] at this
      unfold Env.N; rw [this]; rfl
    refine ⟨[.n b, .n o'], _, .pointer (some ⟨b, o', none⟩), wb, fun w' _ => hex _ hv w', (h.ext [.n b, .n o']).put o.dst (v := .one (.eptr s.n (s.n + 1) (.lit 0) 0 0)) (fun l => ?_), ?_, hs⟩
    · simp only [SV.den, SC.den, IE.den, List.append_assoc, hb, ho', Nat.mul_zero, Nat.add_zero]
    · unfold St.put; cases o.dst <;> rfl
  · exact hs.elim

theorem convert_int_sound (src dst : TypeId) (x : Operand) (ho : o.op = .convert src dst x) (h : HOk c L e s a wb w) (hp : pureOp s o = true) (hs : c.sat (symOp c.P ws o s k) L e wb) (G : World → Prop) : Still c L e s a wb w o k G := by
  unfold pureOp at hp
  rw [ho] at hp
  simp only at hp
  split at hp
  · rename_i kx y hx
    unfold symOp at hs
    rw [ho] at hs
    simp only [hx] at hs
    obtain ⟨v, hv, hbv⟩ := int_den (fun l => h.ev hx l)
    split at hs
    · rename_i q kd hus hud
      exact still_mk h (x := .int kd (kd.wrap v)) (fun l => by simp only [SV.den, SC.den, IE.wrap'_den, hbv]) (fun w' _ => exec_of (f := Go.convert src dst) hv (by unfold execOp; rw [ho]) (by
        simp only [Go.convert, Sem.run_bind, run_underlying hus, run_underlying hud, Result.andThen_ok, Conv.intToInt, Sem.run_pure])) hs
    · exact hs.elim
  · cases hp

theorem run_typeInfo {P : Program} {t : TypeId} {i : TypeInfo} (h : P.info? t = some i) (w : World) : (typeInfo t).run P w = .ok i w := by
  simp [typeInfo, h]
theorem run_sizeOf {P : Program} {t : TypeId} {i : TypeInfo} (h : P.info? t = some i) (w : World) : (sizeOf t).run P w = .ok i.size w := by
  simp [sizeOf, run_typeInfo h]
theorem run_zeroValue {P : Program} {t : TypeId} {i : TypeInfo} {v : Value} (h : P.info? t = some i) (hz : i.zero = some v) (w : World) : (zeroValue t).run P w = .ok v w := by
  simp [zeroValue, run_typeInfo h, hz]
theorem run_isAgg {P : Program} {t : TypeId} (h : isAggB P t = true) (w : World) : (isAgg t).run P w = .ok true w := by
  unfold isAggB at h
  split at h
  · rename_i fs hu; simp [isAgg, run_underlying hu]
  · rename_i n el hu; simp [isAgg, run_underlying hu]
  · cases h
theorem run_notAgg {P : Program} {t : TypeId} {d : TypeDesc} (hd : P.underlying t = some d) (h : isAggB P t = false) (w : World) : (isAgg t).run P w = .ok false w := by
  unfold isAggB at h
  rw [hd] at h
  cases d <;> simp_all [isAgg, run_underlying hd]

theorem fieldAt_run {P : Program} {t : TypeId} {fs : Array Field} {f : Nat} {fd : Field} {i : TypeInfo} (hu : P.underlying t = some (.struct fs)) (hf : fs[f]? = some fd) (hi : P.info? fd.type = some i) (hz : ¬ i.size = 0) (b o : Nat) (w : World) :
    (Instr.fieldAt t (.pointer (some ⟨b, o, none⟩)) f).run P w = .ok (.pointer (some ⟨b, o + fd.offset, none⟩)) w := by
  simp only [Instr.fieldAt, Sem.run_bind, run_underlying hu, Result.andThen_ok, hf, Instr.sureAddr, fieldPlace, run_sizeOf hi, hz, if_false, Sem.run_pure, add_plain]

theorem fieldAddr_sound (t : TypeId) (x : Operand) (f : Nat) (ho : o.op = .fieldAddr t x f) (h : HOk c L e s a wb w) (hs : c.sat (symOp c.P ws o s k) L e wb)
    {G : World → Prop} (hG : pureOp s o = true ∨ ∀ w', G w' → (s.lim = none → w' = w) ∧ ∀ m D, s.lim = some (m, D) → Keep c.N c.D c.we w') : Still c L e s a wb w o k G := by
  unfold symOp at hs
  rw [ho] at hs
  simp only at hs
  split at hs
  · rename_i v fs hv hu
    split at hs
    · rename_i fd hf
      split at hs
      · rename_i i hi
        split at hs
        · exact hs.elim
        · rename_i hz
          split at hs
          · rename_i j off
            have h0 : a.eval x = .pointer (some ⟨e.N j, off, none⟩) := h.ev0 hv
            have h1 : ∀ l, Env.N (e ++ l) j = e.N j := fun l => by
              have h2 : Value.pointer (some ⟨Env.N (e ++ l) j, off, none⟩) = .pointer (some ⟨e.N j, off, none⟩) := h.same hv l
              simp only [Value.pointer.injEq, Option.some.injEq, Addr.mk.injEq] at h2
              exact h2.1
            exact still_mk h (v := .one (.ptr j (off + fd.offset))) (x := .pointer (some ⟨e.N j, off + fd.offset, none⟩)) (fun l => by simp only [SV.den, SC.den, h1 l])
              (fun w' _ => exec_of (f := fun v => Instr.fieldAt t v f) h0 (by unfold execOp; rw [ho]) (fieldAt_run hu hf hi hz _ _ _)) hs
          · rename_i b o' y sz off
            have h0 : a.eval x = .pointer (some ⟨e.N b, e.N o' + (y.den e).toNat * sz + off, none⟩) := h.ev0 hv
            have h1 : ∀ l, Env.N (e ++ l) b = e.N b ∧ Env.N (e ++ l) o' + (y.den (e ++ l)).toNat * sz + off = e.N o' + (y.den e).toNat * sz + off := fun l => by
              have h2 : Value.pointer (some ⟨Env.N (e ++ l) b, Env.N (e ++ l) o' + (y.den (e ++ l)).toNat * sz + off, none⟩) = .pointer (some ⟨e.N b, e.N o' + (y.den e).toNat * sz + off, none⟩) := h.same hv l
              simp only [Value.pointer.injEq, Option.some.injEq, Addr.mk.injEq] at h2
              exact ⟨h2.1, h2.2.1⟩
            have h3 := fun w' => fieldAt_run (P := c.P) hu hf hi hz (e.N b) (e.N o' + (y.den e).toNat * sz + off) w'
            generalize hA : e.N o' + (y.den e).toNat * sz = A at *
            exact still_mk h (v := .one (.eptr b o' y sz (off + fd.offset))) (x := .pointer (some ⟨e.N b, A + off + fd.offset, none⟩)) (fun l => by
                have := h1 l
                simp only [SV.den, SC.den, this.1, Value.pointer.injEq, Option.some.injEq, Addr.mk.injEq, true_and, and_true]
                omega)
              (fun w' _ => exec_of (f := fun v => Instr.fieldAt t v f) h0 (by unfold execOp; rw [ho]) (h3 w')) hs
          · rename_i hn1 hn2
            refine looked_sound rfl h hs (fun w' v' hr => exec_of (f := fun v => Instr.fieldAt t v f) (h.ev0 hv) (by unfold execOp; rw [ho]) hr) (hG.resolve_left fun hp => ?_)
            unfold pureOp at hp
            rw [ho] at hp
            simp only [hv] at hp
            split at hp
            · rename_i hq; injection hq with hq; exact hn1 _ _ hq
            · rename_i hq; injection hq with hq; exact hn2 _ _ _ _ _ hq
            · cases hp
      · exact hs.elim
    · exact hs.elim
  · exact hs.elim

theorem indexAt_slice {P : Program} {t el : TypeId} {i : TypeInfo} (hu : P.underlying t = some (.slice el)) (hi : P.info? el = some i) (b o n cp : Nat) (kx : IntKind) (q : Int) (h0 : 0 ≤ q) (h1 : q < (n : Int)) (w : World) :
    (Instr.indexAt t (.slice (some ⟨b, o, none⟩) n cp) (.int kx q)).run P w = .ok (.pointer (some ⟨b, o + q.toNat * i.size, none⟩)) w := by
  simp only [Instr.indexAt, asIntOf, Sem.run_bind, Sem.run_pure, Result.andThen_ok, run_underlying hu, h0, h1, and_self, if_true, run_sizeOf hi, add_plain]

theorem indexAt_array {P : Program} {t el : TypeId} {n : Nat} {i : TypeInfo} (hu : P.underlying t = some (.array n el)) (hi : P.info? el = some i) (b o : Nat) (kx : IntKind) (q : Int) (h0 : 0 ≤ q) (h1 : q < (n : Int)) (w : World) :
    (Instr.indexAt t (.pointer (some ⟨b, o, none⟩)) (.int kx q)).run P w = .ok (.pointer (some ⟨b, o + q.toNat * i.size, none⟩)) w := by
  simp only [Instr.indexAt, asIntOf, Sem.run_bind, Sem.run_pure, Result.andThen_ok, run_underlying hu, Instr.sureAddr, h0, h1, and_self, if_true, run_sizeOf hi, add_plain]

theorem arrIx_sound {ix : IE} {q1 : Int} {sz j off : Nat} (hqd : ∀ l, ix.den (e ++ l) = q1) {kk : SV → St → Tree} : ∀ (m q : Nat) (s : St), HOk c L e s a wb w → c.sat (arrIx ix sz j off m q s kk) L e wb →
    ∃ kn, ∃ p : Nat, q1 = (p : Int) ∧ q ≤ p ∧ p ≤ q + m ∧ HOk c L e { s with known := kn } a wb w ∧ c.sat (kk (.one (.ptr j (off + p * sz))) { s with known := kn }) L e wb
  | 0, q, s, h, hs => by
    have hs : (BE.eq ix (.lit (q : Int))).T e ∧ c.sat (kk (.one (.ptr j (off + q * sz))) s) L e wb := hs
    have h0 := hqd []
    rw [List.append_nil] at h0
    exact ⟨s.known, q, h0.symm.trans hs.1, Nat.le_refl _, Nat.le_refl _, h, hs.2⟩
  | m + 1, q, s, h, hs => by
    have hs : c.sat (split (.eq ix (.lit (q : Int))) s fun v s => if v then kk (.one (.ptr j (off + q * sz))) s else arrIx ix sz j off m (q + 1) s kk) L e wb := hs
    by_cases hq : q1 = (q : Int)
    · obtain ⟨kn, h', hs'⟩ := split_sound (v := true) h (fun l => by simp only [BE.den, IE.den, hqd l, hq]; simp) hs
      exact ⟨kn, q, hq, Nat.le_refl _, Nat.le_add_right _ _, h', hs'⟩
    · obtain ⟨kn, h', hs'⟩ := split_sound (v := false) h (fun l => by simp only [BE.den, IE.den, hqd l]; simpa using hq) hs
      obtain ⟨kn2, p, h1, h2, h3, h4, h5⟩ := arrIx_sound hqd m (q + 1) _ h' hs'
      exact ⟨kn2, p, h1, by omega, by omega, h4, h5⟩
theorem indexAddr_sound (t : TypeId) (x i : Operand) (ho : o.op = .indexAddr t x i) (h : HOk c L e s a wb w) (hs : c.sat (symOp c.P ws o s k) L e wb)
    {G : World → Prop} (hG : pureOp s o = true ∨ ∀ w', G w' → (s.lim = none → w' = w) ∧ ∀ m D, s.lim = some (m, D) → Keep c.N c.D c.we w') : Still c L e s a wb w o k G := by
  unfold symOp at hs
  rw [ho] at hs
  simp only at hs
  have hex : ∀ {u v r : Value} {w' : World}, a.eval x = u → a.eval i = v → (Instr.indexAt t u v).run c.P w' = .ok r w' → (execOp a.eval o).run c.P w' = .ok (.value r) w' := fun {u v r w'} hu hv hr => by
    unfold execOp; rw [ho]; simp only [hu, hv, Sem.run_bind, Sem.run_pure, hr, Result.andThen_ok]
  split at hs
  · rename_i A n cp ik ix el hx hi hu
    obtain ⟨q, hq, hqd⟩ := int_den (fun l => h.ev hi l)
    split at hs
    · rename_i inf hinf
      split at hs
      · rename_i j off len q'
        split at hs
        · rename_i hq2
          have hqq : q' = q := hqd []
          subst hqq
          have h0 : a.eval x = .slice (some ⟨e.N j, off, none⟩) len (cp.den e) := h.ev0 hx
          have h1 : ∀ l, Env.N (e ++ l) j = e.N j := fun l => by
            have h2 : Value.slice (some ⟨Env.N (e ++ l) j, off, none⟩) len (cp.den (e ++ l)) = .slice (some ⟨e.N j, off, none⟩) len (cp.den e) := h.same hx l
            simp only [Value.slice.injEq, Option.some.injEq, Addr.mk.injEq] at h2
            exact h2.1.1
          exact still_mk h (v := .one (.ptr j (off + q'.toNat * inf.size))) (x := .pointer (some ⟨e.N j, off + q'.toNat * inf.size, none⟩)) (fun l => by simp only [SV.den, SC.den, h1 l])
            (fun w' _ => hex h0 hq (indexAt_slice hu hinf _ _ _ _ _ _ hq2.1 hq2.2 _)) hs
        · exact hs.elim
      · rename_i A' n' ix'
        obtain ⟨h0, h1, b, o', hA, hs⟩ := hs
        have hq0 := hqd []
        rw [List.append_nil] at hq0
        rw [hq0] at h0 h1
        have hx0 : a.eval x = .slice (A.den e) (n.den e) (cp.den e) := h.ev0 hx
        rw [hA] at hx0
        have hlen : e.length = s.n := h.env
        have hb : ∀ l, Env.N (e ++ ([At.n b, At.n o'] ++ l)) s.n = b := fun l => by
          have := nth_app2 e ([At.n b, At.n o'] ++ l) 0
          rw [Nat.add_zero, hlen] at this
          unfold Env.N; rw [this]; rfl
        have ho' : ∀ l, Env.N (e ++ ([At.n b, At.n o'] ++ l)) (s.n + 1) = o' := fun l => by
          have := nth_app2 e ([At.n b, At.n o'] ++ l) 1
          rw [hlen] at this
          unfold Env.N; rw [this]; rfl
        refine ⟨[.n b, .n o'], _, .pointer (some ⟨b, o' + q.toNat * inf.size, none⟩), wb, fun w' _ => hex hx0 hq (indexAt_slice hu hinf _ _ _ _ _ _ h0 h1 _), (h.ext [.n b, .n o']).put o.dst (v := .one (.eptr s.n (s.n + 1) ix inf.size 0)) (fun l => ?_), ?_, hs⟩
        · have := hqd ([At.n b, At.n o'] ++ l)
          simp only [SV.den, SC.den, List.append_assoc, hb, ho', this, Nat.add_zero]
        · unfold St.put; cases o.dst <;> rfl
    · exact hs.elim
  · rename_i j off ik q len el hx hi hu
    obtain ⟨q1, hq, hqd⟩ := int_den (fun l => h.ev hi l)
    have hqq : q = q1 := hqd []
    subst hqq
    split at hs
    · rename_i inf hinf
      split at hs
      · rename_i hq2
        have h0 : a.eval x = .pointer (some ⟨e.N j, off, none⟩) := h.ev0 hx
        have h1 : ∀ l, Env.N (e ++ l) j = e.N j := fun l => by
          have h2 : Value.pointer (some ⟨Env.N (e ++ l) j, off, none⟩) = .pointer (some ⟨e.N j, off, none⟩) := h.same hx l
          simp only [Value.pointer.injEq, Option.some.injEq, Addr.mk.injEq] at h2
          exact h2.1
        exact still_mk h (v := .one (.ptr j (off + q.toNat * inf.size))) (x := .pointer (some ⟨e.N j, off + q.toNat * inf.size, none⟩)) (fun l => by simp only [SV.den, SC.den, h1 l])
          (fun w' _ => hex h0 hq (indexAt_array hu hinf _ _ _ _ hq2.1 hq2.2 _)) hs
      · exact hs.elim
    · exact hs.elim
  · rename_i j off ik ix len el hn hx hi hu
    obtain ⟨q1, hq, hqd⟩ := int_den (fun l => h.ev hi l)
    split at hs
    · rename_i inf hinf
      split at hs
      · rename_i hq2
        have h0 : a.eval x = .pointer (some ⟨e.N j, off, none⟩) := h.ev0 hx
        have h1 : ∀ l, Env.N (e ++ l) j = e.N j := fun l => by
          have h2 : Value.pointer (some ⟨Env.N (e ++ l) j, off, none⟩) = .pointer (some ⟨e.N j, off, none⟩) := h.same hx l
          simp only [Value.pointer.injEq, Option.some.injEq, Addr.mk.injEq] at h2
          exact h2.1
        obtain ⟨kn, p, hp, hp0, hp1, h', hs'⟩ := arrIx_sound hqd _ _ _ h hs
        subst hp
        obtain ⟨ext, s', v', wb', r1, r2, r3, r4⟩ := still_mk (k := k) (o := o) (G := G) h' (v := .one (.ptr j (off + p * inf.size))) (x := .pointer (some ⟨e.N j, off + p * inf.size, none⟩)) (fun l => by simp only [SV.den, SC.den, h1 l])
          (fun w' _ => by have := hex h0 hq (indexAt_array (q := (p : Int)) hu hinf _ _ _ (by omega) (by omega) w'); rwa [Int.toNat_natCast] at this) hs'
        exact ⟨ext, s', v', wb', r1, r2, r3, r4⟩
      · exact hs.elim
    · exact hs.elim
  · rename_i b o' y sz off ik q len el hx hi hu
    obtain ⟨q1, hq, hqd⟩ := int_den (fun l => h.ev hi l)
    have hqq : q = q1 := hqd []
    subst hqq
    split at hs
    · rename_i inf hinf
      split at hs
      · rename_i hq2
        have h0 : a.eval x = .pointer (some ⟨e.N b, e.N o' + (y.den e).toNat * sz + off, none⟩) := h.ev0 hx
        have h1 : ∀ l, (SC.eptr b o' y sz off).den (e ++ l) = .pointer (some ⟨e.N b, e.N o' + (y.den e).toNat * sz + off, none⟩) := fun l => by
          have h2 : SV.den (e ++ l) (.one (.eptr b o' y sz off)) = SV.den e (.one (.eptr b o' y sz off)) := h.same hx l
          exact h2
        exact still_mk h (v := .one (.eptr b o' y sz (off + q.toNat * inf.size))) (x := .pointer (some ⟨e.N b, e.N o' + (y.den e).toNat * sz + off + q.toNat * inf.size, none⟩)) (fun l => by
            have h2 := h1 l
            simp only [SC.den, Value.pointer.injEq, Option.some.injEq, Addr.mk.injEq, and_true] at h2
            simp only [SV.den, SC.den, h2.1]
            rw [← Nat.add_assoc, h2.2])
          (fun w' _ => hex h0 hq (indexAt_array hu hinf _ _ _ _ hq2.1 hq2.2 _)) hs
      · exact hs.elim
    · exact hs.elim
  · rename_i u v d hn1 hn2 hn3 hn4 hx hi hu
    split at hs
    · exact hs.elim
    · rename_i hnp
      refine looked_sound rfl h hs (fun w' v' hr => hex (h.ev0 hx) (h.ev0 hi) hr) (hG.resolve_left fun hp => ?_)
      unfold pureOp at hp
      rw [ho] at hp
      simp only [hx, hi] at hp
      exact hnp hp
  · exact hs.elim

theorem field_sound (t : TypeId) (x : Operand) (f : Nat) (ho : o.op = .field t x f) (h : HOk c L e s a wb w) (hs : c.sat (symOp c.P ws o s k) L e wb) (G : World → Prop) : Still c L e s a wb w o k G := by
  unfold symOp at hs
  rw [ho] at hs
  simp only at hs
  split at hs
  · rename_i cs fs hx hu
    obtain ⟨vs, hvs, hd⟩ := agg_den (fun l => h.ev hx l)
    have hd0 := hd []
    rw [List.append_nil] at hd0
    have hlen : vs.length = cs.length := by rw [← hd0, cells_len]
    split at hs
    · rename_i fd hf
      split at hs
      · rename_i i hi
        have hex : ∀ {r : Value} {w' : World}, (part fd.type vs.toArray fd.offset).run c.P w' = .ok r w' → (execOp a.eval o).run c.P w' = .ok (.value r) w' := fun {r w'} hr =>
          exec_of (f := fun v => Instr.field t v f) hvs (by unfold execOp; rw [ho]) (by
            simp only [Instr.field, Sem.run_bind, run_underlying hu, Result.andThen_ok, hf, asAgg, Sem.run_pure, hr])
        split at hs
        · rename_i hagg
          split at hs
          · rename_i hle
            refine still_mk h (v := .agg ((cs.drop fd.offset).take i.size)) (x := .agg ((vs.drop fd.offset).take i.size).toArray) (fun l => ?_) (fun w' _ => hex ?_) hs
            · have := hd l
              rw [cells_eq] at this
              simp only [SV.den, cells_eq, List.map_take, List.map_drop, this]
            · simp only [part, Sem.run_bind, run_isAgg hagg, Result.andThen_ok, if_true, run_sizeOf hi, Sem.run_pure]
              congr 2
              apply Array.ext'
              simp [Array.toList_extract, List.extract]
          · exact hs.elim
        · rename_i hagg
          have hagg' : isAggB c.P fd.type = false := by simpa using hagg
          split at hs
          · rename_i d x' hd1 hn
            refine still_mk h (v := .one x') (x := x'.den e) (fun l => ?_) (fun w' _ => hex ?_) hs
            · have h1 := hd l
              rw [← hd0] at h1
              have := congrArg (fun l => l[fd.offset]?) h1
              simp only [cells_nth, hn, Option.map_some, Option.some.injEq] at this
              exact this.symm
            · simp only [part, Sem.run_bind, run_notAgg hd1 hagg', Result.andThen_ok, Bool.false_eq_true, if_false]
              rw [← hd0]
              simp only [List.getElem?_toArray, cells_nth, hn, Option.map_some, Sem.run_pure]
          · exact hs.elim
      · exact hs.elim
    · exact hs.elim
  · exact hs.elim

theorem len_sound (cl : Call) (ho : o.op = .call cl) (hb : cl.callee = .builtin .len) (h : HOk c L e s a wb w) (hs : c.sat (symOp c.P ws o s k) L e wb) (G : World → Prop) : Still c L e s a wb w o k G := by
  unfold symOp at hs
  rw [ho] at hs
  simp only [hb] at hs
  split at hs
  · rename_i xs hxs
    have hargs : ∀ l, cl.args.map a.eval = (svsDen (e ++ l) xs).toArray := fun l => by
      have := h.evs hxs l
      apply Array.ext'
      simpa using this
    have hex : ∀ {r : Value} {w' : World}, (Builtin.len_ cl.argTypes o.type (cl.args.map a.eval)).run c.P w' = .ok r w' → (execOp a.eval o).run c.P w' = .ok (.value r) w' := fun {r w'} hr => by
      unfold execOp; rw [ho]; simp only [resolve, hb, Sem.run_bind, Sem.run_pure, Result.andThen_ok, invoke, builtin, hr]
    split at hs <;> (try contradiction)
    · rename_i A n cp hxx
      split at hs
      · rename_i el ht
        have h0 := hargs []
        rw [List.append_nil] at h0
        have hN : ∀ l, n.den (e ++ l) = n.den e := fun l => by
          have h1 := hargs l
          rw [h0] at h1
          have := congrArg (fun x : Array Value => x.toList) h1
          simp only [svsDen, SV.den, SC.den, List.cons.injEq, Value.slice.injEq] at this
          exact this.1.2.1.symm
        obtain ⟨t0, ht0, hu⟩ : ∃ t0, cl.argTypes[0]? = some t0 ∧ c.P.underlying t0 = some (.slice el) := by
          cases hq : cl.argTypes[0]? with
          | none => rw [hq] at ht; cases ht
          | some t0 => rw [hq] at ht; exact ⟨t0, rfl, by simpa using ht⟩
        refine still_mk h (v := .one (.int .i64 n.ie)) (x := .int .i64 (n.den e : Int)) (fun l => ?_) (fun w' _ => hex ?_) hs
        · have := hN l
          cases n <;> simp only [SV.den, SC.den, NE.ie, IE.den, NE.den] at this ⊢
          rw [this]
        · rw [h0]
          simp only [Builtin.len_, ht0, svsDen, SV.den, SC.den, List.getElem?_toArray, List.getElem?_cons_zero, Sem.run_bind, run_underlying hu, Result.andThen_ok, Sem.run_pure, goInt]
      · exact hs.elim
    · rename_i y hxx
      split at hs
      · rename_i ht
        have h0 := hargs []
        rw [List.append_nil] at h0
        have hN : ∀ l, y.den (e ++ l) = y.den e := fun l => by
          have h1 := hargs l
          rw [h0] at h1
          have := congrArg (fun x : Array Value => x.toList) h1
          simp only [svsDen, SV.den, SC.den, List.cons.injEq, Value.string.injEq] at this
          exact this.1.symm
        obtain ⟨t0, ht0, hu⟩ : ∃ t0, cl.argTypes[0]? = some t0 ∧ c.P.underlying t0 = some .string := by
          cases hq : cl.argTypes[0]? with
          | none => rw [hq] at ht; cases ht
          | some t0 => rw [hq] at ht; exact ⟨t0, rfl, by simpa using ht⟩
        refine still_mk h (v := .one (.int .i64 (.ssz y))) (x := .int .i64 ((y.den e).size : Int)) (fun l => ?_) (fun w' _ => hex ?_) hs
        · simp only [SV.den, SC.den, IE.den, hN l]
        · rw [h0]
          simp only [Builtin.len_, ht0, svsDen, SV.den, SC.den, List.getElem?_toArray, List.getElem?_cons_zero, Sem.run_bind, run_underlying hu, Result.andThen_ok, Sem.run_pure, goInt]
      · exact hs.elim
  · exact hs.elim

theorem shift_run {P : Program} (op : BinOp) (hop : op = .shl ∨ op = .shr) (t : TypeId) (kx ky : IntKind) (m n : Int) (h0 : 0 ≤ n) (h1 : n.toNat ≤ kx.bits) (w : World) :
    (binOp op t (.int kx m) (.int ky n)).run P w = .ok (.int kx (if op = .shl then kx.wrap (m * 2 ^ n.toNat) else m.fdiv (2 ^ n.toNat))) w := by
  have hn : ¬ n < 0 := by omega
  have hm : min n.toNat kx.bits = n.toNat := Nat.min_eq_left h1
  rcases hop with rfl | rfl <;> simp [binOp, Op.shift, hn, hm]

theorem binOp_sound (op : BinOp) (t t' : TypeId) (x y : Operand) (ho : o.op = .binOp op t x y t') (h : HOk c L e s a wb w) (hs : c.sat (symOp c.P ws o s k) L e wb)
    {G : World → Prop} (hG : pureOp s o = true ∨ ∀ w', G w' → (s.lim = none → w' = w) ∧ ∀ m D, s.lim = some (m, D) → Keep c.N c.D c.we w') : Still c L e s a wb w o k G := by
  unfold pureOp at hG
  rw [ho] at hG
  unfold symOp at hs
  rw [ho] at hs
  simp only at hs hG
  have hlook : ∀ {u v : SV}, s.ev x = some u → s.ev y = some v → c.sat (looked c.P (.bin op t u v) o.type o.dst s k) L e wb → (∀ w, (eqGuard op t x y (u.den e) (v.den e)).run c.P w = .ok () w) →
      (∀ w', G w' → (s.lim = none → w' = w) ∧ ∀ m D, s.lim = some (m, D) → Keep c.N c.D c.we w') → Still c L e s a wb w o k G := fun {u v} hu hv hs hg hG' =>
    looked_sound rfl h hs (fun w' v' hr => exec_bin ho (h.ev0 hu) (h.ev0 hv) (hg w') hr) hG'
  split at hs
  · rename_i kx p ky q hx hy
    obtain ⟨m, hm, hmd⟩ := int_den (fun l => h.ev hx l)
    obtain ⟨n, hn, hnd⟩ := int_den (fun l => h.ev hy l)
    simp only [hx, hy] at hG
    have hgd : ∀ w, (eqGuard op t x y (.int kx m) (.int ky n)).run c.P w = .ok () w := fun w => eqGuard_int _ _ _ _ _ _ _ _ _ _
    by_cases hsh : op = .shl ∨ op = .shr
    · by_cases hq : ∃ n', q = .lit n'
      · obtain ⟨n', rfl⟩ := hq
        have : n' = n := hnd []
        subst this
        have hs' : c.sat (if 0 ≤ n' ∧ n'.toNat ≤ kx.bits then k (s.put o.dst (some (.one (.int kx (if op = .shl then .wrap kx (.shl p n'.toNat) else .shr p n'.toNat))))) else .bad 42) L e wb := by
          rcases hsh with rfl | rfl <;> exact hs
        split at hs'
        · rename_i hb
          refine still_mk h (x := .int kx (if op = .shl then kx.wrap (m * 2 ^ n'.toNat) else m.fdiv (2 ^ n'.toNat))) (fun l => ?_) (fun w' _ => exec_bin ho hm hn (hgd w') (shift_run op hsh t kx ky m n' hb.1 hb.2 w')) hs'
          simp only [SV.den, SC.den]
          split <;> simp only [IE.den, hmd]
        · exact hs'.elim
      · have hs' : c.sat (looked c.P (.bin op t (.one (.int kx p)) (.one (.int ky q))) o.type o.dst s k) L e wb := by
          rcases hsh with rfl | rfl <;> (cases q <;> first | exact hs | exact (hq ⟨_, rfl⟩).elim)
        refine hlook hx hy hs' (fun w => ?_) ?_
        · have := h.ev0 hx; have h2 := h.ev0 hy
          rw [← this, ← h2, hm, hn]; exact hgd w
        · rcases hG with hG | hG
          · rcases hsh with rfl | rfl <;> (cases q <;> first | exact (hq ⟨_, rfl⟩).elim | cases hG)
          · exact hG
    · have hs' : c.sat (if kx = ky then arithOf op kx p q s (fun v s => k (s.put o.dst (some v))) else .bad 43) L e wb := by
        cases op <;> first | exact hs | exact (hsh (.inl rfl)).elim | exact (hsh (.inr rfl)).elim
      split at hs'
      · rename_i hk
        subst hk
        obtain ⟨v, r, hv, hr, hs2⟩ := arith_sound t (fun v s => k (s.put o.dst (some v))) hmd hnd hs'
        exact still_mk h hv (fun w' _ => exec_bin ho hm hn (hgd w') (hr w')) hs2
      · exact hs'.elim
  · rename_i p q hx hy
    obtain ⟨m, hm, hmd⟩ := str_den (fun l => h.ev hx l)
    obtain ⟨n, hn, hnd⟩ := str_den (fun l => h.ev hy l)
    have hgd : ∀ w, (eqGuard op t x y (.string m) (.string n)).run c.P w = .ok () w := fun w => eqGuard_str _ _ _ _ _ _ _ _
    split at hs
    · exact still_mk h (v := .one (.bool (.seq p q))) (x := .bool (m.toList == n.toList)) (fun l => by simp only [SV.den, SC.den, BE.den, hmd, hnd]) (fun w' _ => exec_bin ho hm hn (hgd w') (by simp [binOp, Op.stringOp])) hs
    · exact still_mk h (v := .one (.bool (.not (.seq p q)))) (x := .bool (!(m.toList == n.toList))) (fun l => by simp only [SV.den, SC.den, BE.den, hmd, hnd]) (fun w' _ => exec_bin ho hm hn (hgd w') (by simp [binOp, Op.stringOp])) hs
    · rename_i h1 h2
      refine hlook hx hy hs (fun w => ?_) ?_
      · have := h.ev0 hx; have h2 := h.ev0 hy
        rw [← this, ← h2, hm, hn]; exact hgd w
      · rcases hG with hG | hG
        · simp only [hx, hy] at hG
          cases hG
        · exact hG
  · rename_i p q hx hy
    split at hs
    · rename_i hop
      refine hlook hx hy hs (fun w => ?_) ?_
      · simp only [SV.den, eqGuard]
        rcases hop with ⟨rfl | rfl, hq⟩ <;> simp [hq]
      · rcases hG with hG | hG
        · simp only [hx, hy] at hG; cases hG
        · exact hG
    · exact hs.elim
  · rename_i p q hx hy
    refine hlook hx hy hs (fun w => ?_) ?_
    · simp only [SV.den, SC.den, eqGuard]
      cases op <;> simp
    · rcases hG with hG | hG
      · simp only [hx, hy] at hG; cases hG
      · exact hG
  · rename_i j off hx hy
    refine hlook hx hy hs (fun w => by cases op <;> rfl) ?_
    rcases hG with hG | hG
    · simp only [hx, hy] at hG; cases hG
    · exact hG
  · rename_i j hx hy
    refine hlook hx hy hs (fun w => by
      simp only [SV.den, SC.den]
      generalize e.V j = v
      cases op <;> cases v <;> rfl) ?_
    rcases hG with hG | hG
    · simp only [hx, hy] at hG; cases hG
    · exact hG
  · rename_i A n cp A' n' cp' hx hy
    refine hlook hx hy hs (fun w => by cases op <;> rfl) ?_
    rcases hG with hG | hG
    · simp only [hx, hy] at hG; cases hG
    · exact hG
  · exact hs.elim

theorem cell_of_block {w : World} {b o : Nat} {cs : List Value} {t : TypeId} {fr : Nat × Nat} (h : w.heap[b]? = some (.cells cs.toArray t fr)) {v : Value} (hv : cs[o]? = some v) : w.cell? ⟨b, o, none⟩ = some v := by
  unfold World.cell?
  simp only [h, Option.isSome_none, Bool.false_eq_true, if_false, List.getElem?_toArray, hv]

/-- Loads from cells that are told. -/
theorem load_cells {P : Program} {t : TypeId} {i : TypeInfo} {w : World} {b o : Nat} {cs : List Value} (hi : P.info? t = some i) (hagg : isAggB P t = true) (hl : cs.length = i.size) (hc : ∀ j v, cs[j]? = some v → w.cell? ⟨b, o + j, none⟩ = some v) :
    (Instr.loadAt t (.pointer (some ⟨b, o, none⟩))).run P w = .ok (.agg cs.toArray) w := by
  have := run_loadCells_list (P := P) w ⟨b, o, none⟩ cs (fun j v hv => by rw [add_plain]; exact hc j v hv)
  rw [hl] at this
  simp only [Instr.loadAt, Instr.sureAddr, loadVar, Sem.run_bind, Sem.run_pure, Result.andThen_ok, run_isAgg hagg, if_true, run_sizeOf hi, this]
theorem load_cell {P : Program} {t : TypeId} {d : TypeDesc} {w : World} {b o : Nat} {v : Value} (hd : P.underlying t = some d) (hagg : isAggB P t = false) (hc : w.cell? ⟨b, o, none⟩ = some v) :
    (Instr.loadAt t (.pointer (some ⟨b, o, none⟩))).run P w = .ok v w := by
  simp only [Instr.loadAt, Instr.sureAddr, loadVar, Sem.run_bind, Sem.run_pure, Result.andThen_ok, run_notAgg hd hagg, Bool.false_eq_true, if_false, load, Sem.run, hc]

theorem take_drop_get {α : Type} (l : List α) (o n j : Nat) {v : α} (h : ((l.drop o).take n)[j]? = some v) : l[o + j]? = some v := by
  rw [List.getElem?_take] at h
  split at h
  · rwa [List.getElem?_drop] at h
  · cases h

theorem load_sound (t : TypeId) (x : Operand) (ho : o.op = .load t x) (h : HOk c L e s a wb w) (hs : c.sat (symOp c.P ws o s k) L e wb)
    {G : World → Prop} (hG : ∀ w', G w' → (s.lim = none → w' = w) ∧ ∀ m D, s.lim = some (m, D) → Keep c.N c.D c.we w') : Still c L e s a wb w o k G := by
  unfold symOp at hs
  rw [ho] at hs
  simp only at hs
  have hex : ∀ {u r : Value} {w' : World}, a.eval x = u → (Instr.loadAt t u).run c.P w' = .ok r w' → (execOp a.eval o).run c.P w' = .ok (.value r) w' := fun {u r w'} hu hr =>
    exec_of (f := fun v => Instr.loadAt t v) hu (by unfold execOp; rw [ho]) hr
  split at hs
  · rename_i j off hx
    split at hs
    · rename_i hj
      have hx0 : a.eval x = .pointer (some ⟨e.N j, off, none⟩) := h.ev0 hx
      split at hs
      · rename_i t0 cs hg
        have hblk : ∀ w', G w' → w'.heap[e.N j]? = some (.cells (cellsDen e cs).toArray t0 (0, 0)) := fun w' hw' => by
          have h0 := h.hp [] j t0 cs hg
          rw [List.append_nil] at h0
          cases hlim : s.lim with
          | none => rw [(hG w' hw').1 hlim]; exact h0
          | some mD =>
            obtain ⟨m, D⟩ := mD
            have g := h.lim m D hlim
            simp only [St.mayRead, hlim] at hj
            simp only [Bool.and_eq_true, decide_eq_true_eq, Bool.not_eq_true'] at hj
            have h1 := g.lo [] j _ hg hj.1
            have h2 := g.out [] j _ hg hj.2
            rw [List.append_nil] at h1 h2
            rw [(hG w' hw').2 m D hlim _ h1 h2, ← g.keep _ h1 h2]
            exact h0
        have hst : ∀ l, cellsDen (e ++ l) cs = cellsDen e cs := fun l => by
          have h0 := h.hp [] j t0 cs hg
          have h1 := h.hp l j t0 cs hg
          rw [h.N l hg] at h1
          rw [h.N [] hg, h1] at h0
          simp only [Option.some.injEq, Obj.cells.injEq, true_and, and_true] at h0
          have := congrArg Array.toList h0
          simpa using this
        split at hs
        · rename_i hagg
          split at hs
          · rename_i i hi
            split at hs
            · rename_i hle
              refine still_mk h (v := .agg ((cs.drop off).take i.size)) (x := .agg (((cellsDen e cs).drop off).take i.size).toArray) (fun l => ?_) (fun w' hw' => hex hx0 (load_cells hi hagg ?_ fun j' v' hv' => ?_)) hs
              · have := hst l
                rw [cells_eq, cells_eq] at this
                simp only [SV.den, cells_eq, List.map_take, List.map_drop, this]
              · rw [List.length_take, List.length_drop, cells_len]; omega
              · exact cell_of_block (hblk w' hw') (take_drop_get _ _ _ _ hv')
            · exact hs.elim
          · exact hs.elim
        · rename_i hagg
          have hagg' : isAggB c.P t = false := by simpa using hagg
          split at hs
          · rename_i d x' hd hn
            refine still_mk h (v := .one x') (x := x'.den e) (fun l => ?_) (fun w' hw' => hex hx0 (load_cell hd hagg' (cell_of_block (hblk w' hw') (by rw [cells_nth, hn]; rfl)))) hs
            have := congrArg (fun l => l[off]?) (hst l)
            simp only [cells_nth, hn, Option.map_some, Option.some.injEq] at this
            exact this.symm
          · exact hs.elim
      · exact hs.elim
    · exact hs.elim
  · rename_i b o' y sz off hx
    have hx0 : a.eval x = .pointer (some ⟨e.N b, e.N o' + (y.den e).toNat * sz + off, none⟩) := h.ev0 hx
    split at hs
    · rename_i cs ks hcs
      split at hs
      · exact hs.elim
      · rename_i hok
        have hok' : okL (s.n + ks.length) cs = true := by simpa using hok
        have main : ∀ {v : SV} {i : Nat}, (∀ m : Env, (match v with | .agg l => l | .one x => [x] | _ => []) = cs) →
            c.sat (.load b o' y sz off ks cs (s.dl []) s.lim (k ((s.told ks.length).put o.dst (some v)))) L e wb → okV (s.n + ks.length) v = true →
            (∀ (l : Env) w', CellsAt w' (e.N b) (e.N o' + (y.den e).toNat * sz + off) (cellsDen (e ++ l) cs) → (Instr.loadAt t (.pointer (some ⟨e.N b, e.N o' + (y.den e).toNat * sz + off, none⟩))).run c.P w' = .ok (v.den (e ++ l)) w') → Still c L e s a wb w o k G := fun {v i} _ hs hokv hr => by
          have hw := h.world (q := []) hs
          obtain ⟨l, hl, h1, h2⟩ := exs_spec hw
          have hle : s.n + ks.length ≤ (e ++ l).length := by rw [List.length_append, h.env, hl]; exact Nat.le_refl _
          have h3 : (∀ m D, s.lim = some (m, D) → e.N b < e.N m ∧ e.N b ∉ e.L m ++ nsDen e D) ∧ c.sat (k ((s.told ks.length).put o.dst (some v))) L (e ++ l) w := by
            split at h2
            · rename_i hlim; exact ⟨fun m D hm => (by rw [hlim] at hm; cases hm), h2⟩
            · rename_i m D hlim; exact ⟨fun m' D' hm => (by rw [hlim] at hm; injection hm with hm; injection hm with hm1 hm2; subst hm1; subst hm2; exact h2.1), h2.2⟩
          refine ⟨l, _, v.den (e ++ l), w, fun w' hw' => hex hx0 (hr l w' ?_), (h.here l).put o.dst (fun m => (okV_den m hle hokv).symm), ?_, ?_⟩
          · cases hlim : s.lim with
            | none => rw [(hG w' hw').1 hlim]; exact h1
            | some mD =>
              obtain ⟨m, D⟩ := mD
              have g := h.lim m D hlim
              have g0 := g.cst []
              rw [List.append_nil] at g0
              have hb := h3.1 m D hlim
              rw [g0.1, g0.2] at hb
              intro j u hj
              rw [World.cell?_of_block (w := w) (((hG w' hw').2 m D hlim _ hb.1 hb.2).trans (g.keep _ hb.1 hb.2).symm)]
              exact h1 j u hj
          · unfold St.put; cases o.dst <;> rfl
          · rw [hl]; exact h3.2
        split at hs
        · rename_i hagg
          split at hs
          · rename_i i hi
            split at hs
            · rename_i hsz
              refine main (i := 0) (fun _ => rfl) hs hok' (fun l w' hc => ?_)
              exact load_cells hi hagg (by rw [cells_len, hsz]) (fun j v hv => hc j v (by rw [nth_eq]; exact hv))
            · exact hs.elim
          · exact hs.elim
        · rename_i hagg
          have hagg' : isAggB c.P t = false := by simpa using hagg
          split at hs
          · rename_i d x' hd
            refine main (i := 0) (fun _ => rfl) hs (by simpa [okL, okV] using hok') (fun l w' hc => ?_)
            exact load_cell hd hagg' (by have := hc 0 _ rfl; rwa [Nat.add_zero] at this)
          · exact hs.elim
    · exact hs.elim
  · rename_i p hx
    exact looked_sound rfl h hs (fun w' v' hr => hex (h.ev0 hx) hr) hG
  · exact hs.elim

/-- What is left behind an operation. -/
def Doing (c : Cx) (L : List LC) (e : Env) (s : St) (k : St → Tree) (K : Act → World → Prop) : Prop :=
  ∀ ext s' a' wb' w', HOk c L (e ++ ext) s' a' wb' w' → s'.lim = s.lim → c.sat (k s') L (e ++ ext) wb' → K a' w'

theorem doing_still {G : World → Prop} {Q : Exit → Act → World → Prop} {K : Act → World → Prop} (hS : Still c L e s a wb w o k G) (hG : G w) (hK : Doing c L e s k K) : o.wp c.P a w K Q := by
  obtain ⟨ext, s', v, wb', hr, h', hl, hs⟩ := hS
  unfold Oper.wp
  rw [hr w hG]
  exact hK ext s' _ wb' w h' hl hs

theorem put_lim (s : St) (d : Option Nat) (v : Option SV) : (s.put d v).lim = s.lim := by unfold St.put; cases d <;> rfl

/-- A new block. -/
theorem addBlock_sound {t : TypeId} {cs : List SC} {vs : List Value} {k1 : Nat → St → Tree} {v : Nat → SV} {x : Nat → Value} (h : HOk c L e s a wb w) (hcs : ∀ l, cellsDen (e ++ l) cs = vs)
    (hs : c.sat (addBlock t cs s k1) L e wb) (hk1 : ∀ j s, k1 j s = k (s.put o.dst (some (v j)))) (hv : ∀ l b, Env.N (e ++ l) s.n = b → x b = (v s.n).den (e ++ l))
    (hr : (execOp a.eval o).run c.P w = .ok (.value (x w.heap.size)) (w.alloc (.cells vs.toArray t))) {Q : Exit → Act → World → Prop} {K : Act → World → Prop} (hK : Doing c L e s k K) : o.wp c.P a w K Q := by
  obtain ⟨hs1, hs2⟩ := oneCells_spec hs
  have h1 : ∀ u ∈ vs, u.oneCell' = true := fun u hu => by
    have := hcs []
    rw [List.append_nil] at this
    rw [← this] at hu
    obtain ⟨y, hy, rfl⟩ := mem_cellsDen hu
    exact hs2 y hy
  have hb := h.block t hcs h1
  unfold Oper.wp
  rw [hr]
  refine hK [.n w.heap.size] _ _ wb _ (hb.put o.dst (v := v s.n) (fun l => ?_)) (put_lim _ _ _) ?_
  · rw [List.append_assoc]
    refine hv _ _ ?_
    have := nth_app2 e ([At.n w.heap.size] ++ l) 0
    rw [Nat.add_zero, h.env] at this
    unfold Env.N; rw [this]; rfl
  · have := hs1 w.heap.size h.fr.size
    rw [hk1] at this
    exact this

theorem svcells_den {v : SV} (hv : ∀ l, v ≠ .tup l) (e : Env) : cellsDen e v.cells = (v.den e).cells.toList ∨ ∃ x, v = .one x := by
  cases v with
  | one x => exact .inr ⟨x, rfl⟩
  | agg l => exact .inl (by simp [SV.cells, SV.den, Value.cells])
  | tup l => exact (hv l rfl).elim

theorem run_newVar {P : Program} (t : TypeId) (v : Value) (w : World) : (newVar t v).run P w = .ok ⟨w.heap.size, 0, none⟩ (w.alloc (.cells v.cells t)) := by
  simp only [newVar, newRow, newObj, Sem.run_bind, Sem.run, Result.andThen_ok, Sem.run_pure]; rfl

theorem alloc_sound (t : TypeId) (ho : o.op = .alloc t) (h : HOk c L e s a wb w) (hs : c.sat (symOp c.P ws o s k) L e wb) {Q : Exit → Act → World → Prop} {K : Act → World → Prop} (hK : Doing c L e s k K) : o.wp c.P a w K Q := by
  unfold symOp at hs
  rw [ho] at hs
  simp only at hs
  split at hs
  · rename_i i hi
    split at hs
    · rename_i z hz
      split at hs
      · rename_i v hv
        refine addBlock_sound (vs := z.cells.toList) (v := fun j => .one (.ptr j 0)) (x := fun b => .pointer (some ⟨b, 0, none⟩)) h (fun l => ofVal_cells hv _) hs (fun j s => rfl) (fun l b hb => by simp only [SV.den, SC.den, hb]) ?_ hK
        unfold execOp
        rw [ho]
        simp only [Instr.alloc, Sem.run_bind, run_zeroValue hi hz, Result.andThen_ok, run_newVar, Sem.run_pure, Array.toArray_toList]
      · exact hs.elim
    · exact hs.elim
  · exact hs.elim

theorem box_sound (t : TypeId) (x : Operand) (ho : o.op = .box t x) (h : HOk c L e s a wb w) (hs : c.sat (symOp c.P ws o s k) L e wb) {Q : Exit → Act → World → Prop} {K : Act → World → Prop} (hK : Doing c L e s k K) : o.wp c.P a w K Q := by
  unfold symOp at hs
  rw [ho] at hs
  simp only at hs
  split at hs
  · exact hs.elim
  · rename_i v hne hv
    have hx := h.ev0 hv
    have key : ∀ (vs : List Value), (∀ l, cellsDen (e ++ l) v.cells = vs) → (a.eval x).cells = vs.toArray → o.wp c.P a w K Q := fun vs hvs hc => by
      refine addBlock_sound (vs := vs) (v := fun j => .one (.ptr j 0)) (x := fun b => .pointer (some ⟨b, 0, none⟩)) h hvs hs (fun j s => rfl) (fun l b hb => by simp only [SV.den, SC.den, hb]) ?_ hK
      unfold execOp
      rw [ho]
      simp only [Instr.box, Sem.run_bind, run_newVar, Result.andThen_ok, Sem.run_pure, hc]
    cases v with
    | tup l => exact (hne l rfl).elim
    | agg l =>
      refine key (cellsDen e l) (fun m => ?_) (by rw [hx]; rfl)
      have := h.same hv m
      simp only [SV.den, Value.agg.injEq] at this
      have h2 := congrArg Array.toList this
      simpa [SV.cells] using h2
    | one y =>
      have h1 : (y.den e).oneCell' = true := ((oneCells_spec hs).2 y (by simp [SV.cells]))
      refine key [y.den e] (fun m => ?_) ?_
      · have := h.same hv m
        simp only [SV.den] at this
        simp only [SV.cells, cellsDen, this]
      · rw [hx]
        simp only [SV.den]
        generalize y.den e = u at h1
        cases u <;> first | rfl | cases h1
  · exact hs.elim

theorem store_sound (t : TypeId) (p x : Operand) (ho : o.op = .store t p x) (h : HOk c L e s a wb w) (hs : c.sat (symOp c.P ws o s k) L e wb) {Q : Exit → Act → World → Prop} {K : Act → World → Prop} (hK : Doing c L e s k K) : o.wp c.P a w K Q := by
  unfold symOp at hs
  rw [ho] at hs
  simp only at hs
  split at hs
  · rename_i j off v hp hv
    split at hs
    · rename_i t0 cs i hg hi
      split at hs
      · rename_i hc
        obtain ⟨hc1, hc2, hc3⟩ := hc
        have hp0 : a.eval p = .pointer (some ⟨e.N j, off, none⟩) := h.ev0 hp
        have hx0 := h.ev0 hv
        have hblk := h.hp [] j t0 cs hg
        rw [List.append_nil] at hblk
        have hst : ∀ l, cellsDen (e ++ l) cs = cellsDen e cs := fun l => by
          have h1 := h.hp l j t0 cs hg
          rw [h.N l hg, hblk] at h1
          simp only [Option.some.injEq, Obj.cells.injEq, true_and, and_true] at h1
          simpa using (congrArg Array.toList h1).symm
        have key : ∀ (vs : List Value), (∀ l, cellsDen (e ++ l) v.cells = vs) → (a.eval x).cells = vs.toArray → (∀ u ∈ vs, u.oneCell' = true) →
            c.sat (k { s.put o.dst (some (.one .undef)) with hp := hpSet s.hp j (putL cs off v.cells), wr := if memN s.fresh j || memN s.wr j then s.wr else j :: s.wr, clean := false }) L e wb → o.wp c.P a w K Q := fun vs hvs hxc h1 hs => by
          have hvl : vs.length = i.size := by rw [← hvs [], cells_len, hc1]
          have hput : ∀ l, cellsDen (e ++ l) (putL cs off v.cells) = (cellsDen e cs).take off ++ vs ++ (cellsDen e cs).drop (off + vs.length) := fun l => by
            rw [putL_den _ _ _ _ (by omega), hst, hvs, hc1, hvl]
          have h2 := h.store (cs := putL cs off v.cells) hg hput (fun u hu => by
            have hone := h.one [] j t0 cs hg
            rw [List.append_nil] at hone
            rcases List.mem_append.1 hu with hu | hu
            · rcases List.mem_append.1 hu with hu | hu
              · exact hone u (List.mem_of_mem_take hu)
              · exact h1 u hu
            · exact hone u (List.mem_of_mem_drop hu)) (fun m D hl => by
            simp only [St.mayWrite, hl, Bool.or_eq_true, decide_eq_true_eq] at hc3
            exact hc3)
          have hrun := run_storeCells_at (P := c.P) (e.N j) off t0 vs 0 (cellsDen e cs).toArray w hblk (by simp [cells_len]; omega) h1
          unfold Oper.wp
          have hex : (execOp a.eval o).run c.P w = .ok .skip (w.setRow (e.N j) ((cellsDen e cs).take off ++ vs ++ (cellsDen e cs).drop (off + vs.length)).toArray) := by
            unfold execOp
            rw [ho]
            simp only [hp0, Instr.storeAt, Instr.sureAddr, Sem.run_bind, Sem.run_pure, Result.andThen_ok, storeVar, hxc, List.size_toArray, hvl, run_sizeOf hi, ne_eq, not_true, if_false]
            rw [hrun]
            simp [hvl]
          rw [hex]
          refine hK [] _ _ wb _ (by rw [List.append_nil]; exact h2.put o.dst (v := .one .undef) (fun l => rfl)) (by rw [put_lim]) ?_
          rw [List.append_nil]
          unfold St.put at hs ⊢
          cases hd : o.dst <;> rw [hd] at hs <;> exact hs
        split at hs
        · exact hs.elim
        · rename_i hne
          obtain ⟨hs1, hs2⟩ := oneCells_spec hs
          cases v with
          | tup l => exact (hne l rfl).elim
          | agg l =>
            have hl : ∀ m, cellsDen (e ++ m) l = cellsDen e l := fun m => by
              have := h.same hv m
              simp only [SV.den, Value.agg.injEq] at this
              simpa using congrArg Array.toList this
            refine key (cellsDen e l) hl (by rw [hx0]; rfl) (fun u hu => ?_) hs1
            obtain ⟨y, hy, rfl⟩ := mem_cellsDen hu
            exact hs2 y hy
          | one y =>
            have h1 : (y.den e).oneCell' = true := hs2 y (by simp [SV.cells])
            refine key [y.den e] (fun m => ?_) ?_ (fun u hu => by simp at hu; subst hu; exact h1) hs1
            · have := h.same hv m
              simp only [SV.den] at this
              simp only [SV.cells, cellsDen, this]
            · rw [hx0]
              simp only [SV.den]
              generalize y.den e = u at h1
              cases u <;> first | rfl | cases h1
      · exact hs.elim
    · exact hs.elim
  · rename_i p' v _ hp hv
    obtain ⟨w', hr, ⟨hfr, hm⟩, hs⟩ := h.world hs
    have hp0 := h.ev0 hp
    have hx0 := h.ev0 hv
    unfold Oper.wp
    have hex : (execOp a.eval o).run c.P w = .ok .skip w' := by
      unfold execOp
      rw [ho]
      simp only [hp0, hx0, Sem.run_bind, hr, Result.andThen_ok, Sem.run_pure]
    rw [hex]
    have h3 : (∀ m D, s.lim = some (m, D) → Keep (e.N m) (e.L m ++ nsDen e D) w w') ∧ c.sat (k ((s.told 0).put o.dst (some (.one .undef)))) L e w' := by
      unfold owes at hs
      split at hs
      · rename_i hlim; exact ⟨fun m D hm => (by rw [hlim] at hm; cases hm), hs⟩
      · rename_i m D hlim; exact ⟨fun m' D' hm => (by rw [hlim] at hm; injection hm with hm; injection hm with hm1 hm2; subst hm1; subst hm2; exact hs.1), hs.2⟩
    refine hK [] _ _ w' _ ((h.told (l := []) hfr hm h3.1).put o.dst (v := .one .undef) (fun l => rfl)) (put_lim _ _ _) ?_
    rw [List.append_nil]
    exact h3.2
  · exact hs.elim

/-! ### What is built -/
theorem fold_get (off : Nat) : ∀ (vs : List Value) (k : Nat) (arr : Array Value) (q : Nat), ((vs.zipIdx k).foldl (fun cs (p : Value × Nat) => cs.setIfInBounds (off + p.2) p.1) arr)[q]? =
    if off + k ≤ q ∧ q < off + k + vs.length then (if q < arr.size then vs[q - off - k]? else none) else arr[q]?
  | [], k, arr, q => by
    simp only [List.zipIdx_nil, List.foldl_nil, List.length_nil, Nat.add_zero]
    rw [if_neg (by omega)]
  | v :: vs, k, arr, q => by
    simp only [List.zipIdx_cons, List.foldl_cons]
    rw [fold_get off vs (k + 1) _ q]
    simp only [Array.size_setIfInBounds, List.length_cons]
    by_cases h1 : q = off + k
    · subst h1
      rw [if_neg (by omega), if_pos (by omega), Array.getElem?_setIfInBounds]
      simp [Nat.add_sub_cancel_left]
    · by_cases h2 : off + (k + 1) ≤ q ∧ q < off + (k + 1) + vs.length
      · rw [if_pos h2, if_pos (show off + k ≤ q ∧ q < off + k + (vs.length + 1) from ⟨by omega, by omega⟩)]
        by_cases h3 : q < arr.size
        · rw [if_pos h3, if_pos h3]
          rw [show q - off - k = (q - off - (k + 1)) + 1 by omega, List.getElem?_cons_succ]
        · rw [if_neg h3, if_neg h3]
      · rw [if_neg h2, if_neg (by omega), Array.getElem?_setIfInBounds_ne (by omega)]

theorem fold_put (vs cs : List Value) (off : Nat) (h : off + vs.length ≤ cs.length) :
    vs.toArray.zipIdx.foldl (fun cs (p : Value × Nat) => cs.setIfInBounds (off + p.2) p.1) cs.toArray = (cs.take off ++ vs ++ cs.drop (off + vs.length)).toArray := by
  apply Array.ext_getElem?
  intro q
  rw [← Array.foldl_toList, Array.toList_zipIdx, fold_get]
  simp only [Nat.add_zero, List.size_toArray, List.getElem?_toArray]
  by_cases h1 : q < off
  · rw [if_neg (by omega), List.append_assoc, List.getElem?_append_left (by simp; omega), List.getElem?_take, if_pos h1]
  · by_cases h2 : q < off + vs.length
    · rw [if_pos ⟨by omega, h2⟩, if_pos (by omega), List.append_assoc, List.getElem?_append_right (by simp; omega), List.getElem?_append_left (by simp; omega)]
      congr 1
      simp; omega
    · rw [if_neg (by omega), List.getElem?_append_right (by simp; omega), List.getElem?_drop]
      congr 1
      simp; omega

theorem fill_sound (place : Nat → Option (Nat × Nat)) (places : List (Nat × Nat)) (hpl : ∀ i p, nth places i = some p → place i = some p) : ∀ (ps : List (Nat × List SC)) (vs : List (Nat × Value)) (cells r : List SC) (e : Env),
    fillS places cells ps = some r → vs.map (fun p => (p.1, p.2.cells.toList)) = ps.map (fun p => (p.1, cellsDen e p.2)) → Instr.fill place (cellsDen e cells).toArray vs = some (cellsDen e r).toArray
  | [], [], cells, r, e, hf, _ => by simp only [fillS, Option.some.injEq] at hf; subst hf; rfl
  | [], _ :: _, _, _, _, _, hv => by simp at hv
  | _ :: _, [], _, _, _, _, hv => by simp at hv
  | (i, c) :: ps, (i', v) :: vs, cells, r, e, hf, hv => by
    simp only [List.map_cons, List.cons.injEq, Prod.mk.injEq] at hv
    obtain ⟨⟨rfl, hc⟩, hv⟩ := hv
    unfold fillS at hf
    split at hf
    · cases hf
    · rename_i off size hn
      split at hf
      · rename_i hle
        have hsz : v.cells.size = size := by rw [← Array.length_toList, hc, cells_len]; exact hle.1
        unfold Instr.fill
        rw [hpl _ _ hn]
        simp only [hsz, ne_eq, not_true, decide_false, Bool.false_or]
        rw [if_neg (by simp [cells_len]; omega)]
        have e1 : v.cells = (cellsDen e c).toArray := by apply Array.ext'; simpa using hc
        have e2 := fold_put (cellsDen e c) (cellsDen e cells) off (by rw [cells_len, cells_len]; omega)
        have e3 := putL_den e cells off c (by omega)
        rw [cells_len] at e2
        rw [← e3] at e2
        rw [e1]
        have e4 : (cellsDen e c).toArray.zipIdx.foldl (fun cs x => match x with | (c, j) => cs.setIfInBounds (off + j) c) (cellsDen e cells).toArray = (cellsDen e (putL cells off c)).toArray := e2
        rw [e4]
        exact fill_sound place places hpl ps vs _ r e hf hv
      · cases hf

theorem parts_sound (h : HOk c L e s a wb w) : ∀ {l : List (Nat × Operand)} {ps : List (Nat × List SC)}, s.parts l = some ps → (∀ x ∈ partCells ps, (x.den e).oneCell' = true) →
    (∀ m, ps.map (fun p => (p.1, cellsDen (e ++ m) p.2)) = ps.map (fun p => (p.1, cellsDen e p.2))) ∧ (l.map fun p => (p.1, (a.eval p.2).cells.toList)) = ps.map (fun p => (p.1, cellsDen e p.2))
  | [], ps, hp, _ => by simp only [St.parts, Option.some.injEq] at hp; subst hp; exact ⟨fun _ => rfl, rfl⟩
  | (i, x) :: l, ps, hp, h1 => by
    unfold St.parts at hp
    split at hp
    · cases hp
    · rename_i v hne hv
      split at hp
      · rename_i r hr
        simp only [Option.some.injEq] at hp
        subst hp
        obtain ⟨g1, g2⟩ := parts_sound h hr (fun y hy => h1 y (by simp [partCells, hy]))
        have hx := h.ev0 hv
        have hsame := fun m => h.same hv m
        have key : (∀ m, cellsDen (e ++ m) v.cells = cellsDen e v.cells) ∧ (a.eval x).cells.toList = cellsDen e v.cells := by
          cases v with
          | tup q => exact (hne q rfl).elim
          | agg q => exact ⟨fun m => by have := hsame m; simp only [SV.den, Value.agg.injEq] at this; simpa [SV.cells] using congrArg Array.toList this, by rw [hx]; simp [SV.den, Value.cells, SV.cells]⟩
          | one q =>
            refine ⟨fun m => by have := hsame m; simp only [SV.den] at this; simp only [SV.cells, cellsDen, this], ?_⟩
            have := h1 q (by simp [partCells, SV.cells])
            rw [hx]
            simp only [SV.den, SV.cells, cellsDen]
            generalize q.den e = u at this
            cases u <;> first | rfl | cases this
        refine ⟨fun m => ?_, ?_⟩
        · simp only [List.map_cons, key.1 m, g1 m]
        · simp only [List.map_cons, key.2, g2]
      · cases hp
    · cases hp

theorem places_sound {P : Program} : ∀ {fs : List Field} {pl : List (Nat × Nat)}, placesOf P fs = some pl → ∀ w, (fs.mapM (m := Sem) fun f => do pure (f.offset, ← sizeOf f.type)).run P w = .ok pl w
  | [], pl, h, w => by simp only [placesOf, Option.some.injEq] at h; subst h; rfl
  | f :: fs, pl, h, w => by
    unfold placesOf at h
    split at h
    · rename_i g hg
      split at h
      · rename_i r hr
        simp only [Option.some.injEq] at h
        subst h
        simp only [List.mapM_cons, Sem.run_bind, run_sizeOf hg, Result.andThen_ok, Sem.run_pure, places_sound hr]
      · cases h
    · cases h

theorem fill_same {n : Nat} : ∀ {ps : List (Nat × List SC)} {places : List (Nat × Nat)} {cells r : List SC} {e e' : Env}, fillS places cells ps = some r → cellsDen e cells = cellsDen e' cells →
    ps.map (fun p => (p.1, cellsDen e p.2)) = ps.map (fun p => (p.1, cellsDen e' p.2)) → cellsDen e r = cellsDen e' r
  | [], _, cells, r, e, e', hf, hc, _ => by simp only [fillS, Option.some.injEq] at hf; subst hf; exact hc
  | (i, c) :: ps, places, cells, r, e, e', hf, hc, hp => by
    simp only [List.map_cons, List.cons.injEq, Prod.mk.injEq, true_and] at hp
    unfold fillS at hf
    split at hf
    · cases hf
    · split at hf
      · rename_i hle
        refine fill_same (n := n) hf ?_ hp.2
        rw [putL_den _ _ _ _ (by omega), putL_den _ _ _ _ (by omega), hc, hp.1]
      · cases hf

theorem build_sound (t : TypeId) (parts : Array (Nat × Operand)) (ho : o.op = .build t parts) (h : HOk c L e s a wb w) (hs : c.sat (symOp c.P ws o s k) L e wb) (G : World → Prop) : Still c L e s a wb w o k G := by
  unfold symOp at hs
  rw [ho] at hs
  simp only at hs
  split at hs
  · rename_i i hi
    split at hs
    · rename_i zv hz
      split at hs
      · rename_i z hzv
        split at hs
        · rename_i ps hps
          split at hs
          · rename_i fs hu
            split at hs
            · rename_i places hpl
              split at hs
              · rename_i cs hf
                obtain ⟨hs1, hs2⟩ := oneCells_spec hs
                obtain ⟨g1, g2⟩ := parts_sound h hps hs2
                refine still_mk h (v := .agg cs) (x := .agg (cellsDen e cs).toArray) (fun l => ?_) (fun w' _ => ?_) hs1
                · have := fill_same (n := 0) (e := e ++ l) (e' := e) hf (by rw [ofVal_cells hzv, ofVal_cells hzv]) (g1 l)
                  simp only [SV.den, this]
                · unfold execOp
                  rw [ho]
                  have hfill := fill_sound (fun q => (places.toArray)[q]?) places (fun q p hq => by rw [nth_eq] at hq; simpa using hq) ps (parts.toList.map fun p => (p.1, a.eval p.2)) z.cells cs e hf (by rw [List.map_map]; exact g2)
                  have hpl' : (fs.mapM (m := Sem) fun f => do pure (f.offset, ← sizeOf f.type)).run c.P w' = .ok places.toArray w' := by
                    rw [Array.mapM_eq_mapM_toList]
                    simp only [Sem.run_map, places_sound hpl, Result.andThen_ok]
                  rw [ofVal_cells hzv, Array.toArray_toList] at hfill
                  simp only [Instr.build, Sem.run_bind, run_zeroValue hi hz, Result.andThen_ok, run_underlying hu, hpl', Array.toList_map, hfill, Sem.run_pure]
              · exact hs.elim
            · exact hs.elim
          · exact hs.elim
        · exact hs.elim
      · exact hs.elim
    · exact hs.elim
  · exact hs.elim

theorem zero_cells (zero : List Value) (hz : 0 < zero.length) : ∀ n, (List.range (n * zero.length)).map (fun q => zero.toArray[q % zero.length]!) = (List.replicate n zero).flatten
  | 0 => by simp
  | n + 1 => by
    rw [Nat.add_mul, Nat.one_mul, List.range_add, List.map_append, zero_cells zero hz n, List.replicate_succ', List.flatten_append]
    congr 1
    simp only [List.flatten_cons, List.flatten_nil, List.append_nil, List.map_map]
    apply List.ext_getElem?
    intro q
    by_cases hq : q < zero.length
    · rw [List.getElem?_map, List.getElem?_range hq]
      simp only [Option.map_some, Function.comp]
      rw [show (n * zero.length + q) % zero.length = q by rw [Nat.add_comm, Nat.add_mul_mod_self_right, Nat.mod_eq_of_lt hq]]
      rw [List.getElem?_eq_getElem hq]
      simp [hq]
    · rw [List.getElem?_eq_none (by simp; omega), List.getElem?_eq_none (by omega)]

theorem cellsDen_flat (e : Env) (cs : List SC) : ∀ n, cellsDen e (List.replicate n cs).flatten = (List.replicate n (cellsDen e cs)).flatten
  | 0 => rfl
  | n + 1 => by
    have := cellsDen_flat e cs n
    rw [cells_eq, cells_eq] at this ⊢
    simp only [List.replicate_succ, List.flatten_cons, List.map_append, this]

theorem buildSlice_sound (t : TypeId) (len : Nat) (parts : Array (Nat × Operand)) (ho : o.op = .buildSlice t len parts) (h : HOk c L e s a wb w) (hs : c.sat (symOp c.P ws o s k) L e wb) {Q : Exit → Act → World → Prop} {K : Act → World → Prop} (hK : Doing c L e s k K) :
    o.wp c.P a w K Q := by
  unfold symOp at hs
  rw [ho] at hs
  simp only at hs
  split at hs
  · rename_i el hu
    split at hs
    · rename_i i hi
      split at hs
      · rename_i zv hz
        split at hs
        · rename_i z hzv
          split at hs
          · rename_i ps hps
            split at hs
            · rename_i hc
              obtain ⟨hc1, hc2, hc3⟩ := hc
              split at hs
              · rename_i cs hf
                obtain ⟨hs1, hs2⟩ := oneCells_spec hs
                obtain ⟨g1, g2⟩ := parts_sound h hps hs2
                have hzc := fun e => ofVal_cells hzv e
                have hzl : zv.cells.size = i.size := by rw [← Array.length_toList, ← hzc e, cells_len, hc1]
                refine addBlock_sound (vs := cellsDen e cs) (v := fun j => .one (.slice (.blk j 0) (.lit len) (.lit len))) (x := fun b => .slice (some ⟨b, 0, none⟩) len len) h
                  (fun l => fill_same (n := 0) hf (by rw [cellsDen_flat, cellsDen_flat, hzc, hzc]) (g1 l)) hs1 (fun j s => rfl) (fun l b hb => by simp only [SV.den, SC.den, AE.den, NE.den, hb]) ?_ hK
                have hfill := fill_sound (fun q => some (q * i.size, i.size)) ((List.range len).map fun j => (j * i.size, i.size)) (fun q p hq => by
                  rw [nth_eq, List.getElem?_map] at hq
                  obtain ⟨j, hj, rfl⟩ := Option.map_eq_some_iff.1 hq
                  have := List.getElem?_eq_some_iff.1 hj
                  obtain ⟨h1, h2⟩ := this
                  rw [List.getElem_range] at h2
                  subst h2; rfl) ps (parts.toList.map fun p => (p.1, a.eval p.2)) (List.replicate len z.cells).flatten cs e hf (by rw [List.map_map]; exact g2)
                rw [cellsDen_flat, hzc, ← zero_cells _ (by rw [Array.length_toList]; omega)] at hfill
                unfold execOp
                rw [ho]
                have hsz : ¬ len * i.size > 2 ^ 24 := by omega
                have hz2 : (Array.range (len * i.size)).map (fun q => zv.cells[q % zv.cells.size]!) = ((List.range (len * zv.cells.toList.length)).map fun q => zv.cells.toList.toArray[q % zv.cells.toList.length]!).toArray := by
                  apply Array.ext'
                  simp [hzl, Array.toList_range]
                simp only [Instr.buildSlice, Sem.run_bind, run_underlying hu, Result.andThen_ok, run_sizeOf hi, hsz, if_false]
                by_cases hl0 : len * i.size = 0
                · have hlen : len = 0 := by
                    rcases Nat.mul_eq_zero.1 hl0 with h | h <;> omega
                  subst hlen
                  simp only [Nat.zero_mul, if_true, Sem.run_bind, Sem.run_pure, Result.andThen_ok, Array.toList_map]
                  have e0 : (Array.range 0).map (fun q => (#[] : Array Value)[q % (#[] : Array Value).size]!) = ((List.range (0 * zv.cells.toList.length)).map fun q => zv.cells.toList.toArray[q % zv.cells.toList.length]!).toArray := by
                    apply Array.ext'; simp
                  rw [e0, hfill]
                  simp only [newRow, newObj, Sem.run_bind, Sem.run, Result.andThen_ok, Sem.run_pure]
                  rfl
                · simp only [if_neg hl0, Sem.run_bind, run_zeroValue hi hz, Sem.run_pure, Result.andThen_ok, Array.toList_map]
                  rw [hz2, hfill]
                  simp only [newRow, newObj, Sem.run_bind, Sem.run, Result.andThen_ok, Sem.run_pure]
                  rfl
              · exact hs.elim
            · exact hs.elim
          · exact hs.elim
        · exact hs.elim
      · exact hs.elim
    · exact hs.elim
  · exact hs.elim

/-- One that another tells. -/
theorem leave_sound {r : RE} {t : TypeId} (h : HOk c L e s a wb w) (hs : c.sat (leave c.P r t o.dst s k) L e wb) (hex : ∀ w' v, (r.den e).run c.P w = .ok v w' → (execOp a.eval o).run c.P w = .ok (.value v) w')
    {Q : Exit → Act → World → Prop} {K : Act → World → Prop} (hK : Doing c L e s k K) : o.wp c.P a w K Q := by
  unfold leave at hs
  split at hs
  · rename_i v ks hf
    split at hs
    · rename_i hok
      obtain ⟨w', hw⟩ := h.world hs
      obtain ⟨l, hl, hr, ⟨hfr, hm⟩, hs⟩ := exs_spec hw
      have hle : s.n + ks.length ≤ (e ++ l).length := by rw [List.length_append, h.env, hl]; exact Nat.le_refl _
      have h3 : (∀ m D, s.lim = some (m, D) → Keep (e.N m) (e.L m ++ nsDen e D) w w') ∧ c.sat (k ((s.told ks.length).put o.dst (some v))) L (e ++ l) w' := by
        unfold owes at hs
        split at hs
        · rename_i hlim; exact ⟨fun m D hm => (by rw [hlim] at hm; cases hm), hs⟩
        · rename_i m D hlim; exact ⟨fun m' D' hm => (by rw [hlim] at hm; injection hm with hm; injection hm with hm1 hm2; subst hm1; subst hm2; exact hs.1), hs.2⟩
      unfold Oper.wp
      rw [hex w' _ hr]
      refine hK l _ _ w' _ ((h.told (l := l) hfr hm h3.1).put o.dst (v := v) (fun m => (okV_den m hle hok).symm)) (put_lim _ _ _) ?_
      rw [hl]
      exact h3.2
    · exact hs.elim
  · exact hs.elim
theorem hpDrop_get (q : List Nat) : ∀ {h : List (Nat × TypeId × List SC)} {j : Nat} {b : TypeId × List SC}, hpGet (hpDrop q h) j = some b → hpGet h j = some b ∨ memN q j = true
  | [], _, _, h => by cases h
  | (i, x) :: r, j, b, h => by
    unfold hpDrop at h
    obtain ⟨t, cs⟩ := x
    split at h
    · rename_i hm
      rcases hpDrop_get q h with h1 | h1
      · unfold hpGet
        by_cases hij : i = j
        · subst hij; exact .inr hm
        · rw [if_neg hij]; exact .inl h1
      · exact .inr h1
    · unfold hpGet at h ⊢
      by_cases hij : i = j
      · rw [if_pos hij] at h ⊢; exact .inl h
      · rw [if_neg hij] at h ⊢; exact hpDrop_get q h
theorem hpDrop_not (q : List Nat) : ∀ {h : List (Nat × TypeId × List SC)} {j : Nat} {b : TypeId × List SC}, hpGet (hpDrop q h) j = some b → memN q j = false
  | [], _, _, h => by cases h
  | (i, x) :: r, j, b, h => by
    unfold hpDrop at h
    obtain ⟨t, cs⟩ := x
    split at h
    · exact hpDrop_not q h
    · rename_i hm
      unfold hpGet at h
      by_cases hij : i = j
      · subst hij; simpa using hm
      · rw [if_neg hij] at h; exact hpDrop_not q h
theorem leaveD_sound {r : RE} {t : TypeId} (h : HOk c L e s a wb w) (hs : c.sat (leaveD c.P r t o.dst s k) L e wb) (hex : ∀ w' v, (r.den e).run c.P w = .ok v w' → (execOp a.eval o).run c.P w = .ok (.value v) w')
    {Q : Exit → Act → World → Prop} {K : Act → World → Prop} (hK : Doing c L e s k K) : o.wp c.P a w K Q := by
  unfold leaveD at hs
  split at hs
  · rename_i v ks hf
    split at hs
    · rename_i hok
      obtain ⟨w', hw⟩ := h.world hs
      obtain ⟨l, hl, hr, ⟨hfr, hm⟩, hs⟩ := exs_spec hw
      have hle : s.n + ks.length ≤ (e ++ l).length := by rw [List.length_append, h.env, hl]; exact Nat.le_refl _
      have h3 : (∀ m D, s.lim = some (m, D) → Keep (e.N m) (e.L m ++ nsDen e D) w w') ∧ c.sat (k ({ s.told ks.length with hp := hpDrop (leadsV r.vals) s.hp }.put o.dst (some v))) L (e ++ l) w' := by
        unfold owes at hs
        split at hs
        · rename_i hlim; exact ⟨fun m D hm => (by rw [hlim] at hm; cases hm), hs⟩
        · rename_i m D hlim; exact ⟨fun m' D' hm => (by rw [hlim] at hm; injection hm with hm; injection hm with hm1 hm2; subst hm1; subst hm2; exact hs.1), hs.2⟩
      unfold Oper.wp
      rw [hex w' _ hr]
      have h4 := h.told' (l := l) (hpDrop (leadsV r.vals) s.hp) hfr hm.1 (fun j t cs hg => by
        have hg0 : hpGet s.hp j = some (t, cs) := by
          rcases hpDrop_get _ hg with h5 | h5
          · exact h5
          · rw [hpDrop_not _ hg] at h5; cases h5
        refine ⟨⟨_, hg0⟩, fun m => ?_, fun m => h.one (l ++ m) j t cs hg0⟩
        have := h.hp (l ++ m) j t cs hg0
        rw [h.N _ hg0] at this
        rw [hm.2 _ (by rw [ns_eq]; exact List.mem_map_of_mem (hpGet_names hg)) (Array.getElem?_eq_some_iff.1 this).1, this]) h3.1
      refine hK l _ _ w' _ (h4.put o.dst (v := v) (fun m => (okV_den m hle hok).symm)) (put_lim _ _ _) ?_
      rw [hl]
      exact h3.2
    · exact hs.elim
  · exact hs.elim
end Go.Sx
