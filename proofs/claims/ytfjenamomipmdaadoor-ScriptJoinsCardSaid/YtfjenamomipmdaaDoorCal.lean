/- Calls that return; rows of one's own of things that know no memory; what appending to them leaves. (Program-free.) -/
import Derived.Test.YtfjenamomipmdaaDoorRun
set_option linter.unusedSimpArgs false
set_option linter.unusedVariables false
namespace Go.Trc
open Go Go.RowKit Go.Sx

/-- A call that comes to a value and turns nothing of what there was. -/
def Ret (v : Value) (w : World) (e : Ending) (w' : World) : Prop := e = .returned v ∧ Below w.heap.size w w'
theorem ret_leaf {w0 w1 : World} {u v : Value} (f : Fr (fun _ => False) w0 w1) (h : u = v) : Ret v w0 (.returned u) w1 := ⟨by rw [h], fr_below f⟩
theorem ok_ret {S : Nat → Prop} {w0 w w' : World} {bs : List Nat} (g : Below w.heap.size w w') (f : Fr S w0 w) : Fr S w0 w' ∧ Mild bs w w' := ok_below f g

/-- What stands for such a thing stands so in any memory. -/
class Flat (α : Type) [Rep α] : Prop where
  flat : ∀ {w w' : World} {ok ok' : Nat → Prop} {x : α} {cs : List Value}, Rep.K w ok x cs → Rep.K w' ok' x cs
instance : Flat UInt8 := ⟨fun h => h⟩
instance : Flat Int := ⟨fun h => h⟩

/-- The block that an append to v may write. -/
def tail (v : Value) : Option Nat := match v with
  | .slice (some a) n c => if n = c then none else some a.block
  | _ => none
theorem tail_own (v : Value) : tail v = none ∨ tail v = v.ownBlock := by
  unfold tail Value.ownBlock
  split
  · split
    · exact .inl rfl
    · exact .inr rfl
  · exact .inl rfl

abbrev OwnF {α : Type} [Rep α] (w : World) (base : Nat) (e : TypeId) (v : Value) (xs : List α) : Prop := Own w base e (fun _ => False) v xs

theorem OwnF.keep {α : Type} [Rep α] {w w' : World} {base : Nat} {e : TypeId} {v : Value} {xs : List α} {row : Option Nat} (h : OwnF w base e v xs) (hg : w.grownBy w' row)
    (hne : v.ownBlock = none ∨ v.ownBlock ≠ row) : OwnF w' base e v xs := h.mono hg hne fun _ h => h.elim
theorem OwnF.to {α : Type} [Rep α] [Flat α] {w : World} {base : Nat} {e : TypeId} {v : Value} {xs : List α} (h : OwnF w base e v xs) {ok : Nat → Prop} (hok : ∀ b, base ≤ b → ok b) : Sl w ok v xs :=
  Own.sl h ok hok fun _ _ => Flat.flat
theorem OwnF.base' {α : Type} [Rep α] {w : World} {base base' : Nat} {e : TypeId} {v : Value} {xs : List α} (h : OwnF w base e v xs) (hb : ∀ k, v.ownBlock = some k → base' ≤ k) : OwnF w base' e v xs := by
  obtain ⟨cs, ⟨h1, h2⟩, h3⟩ := h
  refine ⟨cs, ⟨h1, ?_⟩, h3⟩
  rcases h2 with h2 | ⟨g, cap, cur, hv, hb0, hr⟩
  · exact .inl h2
  · exact .inr ⟨g, cap, cur, hv, hb g (by rw [hv]; rfl), hr⟩

/-- A row laid at once. -/
theorem OwnF.laid {α : Type} [Rep α] {w : World} {base g : Nat} {e : TypeId} {xs : List α} (cs : List Value) (n : Nat) (hn : n = xs.length) (hb : base ≤ g) (hg : w.heap[g]? = some (.cells cs.toArray e (0, 0)))
    (hl : cs.length = n * Rep.sz α) (hm : n ≤ maxLen) (h1 : ∀ u ∈ cs, u.oneCell' = true) (hK : ∀ j (hj : j < xs.length), Rep.K w (fun _ => False) xs[j] ((cs.drop (j * Rep.sz α)).take (Rep.sz α))) :
    OwnF w base e (.slice (some ⟨g, 0, none⟩) n n) xs := by
  subst hn
  exact ⟨cs, ⟨hl, .inr ⟨g, _, _, rfl, hb, hg, Nat.le_refl _, hm, by simpa using hl, by rw [← hl]; simp⟩⟩, h1, hK⟩
theorem OwnF.bytes {w : World} {base g : Nat} {e : TypeId} (xs : List UInt8) (n : Nat) (hn : n = xs.length) (hb : base ≤ g) (hg : w.heap[g]? = some (.cells (xs.map fun x => Value.int .u8 (x.toNat : Int)).toArray e (0, 0))) (hm : n ≤ maxLen) :
    OwnF w base e (.slice (some ⟨g, 0, none⟩) n n) xs := by
  refine OwnF.laid _ n hn hb hg (by show _ = n * 1; simp [hn]) hm (fun u hu => ?_) (fun j hj => ?_)
  · obtain ⟨x, _, rfl⟩ := List.mem_map.1 hu; rfl
  · show ((List.map (fun x => Value.int .u8 (x.toNat : Int)) xs).drop (j * 1)).take 1 = _
    rw [Nat.mul_one, List.drop_eq_getElem_cons (by simpa using hj)]
    simp

/-- 'append(v, ys...)', v one's own. -/
theorem own_append' {α : Type} [Rep α] [Flat α] {P : Program} {w : World} (base : Nat) (t ty e : TypeId) (i : TypeInfo) (z : Value) (bytes : Nat)
    (ht : P.underlying t = some (.slice e)) (hi : P.info? e = some i) (hz : i.zero = some z) (hsize : i.size = Rep.sz α) (hby : i.bytes = bytes) (hzs : z.cells.size = Rep.sz α)
    {ok2 : Nat → Prop} {v v2 : Value} {xs ys : List α} (h : OwnF w base e v xs) (h2 : Arg w ok2 v2 ys)
    (hbase : base ≤ w.heap.size) (hbytes : (xs.length + ys.length) * bytes ≤ 140737488355328) (hlen : xs.length + ys.length ≤ 9223372036854775807) :
    ∃ v' w', (Builtin.append_ #[t, t] ty #[v, v2]).run P w = .ok v' w' ∧ OwnF w' base e v' (xs ++ ys) ∧ w.grownBy w' (tail v) ∧
      ∀ k, tail v' = some k → some k = tail v ∨ k = w.heap.size := by
  obtain ⟨v', w', hr, g1, g2, g3⟩ := own_append base t ty e i z bytes ht hi hz hsize hby hzs h h2 (fun _ h => h.elim) (fun _ _ => Flat.flat) hbase hbytes hlen
  refine ⟨v', w', hr, g1, ?_⟩
  rcases tail_own v with h0 | h0
  · rw [h0]
    obtain ⟨A, c, rfl, hA⟩ := h.slice
    by_cases hy : 0 < ys.length
    · have hsl := h.to (ok := fun _ => True) fun _ _ => trivial
      have hc : c = xs.length := by
        rcases A with _ | a
        · obtain ⟨A', c', he, q1, q2, q3, q4⟩ := hsl
          injection he with e1 e2 e3
          subst e1; subst e3
          have := q3 rfl
          omega
        · unfold tail at h0
          simp only at h0
          split at h0
          · omega
          · cases h0
      subst hc
      obtain ⟨v2', w2', hr2, -, q2, q3⟩ := append_full (P := P) (ok' := fun _ => True) t ty e i z bytes ht hi hz hsize hby hzs hsl h2 (.inr hy) trivial (fun _ _ => Flat.flat) (fun _ _ => Flat.flat) hbytes hlen
      rw [hr] at hr2
      injection hr2 with e1 e2
      subst e2
      subst e1
      refine ⟨grown_of_below q2 none, fun k hk => .inr ?_⟩
      rcases tail_own v' with h5 | h5
      · rw [h5] at hk; cases hk
      · rw [h5, (q3 hy).1] at hk
        injection hk with hk
        exact hk.symm
    · have hy0 : ys.length = 0 := by omega
      obtain rfl : ys = [] := List.eq_nil_of_length_eq_zero hy0
      obtain ⟨A2, c2, rfl, b4⟩ := h2
      have hc : xs.length ≤ c := by
        obtain ⟨cs, h1, _, _⟩ := h
        rcases h1.2 with ⟨he, hn⟩ | ⟨g, cap, cur, he, hb, hg, hnc, _⟩
        · injection he with _ e2 e3; omega
        · injection he with _ e2 e3; omega
      have := run_append_none (P := P) (w := w) t ty e i ht hi A _ _ hc A2 c2
      rw [show ([] : List α).length = 0 from rfl] at hr
      rw [this] at hr
      injection hr with e1 e2
      subst e2
      subst e1
      exact ⟨World.grownBy.refl _ _, fun k hk => by rw [h0] at hk; cases hk⟩
  · rw [h0]
    refine ⟨g2, fun k hk => ?_⟩
    rcases tail_own v' with h5 | h5
    · rw [h5] at hk; cases hk
    · rw [h5] at hk
      rcases g3 with h6 | h6
      · exact .inl (by rw [← h6, hk])
      · rw [h6] at hk; injection hk with hk; exact .inr hk.symm

/-- What such steps leave of the rest. -/
theorem grown_fr {w w' : World} {row : Option Nat} {B : Nat} {w0 : World} (g : w.grownBy w' row) (f : Fr (fun _ => False) w0 w) (hr : ∀ k, row = some k → w0.heap.size ≤ k) : Fr (fun _ => False) w0 w' :=
  ⟨g.os.trans f.os, g.tape.trans f.tape, g.output.trans f.output, Nat.le_trans f.size g.size, fun k hk hn => (g.block k (Nat.lt_of_lt_of_le hk f.size) fun h => absurd (hr k h.symm) (by omega)).trans (f.block k hk hn)⟩
theorem grown_mild {w w' : World} {row : Option Nat} {bs : List Nat} (g : w.grownBy w' row) (hr : ∀ b ∈ bs, some b ≠ row) : Mild bs w w' := ⟨g.size, fun b hb hl => g.block b hl (hr b hb)⟩
theorem heap_lt {w : World} {g : Nat} {o : Obj} (h : w.heap[g]? = some o) : g < w.heap.size := (Array.getElem?_eq_some_iff.1 h).1
/-- A function value is called. -/
theorem callv_ok {P : Program} {f : FuncId} (h : calleeOk P f = true) (cap args : Array Value) (w : World) :
    (do Go.invoke (← Deferred.ofValue (.func (.func f) #[] cap) args).target (← Deferred.ofValue (.func (.func f) #[] cap) args).args : Sem Next).run P w = .ok (.enter f (args ++ cap)) w := by
  show (invoke (.fn (.func f) cap) (#[] ++ args)).run P w = _
  simp only [invoke, Array.empty_append]
  exact callee_run h _ w

/-! ### A row of one's own, on its way through a function's run -/
/-- Of a run that began at w0 and may write block S0: v is one's own, reads as xs, and none of the blocks G that have names are written by what is appended to it. -/
structure Rw {α : Type} [Rep α] (S0 : Option Nat) (w0 : World) (base : Nat) (e : TypeId) (w : World) (v : Value) (xs : List α) (G : List Nat) : Prop where
  own : OwnF w base e v xs
  fr : Fr (fun b => some b = S0) w0 w
  blk : ∀ k, tail v = some k → (some k = S0 ∨ w0.heap.size ≤ k) ∧ k ∉ G
  names : ∀ g ∈ G, g < w.heap.size
  le : base ≤ w0.heap.size

theorem tail_lt {α : Type} [Rep α] {w : World} {base : Nat} {e : TypeId} {v : Value} {xs : List α} (h : OwnF w base e v xs) {k : Nat} (hk : tail v = some k) : k < w.heap.size := by
  rcases tail_own v with h0 | h0
  · rw [h0] at hk; cases hk
  · rw [h0] at hk; exact (h.lt k hk).2

/-- More names, further on. -/
theorem Rw.on {α : Type} [Rep α] {S0 : Option Nat} {w0 w w1 : World} {base : Nat} {e : TypeId} {v : Value} {xs : List α} {G : List Nat} (h : Rw S0 w0 base e w v xs G) (b : Below w.heap.size w w1) (N : List Nat)
    (hN : ∀ g ∈ N, w.heap.size ≤ g ∧ g < w1.heap.size) : Rw S0 w0 base e w1 v xs (N ++ G) where
  own := h.own.below b
  fr := h.fr.step b
  blk k hk := ⟨(h.blk k hk).1, fun hm => by
    rcases List.mem_append.1 hm with hm | hm
    · have := (hN k hm).1; have := tail_lt h.own hk; omega
    · exact (h.blk k hk).2 hm⟩
  names g hm := by
    rcases List.mem_append.1 hm with hm | hm
    · exact (hN g hm).2
    · exact Nat.lt_of_lt_of_le (h.names g hm) b.size
  le := h.le
theorem Rw.below {α : Type} [Rep α] {S0 : Option Nat} {w0 w w1 : World} {base : Nat} {e : TypeId} {v : Value} {xs : List α} {G : List Nat} (h : Rw S0 w0 base e w v xs G) (b : Below w.heap.size w w1) : Rw S0 w0 base e w1 v xs G := by
  have := h.on b [] (fun _ h => by cases h)
  exact this

/-- What a call with v, one's own, comes to: another such. -/
def Grew {α : Type} [Rep α] (base : Nat) (e : TypeId) (w : World) (v : Value) (ys : List α) (en : Ending) (w' : World) : Prop :=
  ∃ v', en = .returned v' ∧ OwnF w' base e v' ys ∧ w.grownBy w' (tail v) ∧ ∀ k, tail v' = some k → some k = tail v ∨ w.heap.size ≤ k

theorem Rw.grew {α : Type} [Rep α] {S0 : Option Nat} {w0 w w' : World} {base : Nat} {e : TypeId} {v v' : Value} {xs ys : List α} {G : List Nat} (h : Rw S0 w0 base e w v xs G)
    (g1 : OwnF w' base e v' ys) (g2 : w.grownBy w' (tail v)) (g3 : ∀ k, tail v' = some k → some k = tail v ∨ w.heap.size ≤ k) : (Fr (fun b => some b = S0) w0 w' ∧ Mild G w w') ∧ Rw S0 w0 base e w' v' ys G := by
  have f : Fr (fun b => some b = S0) w0 w' := ⟨g2.os.trans h.fr.os, g2.tape.trans h.fr.tape, g2.output.trans h.fr.output, Nat.le_trans h.fr.size g2.size, fun k hk hn => by
    rw [g2.block k (Nat.lt_of_lt_of_le hk h.fr.size) (fun hh => by
      rcases (h.blk k hh.symm).1 with h5 | h5
      · exact hn h5
      · omega)]
    exact h.fr.block k hk hn⟩
  refine ⟨⟨f, grown_mild g2 fun b hb hh => (h.blk b hh.symm).2 hb⟩, ⟨g1, f, fun k hk => ?_, fun g hg => Nat.lt_of_lt_of_le (h.names g hg) g2.size, h.le⟩⟩
  rcases g3 k hk with h5 | h5
  · exact h.blk k h5.symm
  · exact ⟨.inr (Nat.le_trans h.fr.size h5), fun hm => by have := h.names k hm; omega⟩
/-- The whole run comes to v. -/
theorem Rw.done {α : Type} [Rep α] {w0 w : World} {base : Nat} {e : TypeId} {v u : Value} {xs : List α} {G : List Nat} (h : Rw (tail u) w0 base e w v xs G) : Grew base e w0 u xs (.returned v) w :=
  ⟨v, rfl, h.own, ⟨h.fr.os, h.fr.tape, h.fr.output, h.fr.size, fun k hk hn => h.fr.block k hk hn⟩, fun k hk => (h.blk k hk).1⟩
/-- .. append. -/
theorem Rw.append {α : Type} [Rep α] [Flat α] {P : Program} {S0 : Option Nat} {w0 w : World} {base : Nat} {e : TypeId} {v v2 : Value} {xs ys : List α} {G : List Nat} (h : Rw S0 w0 base e w v xs G)
    (t ty : TypeId) (z : Value) (bytes : Nat) (ht : P.underlying t = some (.slice e)) (hinfo : (P.info? e).map (fun i => (i.zero, i.size, i.bytes)) = some (some z, Rep.sz α, bytes)) (hzs : z.cells.size = Rep.sz α)
    {ok2 : Nat → Prop} (h2 : Arg w ok2 v2 ys) (hbytes : (xs.length + ys.length) * bytes ≤ 140737488355328) (hlen : xs.length + ys.length ≤ 9223372036854775807) :
    ∃ w' A n c, (Builtin.append_ #[t, t] ty #[v, v2]).run P w = .ok (.slice A n c) w' ∧ (Fr (fun b => some b = S0) w0 w' ∧ Mild G w w') ∧ Rw S0 w0 base e w' (.slice A n c) (xs ++ ys) G := by
  obtain ⟨i, hi, hz, hsz, hby⟩ := info_parts hinfo
  obtain ⟨v', w', hr, g1, g2, g3⟩ := own_append' base t ty e i z bytes ht hi hz hsz hby hzs h.own h2 (Nat.le_trans h.le h.fr.size) hbytes hlen
  obtain ⟨A, c, rfl, _⟩ := g1.slice
  obtain ⟨m, r⟩ := h.grew g1 g2 fun k hk => (g3 k hk).imp id fun h => by omega
  exact ⟨w', A, _, c, hr, m, r⟩

/-- A byte of one's own row is set. -/
theorem own_set_byte {P : Program} {w : World} {base : Nat} {e t : TypeId} {n c g : Nat} {ys : List UInt8} {i : TypeInfo} (hi : P.info? t = some i) (hsz : i.size = 1)
    (h : OwnF w base e (.slice (some ⟨g, 0, none⟩) n c) ys) (k : Nat) (hk : k < ys.length) (b : UInt8) :
    ∃ w', (Instr.storeAt t (.pointer (some ⟨g, k, none⟩)) (.int .u8 (b.toNat : Int))).run P w = .ok () w' ∧ OwnF w' base e (.slice (some ⟨g, 0, none⟩) n c) (ys.set k b) ∧ w.grownBy w' (some g) := by
  obtain ⟨cs, ⟨hl, hr⟩, ho, hK⟩ := h
  have hl : cs.length = ys.length := by rw [hl]; exact Nat.mul_one _
  rcases hr with ⟨hv, _⟩ | ⟨g', cap, cur, hv, hb, hg, hnc, hcm, hcs, htake⟩
  · cases hv
  · injection hv with e1 e2 e3
    injection e1 with e1
    injection e1 with e1
    subst e1; subst e2; subst e3
    have hcs : cur.size = c := by rw [hcs]; exact Nat.mul_one _
    have htake : cur.toList.take ys.length = cs := by rw [← htake]; congr 1; exact (Nat.mul_one _).symm
    have hrun := run_storeCells_at (P := P) g k e [.int .u8 (b.toNat : Int)] 0 cur w hg (by simp; omega) (by simp [Value.oneCell'])
    have hset : cur.toList.take k ++ [Value.int .u8 (b.toNat : Int)] ++ cur.toList.drop (k + 1) = cur.toList.set k (.int .u8 (b.toNat : Int)) := by
      rw [List.set_eq_take_append_cons_drop, if_pos (by simp; omega)]
      simp
    refine ⟨w.setRow g (cur.toList.set k (.int .u8 (b.toNat : Int))).toArray, ?_, ⟨cs.set k (.int .u8 (b.toNat : Int)), ⟨?_, .inr ⟨g, c, _, ?_, hb, setRow_heap w g cur _ e (0, 0) hg, by simpa using hnc, hcm, ?_, ?_⟩⟩, ?_, ?_⟩, ⟨rfl, rfl, rfl, by simp, fun j _ hne => setRow_other w g j _ (fun h => hne (by rw [h]))⟩⟩
    · simp only [Instr.storeAt, Instr.sureAddr, Sem.run_bind, Sem.run_pure, Result.andThen_ok, storeVar, Value.cells, Go.Sx.run_sizeOf hi, hsz]
      simp only [List.length_singleton, Nat.add_zero] at hrun
      rw [hset] at hrun
      simpa using hrun
    · rw [List.length_set, List.length_set, hl]; exact (Nat.mul_one _).symm
    · rw [List.length_set]
    · show _ = c * 1
      simp [hcs]
    · rw [List.length_set]
      show List.take (ys.length * 1) _ = _
      rw [Nat.mul_one, ← htake]
      exact List.take_set ..
    · intro u hu
      rcases List.mem_or_eq_of_mem_set hu with hu | hu
      · exact ho u hu
      · rw [hu]; rfl
    · intro j hj
      rw [List.length_set] at hj
      have h0 := hK j hj
      show ((cs.set k _).drop (j * 1)).take 1 = _
      have h0' : (cs.drop (j * 1)).take 1 = [.int .u8 (ys[j].toNat : Int)] := h0
      rw [Nat.mul_one] at h0' ⊢
      rw [List.drop_eq_getElem_cons (by rw [List.length_set]; omega)]
      rw [List.drop_eq_getElem_cons (by omega)] at h0'
      simp only [List.take_succ_cons, List.take_zero, List.getElem_set] at h0' ⊢
      by_cases hkj : k = j
      · rw [if_pos hkj, if_pos hkj]
      · rw [if_neg hkj, if_neg hkj]
        exact h0'
theorem fr_grown {w w' : World} {row : Option Nat} (g : w.grownBy w' row) : Fr (fun b => some b = row) w w' := ⟨g.os, g.tape, g.output, g.size, fun k hk hn => g.block k hk hn⟩
theorem mild_nil {w w' : World} (h : w.heap.size ≤ w'.heap.size) : Mild [] w w' := ⟨h, fun b hb => by cases hb⟩
theorem below_of_grown {w w' : World} (g : w.grownBy w' none) : Below w.heap.size w w' := ⟨g.os, g.tape, g.output, g.size, fun k hk => g.block k hk (fun h => by cases h)⟩
theorem fr_none {w w' : World} (f : Fr (fun b => some b = none) w w') : Fr (fun _ => False) w w' := f.mono fun _ _ h => by cases h
theorem none_fr {w w' : World} (f : Fr (fun _ => False) w w') : Fr (fun b => some b = none) w w' := f.mono fun _ _ h => h.elim
theorem tail_full (a : Option Addr) (n : Nat) : tail (.slice a n n) = none := by unfold tail; cases a <;> simp

/-- Another row is written. -/
theorem Rw.other {α : Type} [Rep α] {S0 : Option Nat} {w0 w w' : World} {base g : Nat} {e : TypeId} {v : Value} {xs : List α} {G : List Nat} (h : Rw S0 w0 base e w v xs G) (hg : w.grownBy w' (some g))
    (h0 : w0.heap.size ≤ g) (hv : v.ownBlock ≠ some g) (hG : g ∉ G) : (Fr (fun b => some b = S0) w0 w' ∧ Mild G w w') ∧ Rw S0 w0 base e w' v xs G := by
  have f : Fr (fun b => some b = S0) w0 w' := ⟨hg.os.trans h.fr.os, hg.tape.trans h.fr.tape, hg.output.trans h.fr.output, Nat.le_trans h.fr.size hg.size, fun k hk hn => by
    rw [hg.block k (Nat.lt_of_lt_of_le hk h.fr.size) (fun hh => by injection hh with hh; omega)]
    exact h.fr.block k hk hn⟩
  exact ⟨⟨f, grown_mild hg fun b hb hh => by injection hh with hh; subst hh; exact hG hb⟩, ⟨h.own.keep hg (.inr hv), f, h.blk, fun g hm => Nat.lt_of_lt_of_le (h.names g hm) hg.size, h.le⟩⟩
theorem keep_of {w0 w w' : World} (f : Fr (fun b => some b = none) w0 w) (g : Fr (fun b => some b = none) w0 w') : Keep w0.heap.size [] w w' := fun k hk _ =>
  (g.block k hk (fun h => by cases h)).trans (f.block k hk (fun h => by cases h)).symm

/-- An append, with all that is known of it. -/
theorem Rw.append2 {α : Type} [Rep α] [Flat α] {P : Program} {S0 : Option Nat} {w0 w : World} {base : Nat} {e : TypeId} {v v2 : Value} {xs ys : List α} {G : List Nat} (h : Rw S0 w0 base e w v xs G)
    (t ty : TypeId) (z : Value) (bytes : Nat) (ht : P.underlying t = some (.slice e)) (hinfo : (P.info? e).map (fun i => (i.zero, i.size, i.bytes)) = some (some z, Rep.sz α, bytes)) (hzs : z.cells.size = Rep.sz α)
    {ok2 : Nat → Prop} (h2 : Arg w ok2 v2 ys) (hbytes : (xs.length + ys.length) * bytes ≤ 140737488355328) (hlen : xs.length + ys.length ≤ 9223372036854775807) :
    ∃ w' A n c, (Builtin.append_ #[t, t] ty #[v, v2]).run P w = .ok (.slice A n c) w' ∧ (Fr (fun b => some b = S0) w0 w' ∧ Mild G w w') ∧ Rw S0 w0 base e w' (.slice A n c) (xs ++ ys) G ∧ w.grownBy w' (tail v) ∧
      (∀ k, (Value.slice A n c).ownBlock = some k → v.ownBlock = some k ∨ k = w.heap.size) ∧ ∀ k, tail (Value.slice A n c) = some k → tail v = some k ∨ k = w.heap.size := by
  obtain ⟨w', A, n, c, hr, m, r⟩ := h.append t ty z bytes ht hinfo hzs h2 hbytes hlen
  obtain ⟨i, hi, hz, hsz, hby⟩ := info_parts hinfo
  obtain ⟨v', w'', hr', g1, g2, g3⟩ := own_append' base t ty e i z bytes ht hi hz hsz hby hzs h.own h2 (Nat.le_trans h.le h.fr.size) hbytes hlen
  rw [hr] at hr'
  injection hr' with e1 e2
  subst e1; subst e2
  obtain ⟨v', w'', hr', -, -, q3⟩ := own_append base t ty e i z bytes ht hi hz hsz hby hzs h.own h2 (fun _ h => h.elim) (fun _ _ => Flat.flat) (Nat.le_trans h.le h.fr.size) hbytes hlen
  rw [hr] at hr'
  injection hr' with e1 e2
  subst e1; subst e2
  refine ⟨w', A, n, c, hr, m, r, g2, fun k hk => ?_, fun k hk => (g3 k hk).imp (fun h => h.symm) id⟩
  rcases q3 with h5 | h5
  · exact .inl (by rw [← h5]; exact hk)
  · rw [h5] at hk; injection hk with hk; exact .inr hk.symm
/-- Another row may grow. -/
theorem Rw.aside {α : Type} [Rep α] {S0 : Option Nat} {w0 w w' : World} {base : Nat} {e : TypeId} {v : Value} {xs : List α} {G : List Nat} {row : Option Nat} (h : Rw S0 w0 base e w v xs G) (hg : w.grownBy w' row)
    (hr : ∀ k, row = some k → w0.heap.size ≤ k ∧ v.ownBlock ≠ some k ∧ k ∉ G) : Rw S0 w0 base e w' v xs G := by
  cases row with
  | none => exact h.below (below_of_grown hg)
  | some k => obtain ⟨a, b, c⟩ := hr k rfl; exact (h.other hg a b c).2
end Go.Trc
