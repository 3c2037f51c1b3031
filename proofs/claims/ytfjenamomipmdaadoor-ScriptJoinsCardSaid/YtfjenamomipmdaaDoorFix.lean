/- Rows of things whose cells know no memory: laid at once, looked at, kept. (Program-free.) -/
import Derived.Test.YtfjenamomipmdaaDoorCal
import Derived.Test.YtfjenamomipmdaaDoorStruct
set_option linter.unusedSimpArgs false
set_option linter.unusedVariables false
namespace Go.Trc
open Go Go.RowKit Go.Sx

/-- Its cells are told by it alone. -/
class Fixed (α : Type) [Rep α] where
  cells : α → List Value
  wf : α → Prop
  iff : ∀ {w : World} {ok : Nat → Prop} {x : α} {cs : List Value}, Rep.K w ok x cs ↔ cs = cells x ∧ wf x
instance {α : Type} [Rep α] [Fixed α] : Flat α := ⟨fun h => Fixed.iff.2 (Fixed.iff.1 h)⟩
instance : Fixed UInt8 := ⟨fun x => [.int .u8 (x.toNat : Int)], fun _ => True, ⟨fun h => ⟨h, trivial⟩, fun h => h.1⟩⟩
instance : Fixed Int := ⟨fun x => [.int .i64 x], fun x => -9223372036854775808 ≤ x ∧ x ≤ 9223372036854775807, ⟨fun h => h, fun h => h⟩⟩
instance : Fixed Bool := ⟨fun x => [.bool x], fun _ => True, ⟨fun h => ⟨h, trivial⟩, fun h => h.1⟩⟩
instance : Fixed ByteArray := ⟨fun x => [.string x], fun x => x.size ≤ maxLen, ⟨fun h => h, fun h => h⟩⟩
instance {α β : Type} [Rep α] [Rep β] [Fixed α] [Fixed β] : Fixed (α × β) where
  cells x := Fixed.cells x.1 ++ Fixed.cells x.2
  wf x := Fixed.wf x.1 ∧ Fixed.wf x.2
  iff := by
    intro w ok x cs
    constructor
    · rintro ⟨c1, c2, rfl, h1, h2⟩
      obtain ⟨rfl, k1⟩ := Fixed.iff.1 h1
      obtain ⟨rfl, k2⟩ := Fixed.iff.1 h2
      exact ⟨rfl, k1, k2⟩
    · rintro ⟨rfl, k1, k2⟩
      exact ⟨_, _, rfl, Fixed.iff.2 ⟨rfl, k1⟩, Fixed.iff.2 ⟨rfl, k2⟩⟩
theorem Fixed.len {α : Type} [Rep α] [Fixed α] {x : α} (h : Fixed.wf x) : (Fixed.cells x).length = Rep.sz α := Rep.len (w := default) (ok := fun _ => True) (Fixed.iff.2 ⟨rfl, h⟩)
theorem Fixed.K {α : Type} [Rep α] [Fixed α] {w : World} {ok : Nat → Prop} {x : α} (h : Fixed.wf x) : Rep.K w ok x (Fixed.cells x) := Fixed.iff.2 ⟨rfl, h⟩

theorem flat_at {α : Type} [Rep α] [Fixed α] : ∀ (xs : List α) (_ : ∀ x ∈ xs, Fixed.wf x) (j : Nat) (hj : j < xs.length), ((xs.flatMap Fixed.cells).drop (j * Rep.sz α)).take (Rep.sz α) = Fixed.cells xs[j]
  | [], _, j, hj => absurd hj (by simp)
  | x :: xs, h, 0, _ => by
    have hl := Fixed.len (h x (by simp))
    rw [Nat.zero_mul, List.drop_zero, List.flatMap_cons, ← hl, List.take_left]
    rfl
  | x :: xs, h, j + 1, hj => by
    have hl := Fixed.len (h x (by simp))
    rw [List.flatMap_cons, Nat.add_mul, Nat.one_mul, Nat.add_comm, ← List.drop_drop]
    have : List.drop (Rep.sz α) (Fixed.cells x ++ List.flatMap Fixed.cells xs) = List.flatMap Fixed.cells xs := by rw [← hl, List.drop_left]
    rw [this, flat_at xs (fun y hy => h y (List.mem_cons_of_mem _ hy)) j (by simpa using hj)]
    rfl
theorem flat_len {α : Type} [Rep α] [Fixed α] : ∀ (xs : List α) (_ : ∀ x ∈ xs, Fixed.wf x), (xs.flatMap Fixed.cells).length = xs.length * Rep.sz α
  | [], _ => by simp
  | x :: xs, h => by
    rw [List.flatMap_cons, List.length_append, Fixed.len (h x (by simp)), flat_len xs fun y hy => h y (List.mem_cons_of_mem _ hy), List.length_cons, Nat.add_mul, Nat.one_mul, Nat.add_comm]
theorem flat_one {α : Type} [Rep α] [Fixed α] {xs : List α} (h : ∀ x ∈ xs, Fixed.wf x) : ∀ u ∈ xs.flatMap Fixed.cells, u.oneCell' = true := fun u hu => by
  obtain ⟨x, hx, hu⟩ := List.mem_flatMap.1 hu
  exact Rep.one (w := default) (ok := fun _ => True) (Fixed.iff.2 ⟨rfl, h x hx⟩) u hu

/-- Laid at once. -/
theorem OwnF.cells {α : Type} [Rep α] [Fixed α] {w : World} {base g : Nat} {e : TypeId} (xs : List α) (n : Nat) (hn : n = xs.length) (hb : base ≤ g) (hg : w.heap[g]? = some (.cells (xs.flatMap Fixed.cells).toArray e (0, 0)))
    (hm : n ≤ maxLen) (hw : ∀ x ∈ xs, Fixed.wf x) : OwnF w base e (.slice (some ⟨g, 0, none⟩) n n) xs := by
  subst hn
  exact OwnF.laid _ _ rfl hb hg (flat_len xs hw) hm (flat_one hw) fun j hj => by rw [flat_at xs hw j hj]; exact Fixed.K (hw _ (List.getElem_mem hj))
theorem arg_cells {α : Type} [Rep α] [Fixed α] {w : World} {g : Nat} {e : TypeId} (xs : List α) (n : Nat) (hn : n = xs.length) (hg : w.heap[g]? = some (.cells (xs.flatMap Fixed.cells).toArray e (0, 0)))
    (hm : n ≤ maxLen) (hw : ∀ x ∈ xs, Fixed.wf x) : Arg w (fun _ => True) (.slice (some ⟨g, 0, none⟩) n n) xs := ((OwnF.cells xs n hn (Nat.zero_le g) hg hm hw).to (ok := fun _ => True) fun _ _ => trivial).arg
/-- One of them. -/
theorem Sl.cells {α : Type} [Rep α] [Fixed α] {w : World} {ok : Nat → Prop} {A : Option Addr} {n c : Nat} {xs : List α} (h : Sl w ok (.slice A n c) xs) (k : Nat) (hk : k < xs.length) :
    ∃ b o, A = some ⟨b, o, none⟩ ∧ ok b ∧ b < w.heap.size ∧ Fixed.wf xs[k] ∧ CellsAt w b (o + k * Rep.sz α + 0) (Fixed.cells xs[k]) := by
  obtain ⟨b, o, hA, hb, cs, hK, hc⟩ := h.elem k hk
  obtain ⟨rfl, hw⟩ := Fixed.iff.1 hK
  obtain ⟨b', o', hA', -, hc'⟩ := h.at_ (by omega)
  rw [hA] at hA'
  injection hA' with e1; injection e1 with e1 e2; subst e1
  exact ⟨b, o, hA, hb, hc'.lt (by omega), hw, hc⟩
theorem Sl.wf {α : Type} [Rep α] [Fixed α] {w : World} {ok : Nat → Prop} {v : Value} {xs : List α} (h : Sl w ok v xs) : ∀ x ∈ xs, Fixed.wf x := fun x hx => by
  obtain ⟨k, hk, rfl⟩ := List.mem_iff_getElem.1 hx
  obtain ⟨A, c, rfl, _⟩ := id h
  exact (Sl.cells h k hk).choose_spec.choose_spec.2.2.2.1
/-- .. at a place whose block and offset are known. -/
theorem Sl.at_k {α : Type} [Rep α] [Fixed α] {w : World} {ok : Nat → Prop} {b o n c : Nat} {xs : List α} (h : Sl w ok (.slice (some ⟨b, o, none⟩) n c) xs) (k : Nat) (hk : k < xs.length) :
    CellsAt w b (o + k * Rep.sz α + 0) (Fixed.cells xs[k]) := by
  obtain ⟨b', o', hA, _, _, _, hc⟩ := h.cells k hk
  injection hA with e1; injection e1 with e1 e2; subst e1; subst e2
  exact hc
theorem Sl.any {α : Type} [Rep α] {w : World} {ok : Nat → Prop} {v : Value} {xs : List α} (h : Sl w ok v xs) : Sl w (fun _ => True) v xs := h.weaken fun _ _ _ => trivial
theorem Sl.here {α : Type} [Rep α] {w : World} {ok : Nat → Prop} {v : Value} {xs : List α} (h : Sl w ok v xs) : Sl w (fun b => b < w.heap.size) v xs := h.bound.weaken fun _ h _ => h.2
/-- What lies below where a call began, it leaves. -/
theorem Sl.same {α : Type} [Rep α] {w w1 w2 : World} {v : Value} {xs : List α} (h : Sl w1 (fun b => b < w.heap.size) v xs) (f1 : Fr (fun _ => False) w w1) (f2 : Fr (fun _ => False) w w2) : Sl w2 (fun b => b < w.heap.size) v xs :=
  h.mono fun b hb _ => ⟨hb, (f2.block b hb (fun h => h)).trans (f1.block b hb (fun h => h)).symm⟩
theorem Sl.kept {α : Type} [Rep α] {w w1 w' : World} {ok : Nat → Prop} {v : Value} {xs : List α} (h : Sl w ok v xs) (b : Below w.heap.size w w1) (k : Keep w.heap.size [] w1 w') : Sl w' ok v xs :=
  h.mono fun b' hb hl => ⟨hb, (k b' hl (by simp)).trans (b.block b' hl)⟩
/-- .. of which some blocks are written, whatever else. -/
theorem Sl.past {α : Type} [Rep α] {w w' : World} {ok : Nat → Prop} {v : Value} {xs : List α} {G : List Nat} (h : Sl w ok v xs) (f : Fr (fun b => b ∈ G) w w') (hG : ∀ g ∈ G, ¬ ok g) : Sl w' ok v xs :=
  h.mono fun b hb hl => ⟨hb, f.block b hl fun hm => hG b hm hb⟩
theorem OwnF.below {α : Type} [Rep α] {w w' : World} {base : Nat} {e : TypeId} {v : Value} {xs : List α} (h : OwnF w base e v xs) (hb : Below w.heap.size w w') : OwnF w' base e v xs := Own.below h hb
theorem OwnF.sl {α : Type} [Rep α] [Flat α] {w : World} {base : Nat} {e : TypeId} {v : Value} {xs : List α} (h : OwnF w base e v xs) : Sl w (fun b => base ≤ b) v xs := h.to fun _ h => h
theorem OwnF.nil {α : Type} [Rep α] (w : World) (base : Nat) (e : TypeId) : OwnF w base e (.slice none 0 0) ([] : List α) := Own.nil _ _ _ _
/-- 'append([]T{}, xs...)' -/
theorem app_new {α : Type} [Rep α] [Fixed α] {P : Program} {w : World} {g : Nat} {ok : Nat → Prop} {A : Option Addr} {n c : Nat} {xs : List α} (t ty e : TypeId) (z : Value) (bytes : Nat) (ht : P.underlying t = some (.slice e))
    (hinfo : (P.info? e).map (fun i => (i.zero, i.size, i.bytes)) = some (some z, Rep.sz α, bytes)) (hzs : z.cells.size = Rep.sz α) (h : Sl w ok (.slice A n c) xs) (hl : n * bytes ≤ 140737488355328) :
    ∃ w' A' n' c', (Builtin.append_ #[t, t] ty #[.slice (some ⟨g, 0, none⟩) 0 0, .slice A n c]).run P w = .ok (.slice A' n' c') w' ∧ Sl w' (fun b => w.heap.size ≤ b) (.slice A' n' c') xs ∧ Below w.heap.size w w' := by
  have hn := h.len_eq
  obtain ⟨i, hi, hz, hsz, hby⟩ := info_parts hinfo
  have h1 : Sl w (fun _ => True) (.slice (some ⟨g, 0, none⟩) ([] : List α).length ([] : List α).length) ([] : List α) := Sl.nil w _ _ 0 (by omega) (fun h => by simp at h)
  obtain ⟨v', w', hr, s, b, -⟩ := append_full (P := P) (α := α) (ok' := fun b => w.heap.size ≤ b) t ty e i z bytes ht hi hz hsz hby hzs h1 h.arg (.inl rfl) (Nat.le_refl _) (fun _ _ h => Flat.flat h) (fun _ _ h => Flat.flat h) (by simp only [List.length_nil, Nat.zero_add]; rw [← hn.1]; exact hl) (by simp; omega)
  obtain ⟨A', c', rfl, _⟩ := id s
  exact ⟨w', A', _, c', hr, s, b⟩
/-- A run's first row. -/
theorem Rw.first {α : Type} [Rep α] [Fixed α] {w w1 : World} {e : TypeId} {g : Nat} {G : List Nat} (f : Fr (fun _ => False) w w1) (hg : w.heap.size ≤ g) (t : w1.heap[g]? = some (.cells #[] e (0, 0))) (hG : ∀ k ∈ G, k < w1.heap.size) :
    Rw none w w.heap.size e w1 (.slice (some ⟨g, 0, none⟩) 0 0) ([] : List α) G :=
  ⟨OwnF.cells [] 0 rfl hg t (by decide) (by simp), none_fr f, fun k hk => (by rw [tail_full] at hk; cases hk), hG, Nat.le_refl _⟩
theorem Rw.nil {α : Type} [Rep α] {w w1 : World} {e : TypeId} {G : List Nat} (f : Fr (fun _ => False) w w1) (hG : ∀ k ∈ G, k < w1.heap.size) : Rw none w w.heap.size e w1 (.slice none 0 0) ([] : List α) G :=
  ⟨OwnF.nil _ _ _, none_fr f, fun k hk => (by cases hk), hG, Nat.le_refl _⟩
theorem Rw.sl {α : Type} [Rep α] [Flat α] {S0 : Option Nat} {w0 w : World} {base : Nat} {e : TypeId} {v : Value} {xs : List α} {G : List Nat} (h : Rw S0 w0 base e w v xs G) : Sl w (fun b => base ≤ b) v xs := h.own.sl
theorem Rw.less' {α : Type} [Rep α] {S0 : Option Nat} {w0 w : World} {base : Nat} {e : TypeId} {v : Value} {xs : List α} {G G' : List Nat} (h : Rw S0 w0 base e w v xs G) (hs : ∀ g ∈ G', g ∈ G) : Rw S0 w0 base e w v xs G' :=
  ⟨h.own, h.fr, fun k hk => ⟨(h.blk k hk).1, fun hm => (h.blk k hk).2 (hs k hm)⟩, fun g hg => h.names g (hs g hg), h.le⟩
theorem Rw.done' {α : Type} [Rep α] {w0 w : World} {e : TypeId} {v : Value} {xs : List α} {G : List Nat} (h : Rw none w0 w0.heap.size e w v xs G) : OwnF w w0.heap.size e v xs ∧ Below w0.heap.size w0 w := ⟨h.own, fr_below (fr_none h.fr)⟩
/-- A call that comes to a row of its own. -/
def RetRow {α : Type} [Rep α] (w : World) (e : TypeId) (xs : List α) (en : Ending) (w' : World) : Prop := ∃ A n c, en = .returned (.slice A n c) ∧ OwnF w' w.heap.size e (.slice A n c) xs ∧ Below w.heap.size w w'
theorem Rw.ret {α : Type} [Rep α] {w0 w : World} {e : TypeId} {A : Option Addr} {n c : Nat} {xs ys : List α} {G : List Nat} (h : Rw none w0 w0.heap.size e w (.slice A n c) xs G) (hx : xs = ys) : RetRow w0 e ys (.returned (.slice A n c)) w :=
  ⟨A, n, c, rfl, by rw [← hx]; exact h.own, fr_below (fr_none h.fr)⟩
/-- 'xs[:k]', where no block's name is turned. -/
theorem run_cut {P : Program} {w : World} (t e : TypeId) (hu : P.underlying t = some (.slice e)) {i : TypeInfo} (hi : P.info? e = some i) {α : Type} [Rep α] {ok : Nat → Prop} {A : Option Addr} {n c k : Nat} {xs : List α} (h : Sl w ok (.slice A n c) xs) (hk : k ≤ n) :
    (Instr.sliceAt t (.slice A n c) none (some (.int .i64 (k : Int))) none).run P w = .ok (.slice A k c) w ∧ Sl w ok (.slice A k c) (xs.take k) := by
  have hn := h.len_eq
  have := run_slice_hi (P := P) (w := w) t e i hu hi A n c k (by omega)
  refine ⟨?_, h.take k c (by omega) (by omega) (by omega)⟩
  rw [this]
  by_cases hc : c = 0
  · rw [if_pos hc]
  · rw [if_neg hc]
    by_cases hx : 0 < xs.length
    · obtain ⟨b, o, rfl, _⟩ := h.at_ hx
      simp [add_plain]
    · cases A with
      | none => rfl
      | some a => obtain ⟨b, o, s⟩ := a; cases s <;> simp [Addr.add]
theorem own_ne' {α : Type} [Rep α] {w : World} {base g : Nat} {e t : TypeId} {v : Value} {xs : List α} {C : Array Value} {fr : Nat × Nat} (h : OwnF w base e v xs) (hg : w.heap[g]? = some (.cells C t fr)) (ht : t ≠ e) : v.ownBlock ≠ some g := by
  obtain ⟨cs, ⟨_, h2⟩, _⟩ := h
  rcases h2 with ⟨rfl, _⟩ | ⟨g', cap, cur, rfl, _, hg', _⟩
  · simp [Value.ownBlock]
  · intro he
    injection he with he
    have he : g' = g := he
    subst he
    rw [hg] at hg'
    injection hg' with hg'
    injection hg' with _ h5
    exact ht h5
/-- .. where it stands: not in a block of another type. -/
theorem OwnF.sl_ne {α : Type} [Rep α] [Flat α] {w : World} {base g : Nat} {e : TypeId} {v : Value} {xs : List α} (h : OwnF w base e v xs) (hg : v.ownBlock ≠ some g) : Sl w (fun b => b ≠ g) v xs := by
  obtain ⟨A, c, rfl, hA⟩ := Own.slice h
  have hs := h.sl
  obtain ⟨A', c', he, h1, h2, h3, h4⟩ := hs
  injection he with e1 e2 e3
  subst e1; subst e3
  refine ⟨A, c, rfl, h1, h2, h3, fun hp => ?_⟩
  obtain ⟨b, o, hb, hok, hc⟩ := h4 hp
  have hbg : b ≠ g := fun hh => hg (by subst hh; rw [hb]; rfl)
  exact ⟨b, o, hb, hbg, fun j hj => by
    obtain ⟨cs, hK, hcc⟩ := hc j hj
    exact ⟨cs, Flat.flat hK, hcc⟩⟩
/-- Kept by what writes only a row that is not its own. -/
theorem Sl.tailed {α : Type} [Rep α] {w w' : World} {ok : Nat → Prop} {v : Value} {xs : List α} {row : Option Nat} (h : Sl w ok v xs) (g : w.grownBy w' row) (hr : ∀ b, ok b → some b ≠ row) : Sl w' ok v xs := h.grown g hr
/-- A block that is not its own is written. -/
theorem Rw.past {α : Type} [Rep α] {S0 : Option Nat} {w0 w w' : World} {base g : Nat} {e : TypeId} {v : Value} {xs : List α} {G : List Nat} (h : Rw S0 w0 base e w v xs G) (q : Fr (fun b => b ∈ [g]) w w') (h0 : w0.heap.size ≤ g) (hv : v.ownBlock ≠ some g) : Rw S0 w0 base e w' v xs G := by
  have hg : w.grownBy w' (some g) := ⟨q.os, q.tape, q.output, q.size, fun k hk hne => q.block k hk fun hm => hne (by simp only [List.mem_singleton] at hm; rw [hm])⟩
  exact ⟨h.own.keep hg (.inr hv), ⟨q.os.trans h.fr.os, q.tape.trans h.fr.tape, q.output.trans h.fr.output, Nat.le_trans h.fr.size q.size, fun k hk hn => (q.block k (Nat.lt_of_lt_of_le hk h.fr.size) fun hm => by simp only [List.mem_singleton] at hm; omega).trans (h.fr.block k hk hn)⟩,
    h.blk, fun g hm => Nat.lt_of_lt_of_le (h.names g hm) q.size, h.le⟩
/-- 'xs[:k]' and 'xs[k:]', in whatever world. -/
theorem cut_hi {P : Program} (t e : TypeId) (hu : P.underlying t = some (.slice e)) {i : TypeInfo} (hi : P.info? e = some i) {α : Type} [Rep α] {w : World} {ok : Nat → Prop} {A : Option Addr} {n c k : Nat} {xs : List α} (h : Sl w ok (.slice A n c) xs) (hk : k ≤ n) :
    (∀ w', (Instr.sliceAt t (.slice A n c) none (some (.int .i64 (k : Int))) none).run P w' = .ok (.slice A k c) w') ∧ Sl w ok (.slice A k c) (xs.take k) := by
  have hn := h.len_eq
  refine ⟨fun w' => ?_, h.take k c (by omega) (by omega) (by omega)⟩
  rw [run_slice_hi (P := P) (w := w') t e i hu hi A n c k (by omega)]
  by_cases hc : c = 0
  · rw [if_pos hc]
  · rw [if_neg hc]
    by_cases hx : 0 < xs.length
    · obtain ⟨b, o, rfl, _⟩ := h.at_ hx
      simp [add_plain]
    · cases A with
      | none => rfl
      | some a => obtain ⟨b, o, s⟩ := a; cases s <;> simp [Addr.add]
theorem cut_lo {P : Program} (t e : TypeId) (hu : P.underlying t = some (.slice e)) {i : TypeInfo} (hi : P.info? e = some i) {α : Type} [Rep α] (hsz : i.size = Rep.sz α) {w : World} {ok : Nat → Prop} {A : Option Addr} {n c k : Nat} {xs : List α} (h : Sl w ok (.slice A n c) xs) (hk : k ≤ n) :
    ∃ A', (∀ w', (Instr.sliceAt t (.slice A n c) (some (.int .i64 (k : Int))) none none).run P w' = .ok (.slice A' (n - k) (c - k)) w') ∧ Sl w ok (.slice A' (n - k) (c - k)) (xs.drop k) := by
  have hn := h.len_eq
  refine ⟨_, fun w' => ?_, h.drop k (by omega)⟩
  have h0 : (0 : Int) ≤ k := by omega
  have h1 : (k : Int) ≤ n := by omega
  have hc : n ≤ c := hn.2.1
  simp [Instr.sliceAt, run_underlying hu, Instr.slice, Instr.sliceBounds, Instr.sliceBound, asIntOf, h0, h1, hk, hc, Go.Sx.run_sizeOf hi, hsz]
/-- One cell of a block is stored. -/
theorem store_row {P : Program} {w : World} (ty : TypeId) (hinfo : (P.info? ty).map (·.size) = some 1) {g o : Nat} {C : Array Value} {t : TypeId} {v : Value} (hg : w.heap[g]? = some (.cells C t (0, 0))) (ho : o < C.size) (h1 : v.oneCell' = true) (hv : v.cells = #[v]) :
    ∃ w', (Instr.storeAt ty (.pointer (some ⟨g, o, none⟩)) v).run P w = .ok () w' ∧ w'.heap[g]? = some (.cells (C.setIfInBounds o v) t (0, 0)) ∧ w.grownBy w' (some g) := by
  obtain ⟨i, hi, hsz⟩ : ∃ i, P.info? ty = some i ∧ i.size = 1 := by
    cases hp : P.info? ty with
    | none => rw [hp] at hinfo; cases hinfo
    | some i => rw [hp] at hinfo; injection hinfo with hinfo; exact ⟨i, rfl, hinfo⟩
  have hrun := run_storeCells_at (P := P) g o t [v] 0 C w hg (by simp; omega) (by simp [h1])
  have hset : (C.toList.take (o + 0) ++ [v] ++ C.toList.drop (o + 0 + [v].length)).toArray = C.setIfInBounds o v := by
    apply Array.ext'
    rw [Array.toList_setIfInBounds, List.set_eq_take_append_cons_drop, if_pos (by simpa using ho)]
    simp
  rw [hset] at hrun
  refine ⟨w.setRow g (C.setIfInBounds o v), ?_, setRow_heap w g C _ t (0, 0) hg, ⟨rfl, rfl, rfl, by simp, fun j _ hne => setRow_other w g j _ (fun h => hne (by rw [h]))⟩⟩
  simp only [Instr.storeAt, Instr.sureAddr, Sem.run_bind, Sem.run_pure, Result.andThen_ok, storeVar, hv, Go.Sx.run_sizeOf hi, hsz]
  simpa using hrun
theorem fr_of_grown {w w' : World} {g : Nat} (h : w.grownBy w' (some g)) : Fr (fun b => b ∈ [g]) w w' := ⟨h.os, h.tape, h.output, h.size, fun k hk hn => h.block k hk (fun e => hn (by injection e with e; rw [e]; simp))⟩
/-- It stands in the block that its address names. -/
theorem Sl.blk {α : Type} [Rep α] [Flat α] {w : World} {ok ok' : Nat → Prop} {a o n c : Nat} {xs : List α} (h : Sl w ok (.slice (some ⟨a, o, none⟩) n c) xs) (h' : ok' a) : Sl w ok' (.slice (some ⟨a, o, none⟩) n c) xs := by
  obtain ⟨A', c', he, h1, h2, h3, h4⟩ := h
  injection he with e1 e2 e3
  subst e1; subst e2; subst e3
  refine ⟨_, c, rfl, h1, h2, h3, fun hp => ?_⟩
  obtain ⟨b, o', hb, hok, hc⟩ := h4 hp
  injection hb with hb; injection hb with hb hb2; subst hb; subst hb2
  exact ⟨a, o, rfl, h', fun j hj => by
    obtain ⟨cs, hK, hcc⟩ := hc j hj
    exact ⟨cs, Flat.flat hK, hcc⟩⟩
theorem flat_ints : ∀ xs : List Int, xs.flatMap Fixed.cells = xs.map (Value.int .i64)
  | [] => rfl
  | x :: xs => by rw [List.flatMap_cons, flat_ints xs]; rfl
theorem flat_bytes : ∀ xs : List UInt8, xs.flatMap Fixed.cells = xs.map fun x => Value.int .u8 (x.toNat : Int)
  | [] => rfl
  | x :: xs => by rw [List.flatMap_cons, flat_bytes xs]; rfl
end Go.Trc
