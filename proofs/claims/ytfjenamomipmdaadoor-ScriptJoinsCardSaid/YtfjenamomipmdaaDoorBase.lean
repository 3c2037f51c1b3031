/- What values stand for: bytes, whole numbers, rows of such, in memory; and how long it stays so. -/
import Derived.WalkKit
import Derived.WalkLawsBesides
import Derived.WalkSpells
import Derived.BigQuiet
import Derived.Deep.QuietTactic
import Derived.Deep.RegionHeld3
import Derived.Deep.RegionLaw
import Derived.Deep.AppendLies
import Derived.ArgAppend
import Derived.Maps.AppendAt
import Derived.Lib.Hide
import Derived.Lib.ConvBytes
import Derived.Lib.SlBytesConst
import Derived.Outline
set_option linter.unusedSimpArgs false
set_option linter.unusedVariables false
namespace Go.Trc
open Go Go.RowKit

theorem add_plain (g o j : Nat) : (⟨g, o, none⟩ : Addr).add j = ⟨g, o + j, none⟩ := by unfold Addr.add; split <;> simp_all

/-- A type of Lean's whose things stand in cells. -/
class Rep (α : Type) where
  sz : Nat
  pos : 0 < sz
  K : World → (Nat → Prop) → α → List Value → Prop
  len : ∀ {w : World} {ok : Nat → Prop} {x : α} {cs : List Value}, K w ok x cs → cs.length = sz
  one : ∀ {w : World} {ok : Nat → Prop} {x : α} {cs : List Value}, K w ok x cs → ∀ u ∈ cs, u.oneCell' = true
  mono : ∀ {w w' : World} {ok ok' : Nat → Prop} {x : α} {cs : List Value}, (∀ b, ok b → b < w.heap.size → ok' b ∧ w'.heap[b]? = w.heap[b]?) → K w ok x cs → K w' ok' x cs

/-- From cell o of block b on lie the cells of xs. -/
def Cells {α : Type} [Rep α] (w : World) (ok : Nat → Prop) (b o : Nat) (xs : List α) : Prop :=
  ∀ j (h : j < xs.length), ∃ cs, Rep.K w ok xs[j] cs ∧ ∀ i u, cs[i]? = some u → w.cell? ⟨b, o + j * Rep.sz α + i, none⟩ = some u

/-- The slice value v reads as xs, in blocks that ok lets. -/
def Sl {α : Type} [Rep α] (w : World) (ok : Nat → Prop) (v : Value) (xs : List α) : Prop :=
  ∃ A c, v = .slice A xs.length c ∧ xs.length ≤ c ∧ c ≤ 9223372036854775807 ∧ (A = none → c = 0) ∧
    (0 < xs.length → ∃ b o, A = some ⟨b, o, none⟩ ∧ ok b ∧ Cells w ok b o xs)

/-- The same, of whatever block its own cells are in: what an append reads. -/
def Arg {α : Type} [Rep α] (w : World) (ok : Nat → Prop) (v : Value) (xs : List α) : Prop :=
  ∃ A c, v = .slice A xs.length c ∧ (0 < xs.length → ∃ b o, A = some ⟨b, o, none⟩ ∧ Cells w ok b o xs)

theorem Sl.arg {α : Type} [Rep α] {w : World} {ok : Nat → Prop} {v : Value} {xs : List α} (h : Sl w ok v xs) : Arg w ok v xs := by
  obtain ⟨A, c, rfl, _, _, _, h4⟩ := h
  refine ⟨A, c, rfl, fun hp => ?_⟩
  obtain ⟨b, o, hA, _, hc⟩ := h4 hp
  exact ⟨b, o, hA, hc⟩

theorem Cells.lt {α : Type} [Rep α] {w : World} {ok : Nat → Prop} {b o : Nat} {xs : List α} (h : Cells w ok b o xs) (hp : 0 < xs.length) : b < w.heap.size := by
  obtain ⟨cs, hK, hc⟩ := h 0 hp
  have hl := Rep.len hK
  have hs := Rep.pos (α := α)
  have : cs[0]? = some cs[0] := List.getElem?_eq_getElem (by omega)
  exact World.block_lt_of_cell? w _ (hc 0 _ this)

theorem Cells.mono {α : Type} [Rep α] {w w' : World} {ok ok' : Nat → Prop} {b o : Nat} {xs : List α}
    (hm : ∀ b, ok b → b < w.heap.size → ok' b ∧ w'.heap[b]? = w.heap[b]?) (hb : ok b) (h : Cells w ok b o xs) : Cells w' ok' b o xs := by
  intro j hj
  obtain ⟨cs, hK, hc⟩ := h j hj
  refine ⟨cs, Rep.mono hm hK, fun i u hu => ?_⟩
  have := hc i u hu
  rw [World.cell?_of_block (w := w) ((hm b hb (World.block_lt_of_cell? w _ this)).2)]
  exact this

theorem Sl.mono {α : Type} [Rep α] {w w' : World} {ok ok' : Nat → Prop} {v : Value} {xs : List α}
    (hm : ∀ b, ok b → b < w.heap.size → ok' b ∧ w'.heap[b]? = w.heap[b]?) (h : Sl w ok v xs) : Sl w' ok' v xs := by
  obtain ⟨A, c, rfl, h1, h2, h3, h4⟩ := h
  refine ⟨A, c, rfl, h1, h2, h3, fun hp => ?_⟩
  obtain ⟨b, o, hA, hok, hc⟩ := h4 hp
  exact ⟨b, o, hA, (hm b hok (hc.lt hp)).1, hc.mono hm hok⟩

instance repByte : Rep UInt8 where
  sz := 1
  pos := by decide
  K := fun _ _ x cs => cs = [.int .u8 (x.toNat : Int)]
  len := by rintro _ _ _ _ rfl; rfl
  one := by rintro _ _ _ _ rfl u hu; simp at hu; subst hu; rfl
  mono := by rintro _ _ _ _ _ _ _ h; exact h

instance repInt : Rep Int where
  sz := 1
  pos := by decide
  K := fun _ _ x cs => cs = [.int .i64 x] ∧ -9223372036854775808 ≤ x ∧ x ≤ 9223372036854775807
  len := by rintro _ _ _ _ ⟨rfl, _⟩; rfl
  one := by rintro _ _ _ _ ⟨rfl, _⟩ u hu; simp at hu; subst hu; rfl
  mono := by rintro _ _ _ _ _ _ _ h; exact h

theorem Sl.oneCell {α : Type} [Rep α] {w : World} {ok : Nat → Prop} {v : Value} {xs : List α} (h : Sl w ok v xs) : v.oneCell' = true := by
  obtain ⟨A, c, rfl, _⟩ := h; rfl

instance repList {α : Type} [Rep α] : Rep (List α) where
  sz := 1
  pos := by decide
  K := fun w ok xs cs => ∃ v, cs = [v] ∧ Sl w ok v xs
  len := by rintro _ _ _ _ ⟨v, rfl, _⟩; rfl
  one := by rintro _ _ _ _ ⟨v, rfl, h⟩ u hu; simp at hu; subst hu; exact h.oneCell
  mono := by rintro _ _ _ _ _ _ hm ⟨v, rfl, h⟩; exact ⟨v, rfl, h.mono hm⟩

theorem Sl.weaken {α : Type} [Rep α] {w : World} {ok ok' : Nat → Prop} {v : Value} {xs : List α} (h : Sl w ok v xs) (hk : ∀ b, ok b → b < w.heap.size → ok' b) : Sl w ok' v xs :=
  h.mono fun b hb hl => ⟨hk b hb hl, rfl⟩

/-- It stands in blocks that are there. -/
theorem Sl.bound {α : Type} [Rep α] {w : World} {ok : Nat → Prop} {v : Value} {xs : List α} (h : Sl w ok v xs) : Sl w (fun b => ok b ∧ b < w.heap.size) v xs :=
  h.weaken fun _ hb hl => ⟨hb, hl⟩

theorem Sl.below {α : Type} [Rep α] {w w' : World} {ok : Nat → Prop} {v : Value} {xs : List α} (h : Sl w ok v xs) (hb : Below w.heap.size w w') : Sl w' ok v xs :=
  h.mono fun b hk hl => ⟨hk, hb.block b hl⟩

theorem Sl.grown {α : Type} [Rep α] {w w' : World} {ok : Nat → Prop} {row : Option Nat} {v : Value} {xs : List α} (h : Sl w ok v xs) (hg : w.grownBy w' row) (hr : ∀ b, ok b → some b ≠ row) : Sl w' ok v xs :=
  h.mono fun b hk hl => ⟨hk, hg.block b hl (hr b hk)⟩

theorem Sl.nil {α : Type} [Rep α] (w : World) (ok : Nat → Prop) (A : Option Addr) (c : Nat) (hc : c ≤ 9223372036854775807) (hA : A = none → c = 0) : Sl w ok (.slice A 0 c) ([] : List α) :=
  ⟨A, c, rfl, Nat.zero_le _, hc, hA, fun h => absurd h (Nat.lt_irrefl 0)⟩

theorem Sl.nil0 {α : Type} [Rep α] (w : World) (ok : Nat → Prop) : Sl w ok (.slice none 0 0) ([] : List α) := Sl.nil w ok none 0 (by omega) fun _ => rfl

theorem Sl.le {α : Type} [Rep α] {w : World} {ok : Nat → Prop} {v : Value} {xs : List α} (h : Sl w ok v xs) : xs.length ≤ 9223372036854775807 := by
  obtain ⟨A, c, _, h1, h2, _⟩ := h; omega

/-- 'xs[:k]' and 'xs[:k:m]'. -/
theorem Sl.take {α : Type} [Rep α] {w : World} {ok : Nat → Prop} {A : Option Addr} {n c : Nat} {xs : List α} (h : Sl w ok (.slice A n c) xs) (k m : Nat) (hk : k ≤ xs.length) (hm : k ≤ m) (hmc : m ≤ c) : Sl w ok (.slice A k m) (xs.take k) := by
  obtain ⟨A', c', he, h1, h2, h3, h4⟩ := h
  injection he with e1 e2 e3
  subst e1; subst e3
  refine ⟨A, m, by rw [List.length_take, Nat.min_eq_left hk], by rw [List.length_take]; omega, by omega, fun e => by have := h3 e; omega, fun hp => ?_⟩
  obtain ⟨b, o, hA, hok, hc⟩ := h4 (by rw [List.length_take] at hp; omega)
  refine ⟨b, o, hA, hok, fun j hj => ?_⟩
  obtain ⟨cs, hK, hcc⟩ := hc j (by rw [List.length_take] at hj; omega)
  exact ⟨cs, by rw [List.getElem_take]; exact hK, hcc⟩

/-- 'xs[k:]': the address as the walk has it. -/
theorem Sl.drop {α : Type} [Rep α] {w : World} {ok : Nat → Prop} {A : Option Addr} {n c : Nat} {xs : List α} (h : Sl w ok (.slice A n c) xs) (k : Nat) (hk : k ≤ xs.length) : Sl w ok (.slice (if c = k then A else A.map (·.add (k * Rep.sz α))) (n - k) (c - k)) (xs.drop k) := by
  obtain ⟨A', c', he, h1, h2, h3, h4⟩ := h
  injection he with e1 e2 e3
  subst e1; subst e3; subst e2
  refine ⟨_, c - k, by rw [List.length_drop], by rw [List.length_drop]; omega, by omega, fun e => ?_, fun hp => ?_⟩
  · split at e
    · omega
    · have : A = none := by cases A <;> simp_all
      have := h3 this; omega
  · rw [List.length_drop] at hp
    obtain ⟨b, o, hA, hok, hc⟩ := h4 (by omega)
    refine ⟨b, o + k * Rep.sz α, ?_, hok, fun j hj => ?_⟩
    · rw [if_neg (by omega), hA]; simp [add_plain]
    · rw [List.length_drop] at hj
      obtain ⟨cs, hK, hcc⟩ := hc (k + j) (by omega)
      refine ⟨cs, by rw [List.getElem_drop]; exact hK, fun i u hu => ?_⟩
      have := hcc i u hu
      rw [Nat.add_mul] at this
      have e : o + k * Rep.sz α + j * Rep.sz α + i = o + (k * Rep.sz α + j * Rep.sz α) + i := by omega
      rw [e]; exact this

theorem Sl.len_eq {α : Type} [Rep α] {w : World} {ok : Nat → Prop} {A : Option Addr} {n c : Nat} {xs : List α} (h : Sl w ok (.slice A n c) xs) : n = xs.length ∧ n ≤ c ∧ c ≤ 9223372036854775807 := by
  obtain ⟨A', c', he, h1, h2, _⟩ := h
  injection he with e1 e2 e3
  exact ⟨e2, by omega, by omega⟩

theorem Sl.at_ {α : Type} [Rep α] {w : World} {ok : Nat → Prop} {A : Option Addr} {n c : Nat} {xs : List α} (h : Sl w ok (.slice A n c) xs) (hp : 0 < xs.length) : ∃ b o, A = some ⟨b, o, none⟩ ∧ ok b ∧ Cells w ok b o xs := by
  obtain ⟨A', c', he, h1, h2, h3, h4⟩ := h
  injection he with e1 e2 e3
  subst e1
  exact h4 hp

theorem Sl.row {α : Type} [Rep α] {w : World} {ok : Nat → Prop} {A : Option Addr} {n c : Nat} {xs : List (List α)} (h : Sl w ok (.slice A n c) xs) (k : Nat) (hk : k < xs.length) :
    ∃ g o A1 c1, A = some ⟨g, o, none⟩ ∧ ok g ∧ w.cell? ⟨g, o + k, none⟩ = some (.slice A1 xs[k].length c1) ∧ Sl w ok (.slice A1 xs[k].length c1) xs[k] := by
  obtain ⟨b, o, rfl, hok, hc⟩ := h.at_ (by omega)
  obtain ⟨cs, ⟨v, rfl, hv⟩, hcc⟩ := hc k hk
  obtain ⟨A1, c1, rfl, r⟩ := id hv
  refine ⟨b, o, A1, c1, rfl, hok, ?_, hv⟩
  have := hcc 0 _ rfl
  simpa only [show Rep.sz (List α) = 1 from rfl, Nat.mul_one, Nat.add_zero] using this

theorem Sl.bytes {w : World} {ok : Nat → Prop} {A : Option Addr} {n c : Nat} {xs : List UInt8} (h : Sl w ok (.slice A n c) xs) (hp : 0 < xs.length) :
    ∃ g o, A = some ⟨g, o, none⟩ ∧ ok g ∧ ∀ k (hk : k < xs.length), w.cell? ⟨g, o + k, none⟩ = some (.int .u8 (xs[k].toNat : Int)) := by
  obtain ⟨b, o, rfl, hok, hc⟩ := h.at_ hp
  refine ⟨b, o, rfl, hok, fun k hk => ?_⟩
  obtain ⟨cs, rfl, hcc⟩ := hc k hk
  have := hcc 0 _ rfl
  simpa only [show Rep.sz UInt8 = 1 from rfl, Nat.mul_one, Nat.add_zero] using this

theorem Sl.ints {w : World} {ok : Nat → Prop} {A : Option Addr} {n c : Nat} {xs : List Int} (h : Sl w ok (.slice A n c) xs) (hp : 0 < xs.length) :
    ∃ g o, A = some ⟨g, o, none⟩ ∧ ok g ∧ ∀ k (hk : k < xs.length), w.cell? ⟨g, o + k, none⟩ = some (.int .i64 xs[k]) ∧ -9223372036854775808 ≤ xs[k] ∧ xs[k] ≤ 9223372036854775807 := by
  obtain ⟨b, o, rfl, hok, hc⟩ := h.at_ hp
  refine ⟨b, o, rfl, hok, fun k hk => ?_⟩
  obtain ⟨cs, ⟨rfl, hr⟩, hcc⟩ := hc k hk
  have := hcc 0 _ rfl
  exact ⟨by simpa only [show Rep.sz Int = 1 from rfl, Nat.mul_one, Nat.add_zero] using this, hr⟩

/-- All its cells in a row. -/
theorem Cells.flat {α : Type} [Rep α] {w : World} {ok : Nat → Prop} {b o : Nat} {xs : List α} (h : Cells w ok b o xs) :
    ∃ cs : List Value, cs.length = xs.length * Rep.sz α ∧ (∀ j u, cs[j]? = some u → w.cell? ⟨b, o + j, none⟩ = some u) ∧ (∀ u ∈ cs, u.oneCell' = true) ∧
      ∀ j (hj : j < xs.length), Rep.K w ok xs[j] ((cs.drop (j * Rep.sz α)).take (Rep.sz α)) := by
  induction xs generalizing o with
  | nil => exact ⟨[], by simp, by simp, by simp, by simp⟩
  | cons x xs ih =>
    obtain ⟨c0, hK0, hc0⟩ := h 0 (by simp)
    have hl0 := Rep.len hK0
    have hrest : Cells w ok b (o + Rep.sz α) xs := by
      intro j hj
      obtain ⟨cs, hK, hc⟩ := h (j + 1) (by simp; omega)
      refine ⟨cs, by simpa using hK, fun i u hu => ?_⟩
      have := hc i u hu
      rw [Nat.add_mul, Nat.one_mul] at this
      have e : o + Rep.sz α + j * Rep.sz α + i = o + (j * Rep.sz α + Rep.sz α) + i := by omega
      rw [e]; exact this
    obtain ⟨cs, h1, h2, h3, h4⟩ := ih hrest
    refine ⟨c0 ++ cs, ?_, ?_, ?_, ?_⟩
    · rw [List.length_append, h1, hl0, List.length_cons, Nat.add_mul, Nat.one_mul, Nat.add_comm]
    · intro j u hu
      by_cases hj : j < c0.length
      · rw [List.getElem?_append_left hj] at hu
        have := hc0 j u hu
        simpa using this
      · rw [List.getElem?_append_right (by omega)] at hu
        have := h2 _ u hu
        have e : o + Rep.sz α + (j - c0.length) = o + j := by omega
        rwa [e] at this
    · intro u hu
      rcases List.mem_append.1 hu with hu | hu
      · exact Rep.one hK0 u hu
      · exact h3 u hu
    · intro j hj
      cases j with
      | zero =>
        simp only [Nat.zero_mul, List.drop_zero, List.getElem_cons_zero]
        rw [List.take_append_of_le_length (by omega), List.take_of_length_le (by omega)]
        exact hK0
      | succ j =>
        have := h4 j (by simpa using hj)
        have e : (j + 1) * Rep.sz α = c0.length + j * Rep.sz α := by rw [Nat.add_mul, Nat.one_mul, hl0, Nat.add_comm]
        rw [e, List.drop_append]
        have e2 : List.drop (c0.length + j * Rep.sz α) c0 = [] := List.drop_eq_nil_of_le (by omega)
        rw [e2, List.nil_append, Nat.add_sub_cancel_left]
        simpa using this

/-- Cells that lie in a block of its own are what they stand for. -/
theorem Cells.of_block {α : Type} [Rep α] {w : World} {ok : Nat → Prop} {b : Nat} {arr : Array Value} {e : TypeId} {fr : Nat × Nat} (hb : w.heap[b]? = some (.cells arr e fr))
    {xs : List α} (cs : List Value) (hcs : ∀ j, j < cs.length → arr[j]? = cs[j]?)
    (hK : ∀ j (hj : j < xs.length), Rep.K w ok xs[j] ((cs.drop (j * Rep.sz α)).take (Rep.sz α))) : Cells w ok b 0 xs := by
  intro j hj
  refine ⟨_, hK j hj, fun i u hu => ?_⟩
  rw [List.getElem?_take] at hu
  split at hu
  · rw [List.getElem?_drop] at hu
    have hlt : j * Rep.sz α + i < cs.length := by
      rcases Nat.lt_or_ge (j * Rep.sz α + i) cs.length with h | h
      · exact h
      · rw [List.getElem?_eq_none h] at hu; cases hu
    rw [cell_of_row w b _ arr e fr hb, Nat.zero_add, hcs _ hlt]
    exact hu
  · cases hu

theorem run_append_none {P : Program} {w : World} (t ty e : TypeId) (i : TypeInfo) (ht : P.underlying t = some (.slice e)) (hi : P.info? e = some i)
    (A : Option Addr) (n c : Nat) (hn : n ≤ c) (B : Option Addr) (m : Nat) : (Builtin.append_ #[t, t] ty #[.slice A n c, .slice B 0 m]).run P w = .ok (.slice A n c) w := by
  rcases A with _ | a <;> rcases B with _ | b <;> simp [Builtin.append_, run_underlying ht, sizeOf, typeInfo, hi, Builtin.lenOf, Builtin.firstCells, loadCells, loadCellsFrom, hn, storeCells]

/-- 'append(s, xs...)' where s is full, or empty and of no capacity: the row is made anew. -/
theorem append_full {α : Type} [Rep α] {P : Program} {w : World} (t ty e : TypeId) (i : TypeInfo) (z : Value) (bytes : Nat)
    (ht : P.underlying t = some (.slice e)) (hi : P.info? e = some i) (hz : i.zero = some z) (hsize : i.size = Rep.sz α) (hby : i.bytes = bytes) (hzs : z.cells.size = Rep.sz α)
    {ok1 ok2 ok' : Nat → Prop} {A : Option Addr} {v2 : Value} {xs ys : List α}
    (h1 : Sl w ok1 (.slice A xs.length xs.length) xs) (h2 : Arg w ok2 v2 ys) (hne : xs = [] ∨ 0 < ys.length)
    (hok : ok' w.heap.size) (hm1 : ∀ (x : α) cs, Rep.K w ok1 x cs → Rep.K w ok' x cs) (hm2 : ∀ (x : α) cs, Rep.K w ok2 x cs → Rep.K w ok' x cs)
    (hbytes : (xs.length + ys.length) * bytes ≤ 140737488355328) (hlen : xs.length + ys.length ≤ 9223372036854775807) :
    ∃ v' w', (Builtin.append_ #[t, t] ty #[.slice A xs.length xs.length, v2]).run P w = .ok v' w' ∧ Sl w' ok' v' (xs ++ ys) ∧ Below w.heap.size w w' ∧
      (0 < ys.length → v'.ownBlock = some w.heap.size ∧ w'.heap.size = w.heap.size + 1) := by
  obtain ⟨A2, c2, rfl, b4⟩ := h2
  by_cases hy : 0 < ys.length
  · obtain ⟨gb, go, rfl, hc2⟩ := b4 hy
    obtain ⟨cs2, l2, r2, o2, k2⟩ := hc2.flat
    obtain ⟨A1, c1, he, a1, a2, a3, a4⟩ := h1
    injection he with e1 e2 e3
    subst e1
    -- the elder cells
    have old : ∃ cs1 : List Value, cs1.length = xs.length * Rep.sz α ∧ (∀ j (hj : j < xs.length), Rep.K w ok1 xs[j] ((cs1.drop (j * Rep.sz α)).take (Rep.sz α))) ∧
        ∃ cap rest, (Builtin.append_ #[t, t] ty #[.slice A xs.length xs.length, .slice (some ⟨gb, go, none⟩) ys.length c2]).run P w =
          .ok (.slice (some ⟨w.heap.size, 0, none⟩) (xs.length + ys.length) cap) (w.drew.alloc (.cells (cs1.toArray ++ cs2.toArray ++ rest) e)) ∧ xs.length + ys.length ≤ cap ∧ cap ≤ 9223372036854775807 := by
      have hn2 : ∀ j u, cs2[j]? = some u → w.cell? ((⟨gb, go, none⟩ : Addr).add j) = some u := fun j u hu => by rw [add_plain]; exact r2 j u hu
      rcases A with _ | a
      · have hx0 : xs.length = 0 := by have := a3 rfl; omega
        obtain rfl : xs = [] := List.eq_nil_of_length_eq_zero hx0
        refine ⟨[], by simp, fun j hj => absurd hj (by simp), grownCap w ys.length 0 e, Builtin.zeroCells z.cells (grownCap w ys.length 0 e - ys.length), ?_, ?_, ?_⟩
        · have hr := run_append_nil (P := P) w t ty e i z ht hi hz ⟨gb, go, none⟩ ys.length c2 cs2 (by rw [l2, hsize]) hn2 hy (by simp at hlen; omega) (by rw [hby]; simp at hbytes; omega)
          simpa using hr
        · simp only [List.length_nil, Nat.zero_add]; exact grownCap_ge ..
        · exact grownCap_le_maxLen w ys.length 0 e (by simp at hlen; simpa [maxLen] using hlen)
      · have holds : ∃ cs1 : List Value, cs1.length = xs.length * Rep.sz α ∧ (∀ j (hj : j < xs.length), Rep.K w ok1 xs[j] ((cs1.drop (j * Rep.sz α)).take (Rep.sz α))) ∧ ∀ j u, cs1[j]? = some u → w.cell? (a.add j) = some u := by
          by_cases hx : 0 < xs.length
          · obtain ⟨b, o, hA, _, hc⟩ := a4 hx
            injection hA with hA
            subst hA
            obtain ⟨cs1, l1, r1, o1, k1⟩ := hc.flat
            exact ⟨cs1, l1, k1, fun j u hu => by rw [add_plain]; exact r1 j u hu⟩
          · have hx0 : xs.length = 0 := by omega
            exact ⟨[], by simp [hx0], fun j hj => by omega, by simp⟩
        obtain ⟨cs1, l1, k1, r1⟩ := holds
        refine ⟨cs1, l1, k1, grownCap w (xs.length + ys.length) xs.length e, Builtin.zeroCells z.cells (grownCap w (xs.length + ys.length) xs.length e - (xs.length + ys.length)), ?_, ?_, ?_⟩
        · exact run_append_grow (P := P) w t ty e i z ht hi hz a xs.length xs.length cs1 (by rw [l1, hsize]) r1 ⟨gb, go, none⟩ ys.length c2 cs2 (by rw [l2, hsize]) hn2 (by omega) (by omega) (growslice_fits (by omega) (by rw [hby]; exact hbytes))
        · exact grownCap_ge ..
        · exact grownCap_le_maxLen w _ _ e (by simpa [maxLen] using hlen)
    obtain ⟨cs1, l1, k1, cap, rest, hrun, hc1, hc2'⟩ := old
    have hb : Below w.heap.size w (w.drew.alloc (.cells (cs1.toArray ++ cs2.toArray ++ rest) e)) := (Below.refl _ _).drew.alloc (Nat.le_refl _) _
    refine ⟨_, _, hrun, ⟨_, cap, by rw [List.length_append], by rw [List.length_append]; exact hc1, hc2', fun h => by simp at h, fun _ => ⟨w.heap.size, 0, rfl, hok, ?_⟩⟩, hb, fun _ => ⟨rfl, by simp⟩⟩
    refine Cells.of_block (heap_alloc_new w.drew _) (cs1 ++ cs2) ?_ ?_
    · intro j hj
      rw [show cs1.toArray ++ cs2.toArray = (cs1 ++ cs2).toArray by simp]
      rw [Array.getElem?_append_left (by simpa using hj)]
      simp
    · intro j hj
      by_cases hjx : j < xs.length
      · rw [List.getElem_append_left hjx]
        have hle : j * Rep.sz α + Rep.sz α ≤ cs1.length := by
          rw [l1, ← Nat.succ_mul]; exact Nat.mul_le_mul_right _ hjx
        rw [List.drop_append_of_le_length (by omega), List.take_append_of_le_length (by rw [List.length_drop]; omega)]
        exact Rep.mono (fun b hb' hl => ⟨hb', hb.block b hl⟩) (hm1 _ _ (k1 j hjx))
      · rw [List.getElem_append_right (by omega)]
        have hj2 : j - xs.length < ys.length := by rw [List.length_append] at hj; omega
        have e1 : j * Rep.sz α = cs1.length + (j - xs.length) * Rep.sz α := by rw [l1, ← Nat.add_mul]; congr 1; omega
        rw [e1, List.drop_append]
        have e2 : List.drop (cs1.length + (j - xs.length) * Rep.sz α) cs1 = [] := List.drop_eq_nil_of_le (by omega)
        rw [e2, List.nil_append, Nat.add_sub_cancel_left]
        exact Rep.mono (fun b hb' hl => ⟨hb', hb.block b hl⟩) (hm2 _ _ (k2 _ hj2))
  · have hy0 : ys.length = 0 := by omega
    obtain rfl : ys = [] := List.eq_nil_of_length_eq_zero hy0
    rcases hne with rfl | hne
    · obtain ⟨A1, c1, he, a1, a2, a3, a4⟩ := h1
      refine ⟨_, w, run_append_none t ty e i ht hi A _ _ (Nat.le_refl _) A2 c2, ?_, Below.refl _ _, fun h => absurd h (by simp)⟩
      exact Sl.nil w ok' A 0 (by omega) (fun _ => rfl)
    · exact absurd hne (by simp)

/-- An operation that comes to a value, by whatever law. -/
theorem wpList_op {P : Program} {ops : Array Oper} {rest : List Oper} {o : Oper} {a : Act} {Q : Exit → Act → World → Prop} {w w' : World} {v : Value} (hgd : o.guard = none)
    (hr : (execOp a.eval o).run P w = .ok (.value v) w') (h : wpList P ops Q rest (a.put o.dst v) w') : wpList P ops Q (o :: rest) a w :=
  wpList_plain hgd fun K hK => by
    unfold Oper.wp
    rw [hr]
    exact hK _ _ h

/-- The same at a step of a region that draws its order. -/
theorem step_op {P : Program} {ops : Array Oper} {o : Oper} {a : Act} {K : Act → World → Prop} {Q : Exit → Act → World → Prop} {E : Prop} {w w' : World} {v : Value} (hgd : o.guard = none)
    (hr : (execOp a.eval o).run P w = .ok (.value v) w') (h : K (a.put o.dst v) w') : if Region.wanted o (yielded ops a.tmps) = true then Oper.wp P o a w K Q else E := by
  have hw : Region.wanted o (yielded ops a.tmps) = true := by simp [Region.wanted, hgd]
  rw [if_pos hw]
  unfold Oper.wp
  rw [hr]
  exact h

theorem exec_append {P : Program} {o : Oper} {a : Act} {w w' : World} {v x y : Value} (s z : Operand) (t : TypeId)
    (ho : o.op = .call { callee := .builtin .append, args := #[s, z], argTypes := #[t, t] }) (hs : a.eval s = x) (hz : a.eval z = y)
    (hr : (Builtin.append_ #[t, t] o.type #[x, y]).run P w = .ok v w') : (execOp a.eval o).run P w = .ok (.value v) w' := by
  unfold execOp
  simp only [ho, resolve, invoke, builtin, Sem.run_bind, Sem.run_pure, Result.andThen_ok, List.map_toArray, List.map_cons, List.map_nil, hs, hz, hr]

/-- The same, in a walk: 'append(s, xs...)' where s is full. -/
theorem wpList_append_full {α : Type} [Rep α] {P : Program} {w : World} {ops : Array Oper} {rest : List Oper} {o : Oper} {a : Act} {Q : Exit → Act → World → Prop} (hgd : o.guard = none)
    (s x : Operand) (t e : TypeId) (ho : o.op = .call { callee := .builtin .append, args := #[s, x], argTypes := #[t, t] }) (z : Value) (bytes : Nat)
    (ht : P.underlying t = some (.slice e)) (hinfo : (P.info? e).map (fun i => (i.zero, i.size, i.bytes)) = some (some z, Rep.sz α, bytes)) (hzs : z.cells.size = Rep.sz α)
    {ok1 ok2 : Nat → Prop} (ok' : Nat → Prop) {A : Option Addr} {v2 : Value} {n : Nat} {xs ys : List α} (hs : a.eval s = .slice A n n) (hx : a.eval x = v2)
    (h1 : Sl w ok1 (.slice A n n) xs) (h2 : Arg w ok2 v2 ys) (hne : xs = [] ∨ 0 < ys.length)
    (hok : ok' w.heap.size) (hm1 : ∀ (x : α) cs, Rep.K w ok1 x cs → Rep.K w ok' x cs) (hm2 : ∀ (x : α) cs, Rep.K w ok2 x cs → Rep.K w ok' x cs)
    (hbytes : (xs.length + ys.length) * bytes ≤ 140737488355328) (hlen : xs.length + ys.length ≤ 9223372036854775807)
    (N : Nat) (hN : xs.length + ys.length = N)
    (h : ∀ A' c' w', Sl w' ok' (.slice A' N c') (xs ++ ys) → Below w.heap.size w w' → (0 < ys.length → (Value.slice A' N c').ownBlock = some w.heap.size ∧ w'.heap.size = w.heap.size + 1) → wpList P ops Q rest (a.put o.dst (.slice A' N c')) w') :
    wpList P ops Q (o :: rest) a w := by
  obtain ⟨i, hi, hz, hsz, hby⟩ := info_parts hinfo
  have hn : n = xs.length := by obtain ⟨A', c', he, _⟩ := h1; injection he
  subst hn
  obtain ⟨v', w', hr, g1, g2, g3⟩ := append_full (α := α) t o.type e i z bytes ht hi hz hsz hby hzs h1 h2 hne hok hm1 hm2 hbytes hlen
  obtain ⟨A', c', rfl, _⟩ := id g1
  rw [List.length_append, hN] at g1 hr g3
  exact wpList_op hgd (exec_append s x t ho hs hx hr) (h A' c' w' g1 g2 g3)

theorem step_append_full {α : Type} [Rep α] {P : Program} {w : World} {ops : Array Oper} {o : Oper} {a : Act} {K : Act → World → Prop} {Q : Exit → Act → World → Prop} {E : Prop} (hgd : o.guard = none)
    (s x : Operand) (t e : TypeId) (ho : o.op = .call { callee := .builtin .append, args := #[s, x], argTypes := #[t, t] }) (z : Value) (bytes : Nat)
    (ht : P.underlying t = some (.slice e)) (hinfo : (P.info? e).map (fun i => (i.zero, i.size, i.bytes)) = some (some z, Rep.sz α, bytes)) (hzs : z.cells.size = Rep.sz α)
    {ok1 ok2 : Nat → Prop} (ok' : Nat → Prop) {A : Option Addr} {v2 : Value} {n : Nat} {xs ys : List α} (hs : a.eval s = .slice A n n) (hx : a.eval x = v2)
    (h1 : Sl w ok1 (.slice A n n) xs) (h2 : Arg w ok2 v2 ys) (hne : xs = [] ∨ 0 < ys.length)
    (hok : ok' w.heap.size) (hm1 : ∀ (x : α) cs, Rep.K w ok1 x cs → Rep.K w ok' x cs) (hm2 : ∀ (x : α) cs, Rep.K w ok2 x cs → Rep.K w ok' x cs)
    (hbytes : (xs.length + ys.length) * bytes ≤ 140737488355328) (hlen : xs.length + ys.length ≤ 9223372036854775807)
    (N : Nat) (hN : xs.length + ys.length = N)
    (h : ∀ A' c' w', Sl w' ok' (.slice A' N c') (xs ++ ys) → Below w.heap.size w w' → (0 < ys.length → (Value.slice A' N c').ownBlock = some w.heap.size ∧ w'.heap.size = w.heap.size + 1) → K (a.put o.dst (.slice A' N c')) w') :
    if Region.wanted o (yielded ops a.tmps) = true then Oper.wp P o a w K Q else E := by
  obtain ⟨i, hi, hz, hsz, hby⟩ := info_parts hinfo
  have hn : n = xs.length := by obtain ⟨A', c', he, _⟩ := h1; injection he
  subst hn
  obtain ⟨v', w', hr, g1, g2, g3⟩ := append_full (α := α) t o.type e i z bytes ht hi hz hsz hby hzs h1 h2 hne hok hm1 hm2 hbytes hlen
  obtain ⟨A', c', rfl, _⟩ := id g1
  rw [List.length_append, hN] at g1 hr g3
  exact step_op hgd (exec_append s x t ho hs hx hr) (h A' c' w' g1 g2 g3)

/-- 'append([]byte{}, xs...)': the row lies in a new block. -/
theorem wpList_copy_bytes {P : Program} {w : World} {ops : Array Oper} {rest : List Oper} {o : Oper} {a : Act} {Q : Exit → Act → World → Prop} (hgd : o.guard = none)
    (s x : Operand) (t e : TypeId) (ho : o.op = .call { callee := .builtin .append, args := #[s, x], argTypes := #[t, t] })
    (ht : P.underlying t = some (.slice e)) (hinfo : (P.info? e).map (fun i => (i.zero, i.size, i.bytes)) = some (some (.int .u8 0), 1, 1))
    {ok2 : Nat → Prop} {A : Option Addr} {v2 : Value} {ys : List UInt8} (hs : a.eval s = .slice A 0 0) (hx : a.eval x = v2)
    (h2 : Sl w ok2 v2 ys) (hlen : ys.length ≤ 140737488355328) (N : Nat) (hN : ys.length = N)
    (h : ∀ A' c' w', Sl w' (fun b => b = w.heap.size) (.slice A' N c') ys → Below w.heap.size w w' → (0 < ys.length → (Value.slice A' N c').ownBlock = some w.heap.size ∧ w'.heap.size = w.heap.size + 1) → wpList P ops Q rest (a.put o.dst (.slice A' N c')) w') :
    wpList P ops Q (o :: rest) a w :=
  wpList_append_full (α := UInt8) (xs := []) hgd s x t e ho (.int .u8 0) 1 ht hinfo rfl (ok1 := fun _ => False) (ok2 := ok2) (fun b => b = w.heap.size) hs hx (Sl.nil w _ A 0 (by omega) fun _ => rfl) h2.arg (.inl rfl) rfl
    (fun _ _ h => h) (fun _ _ h => h) (by simp; omega) (by simp; omega) N (by simpa using hN) fun A' c' w' g1 g2 g3 => h A' c' w' (by simpa using g1) g2 g3

theorem Sl.alloc {α : Type} [Rep α] {w : World} {ok : Nat → Prop} {v : Value} {xs : List α} (h : Sl w ok v xs) (o : Obj) : Sl (w.alloc o) ok v xs := h.below ((Below.refl _ _).alloc (Nat.le_refl _) _)

/-- Behind a new block, and what came behind that. -/
theorem below_new {w w' : World} {o : Obj} (h : Below (w.heap.size + 1) (w.alloc o) w') : Below w.heap.size w w' := ((Below.refl w.heap.size w).alloc (Nat.le_refl _) o).trans (h.mono (by omega))

/-- A call that hands back a new row, and touches nothing else. -/
def RetNew {α : Type} [Rep α] (w : World) (xs : List α) (e : Ending) (w' : World) : Prop :=
  ∃ A c, e = .returned (.slice A xs.length c) ∧ Sl w' (fun b => w.heap.size ≤ b) (.slice A xs.length c) xs ∧ Below w.heap.size w w'

theorem RetNew.mk {α : Type} [Rep α] {w w' : World} {xs : List α} {v : Value} (h : Sl w' (fun b => w.heap.size ≤ b) v xs) (hb : Below w.heap.size w w') : RetNew w xs (.returned v) w' := by
  obtain ⟨A, c, rfl, r⟩ := id h
  exact ⟨A, c, rfl, h, hb⟩

/-- One thing, laid in a new block. -/
theorem Arg.single {α : Type} [Rep α] {W : World} {ok : Nat → Prop} {x : α} {cs : List Value} (e : TypeId) (h : Rep.K W ok x cs) :
    Arg (W.alloc (.cells cs.toArray e)) ok (.slice (some ⟨W.heap.size, 0, none⟩) 1 1) [x] := by
  refine ⟨_, 1, rfl, fun _ => ⟨W.heap.size, 0, rfl, fun j hj => ?_⟩⟩
  have hj0 : j = 0 := by simp at hj; omega
  subst hj0
  refine ⟨cs, Rep.mono (fun b hb' hl => ⟨hb', Below.heap_alloc _ _ _ hl⟩) h, fun i u hu => ?_⟩
  rw [cell_of_row _ W.heap.size _ _ e (0, 0) (heap_alloc_new W _)]
  simpa using hu

theorem Sl.single' {α : Type} [Rep α] {W : World} {ok : Nat → Prop} {x : α} {cs : List Value} (e : TypeId) (h : Rep.K W ok x cs) (hb : ok W.heap.size) (fr : Nat × Nat) :
    Sl (W.alloc (.cells cs.toArray e fr)) ok (.slice (some ⟨W.heap.size, 0, none⟩) 1 1) [x] := by
  refine ⟨_, 1, rfl, Nat.le_refl _, by omega, fun h => by simp at h, fun _ => ⟨W.heap.size, 0, rfl, hb, fun j hj => ?_⟩⟩
  have hj0 : j = 0 := by simp at hj; omega
  subst hj0
  refine ⟨cs, Rep.mono (fun b hb' hl => ⟨hb', Below.heap_alloc _ _ _ hl⟩) h, fun i u hu => ?_⟩
  rw [cell_of_row _ W.heap.size _ _ e fr (heap_alloc_new W _)]
  simpa using hu

/-- 'string(xs)'. -/
theorem Sl.string {P : Program} {w : World} {ok : Nat → Prop} {v : Value} {xs : List UInt8} (h : Sl w ok v xs) (src dst e : TypeId) (hs : P.underlying src = some (.slice e)) (he : P.underlying e = some (.int .u8)) (hd : P.underlying dst = some .string) :
    (convert src dst v).run P w = .ok (.string ⟨xs.toArray⟩) w := by
  obtain ⟨A, c, rfl, h1, h2, h3, h4⟩ := h
  by_cases hp : 0 < xs.length
  · obtain ⟨b, o, rfl, hok, hc⟩ := h4 hp
    have hr := run_convert_bytes_arg (P := P) w src e hs he b o xs.length c (xs.map fun x => (x.toNat : Int)) (by simp) (fun i hi => by
      obtain ⟨cs, hK, hcc⟩ := hc i hi
      obtain rfl := hK
      have := hcc 0 _ rfl
      simp only [Rep.sz, Nat.mul_one, Nat.add_zero] at this
      rw [this]
      simp [List.getD_eq_getElem?_getD, List.getElem?_eq_getElem hi]) dst hd
    rw [hr]
    congr 3
    simp only [strOfNums, List.map_map]
    congr 1
    have e : List.map ((fun n : Int => UInt8.ofNat n.toNat) ∘ fun x : UInt8 => (x.toNat : Int)) xs = xs := by
      refine (List.map_congr_left (g := id) fun x _ => ?_).trans (List.map_id xs)
      simp
    rw [e]
  · obtain rfl : xs = [] := List.eq_nil_of_length_eq_zero (by omega)
    rcases A with _ | ⟨b, o, sp⟩
    · exact run_convert_bytes_nil (P := P) w src e hs he 0 c dst hd
    · have hE : (convert src dst (.slice (some ⟨b, o, sp⟩) 0 c)).run P w = .ok (.string ByteArray.empty) w := by
        simp [convert, run_underlying hs, run_underlying hd, run_underlying he, Conv.bytesToString, loadCells, loadCellsFrom]
      exact hE

/-- One thing, laid in a new block. -/
theorem Sl.single {α : Type} [Rep α] {W : World} {ok : Nat → Prop} {x : α} {cs : List Value} (e : TypeId) (h : Rep.K W ok x cs) (hb : ok W.heap.size) :
    Sl (W.alloc (.cells cs.toArray e)) ok (.slice (some ⟨W.heap.size, 0, none⟩) 1 1) [x] := Sl.single' e h hb (0, 0)

/-- A cell that is there, behind a new block: laid ahead of a walk. -/
theorem cell_alloc {w : World} {a : Addr} {v : Value} (h : w.cell? a = some v) (o : Obj) : (w.alloc o).cell? a = some v :=
  (World.cell?_alloc_lt _ _ _ (World.block_lt_of_cell? w a h)).trans h

/-! ### A row of the call's own, which may grow -/

/-- The value v is nil, or a row that the call has made (its block from 'base' on, of type e), and reads as xs. -/
def Own {α : Type} [Rep α] (w : World) (base : Nat) (e : TypeId) (ok : Nat → Prop) (v : Value) (xs : List α) : Prop :=
  ∃ cs, w.ownsRow base e (Rep.sz α) v xs.length cs ∧ (∀ u ∈ cs, u.oneCell' = true) ∧ ∀ j (hj : j < xs.length), Rep.K w ok xs[j] ((cs.drop (j * Rep.sz α)).take (Rep.sz α))

theorem Own.nil {α : Type} [Rep α] (w : World) (base : Nat) (e : TypeId) (ok : Nat → Prop) : Own w base e ok (.slice none 0 0) ([] : List α) :=
  ⟨[], World.ownsRow_nil _ _ _ _, by simp, fun j hj => absurd hj (by simp)⟩

theorem Own.made {α : Type} [Rep α] (w : World) (base : Nat) (e : TypeId) (ok : Nat → Prop) (hb : base ≤ w.heap.size) : Own (w.alloc (.cells #[] e)) base e ok (.slice (some ⟨w.heap.size, 0, none⟩) 0 0) ([] : List α) :=
  ⟨[], World.ownsRow_made w #[] 0 hb (by simp [maxLen]) (by simp), by simp, fun j hj => absurd hj (by simp)⟩

theorem Own.slice {α : Type} [Rep α] {w : World} {base : Nat} {e : TypeId} {ok : Nat → Prop} {v : Value} {xs : List α} (h : Own w base e ok v xs) :
    ∃ A c, v = .slice A xs.length c ∧ (∀ a, A = some a → ∃ g, a = ⟨g, 0, none⟩ ∧ base ≤ g ∧ g < w.heap.size) := by
  obtain ⟨cs, h1, _, _⟩ := h
  rcases h1.2 with ⟨rfl, hn⟩ | ⟨g, cap, cur, rfl, hb, hg, _⟩
  · exact ⟨none, 0, by rw [hn], fun a h => by cases h⟩
  · exact ⟨_, cap, rfl, fun a h => by injection h with h; exact ⟨g, h.symm, hb, (Array.getElem?_eq_some_iff.1 hg).1⟩⟩

theorem Own.sl {α : Type} [Rep α] {w : World} {base : Nat} {e : TypeId} {ok : Nat → Prop} {v : Value} {xs : List α} (h : Own w base e ok v xs) (ok' : Nat → Prop) (hok : ∀ b, base ≤ b → ok' b)
    (hK : ∀ (x : α) cs, Rep.K w ok x cs → Rep.K w ok' x cs) : Sl w ok' v xs := by
  obtain ⟨cs, h1, h2, h3⟩ := h
  rcases h1.2 with ⟨rfl, hn⟩ | ⟨g, cap, cur, rfl, hb, hg, hnc, hcm, hcs, htake⟩
  · obtain rfl : xs = [] := List.eq_nil_of_length_eq_zero hn
    exact Sl.nil0 _ _
  · refine ⟨_, cap, rfl, hnc, by simpa [maxLen] using hcm, fun h => by simp at h, fun hp => ⟨g, 0, rfl, hok g hb, ?_⟩⟩
    refine Cells.of_block hg cs (fun j hj => ?_) (fun j hj => hK _ _ (h3 j hj))
    rw [← htake, List.getElem?_take]
    rw [← htake, List.length_take] at hj
    rw [if_pos (by omega)]
    simp

theorem Own.mono {α : Type} [Rep α] {w w' : World} {base : Nat} {e : TypeId} {ok ok' : Nat → Prop} {v : Value} {xs : List α} {row : Option Nat} (h : Own w base e ok v xs) (hg : w.grownBy w' row)
    (hne : v.ownBlock = none ∨ v.ownBlock ≠ row) (hm : ∀ b, ok b → b < w.heap.size → ok' b ∧ some b ≠ row) : Own w' base e ok' v xs := by
  obtain ⟨cs, h1, h2, h3⟩ := h
  exact ⟨cs, h1.kept hg hne, h2, fun j hj => Rep.mono (fun b hb hl => ⟨(hm b hb hl).1, hg.block b hl (hm b hb hl).2⟩) (h3 j hj)⟩

theorem grown_of_below {w w1 : World} (h : Below w.heap.size w w1) (row : Option Nat) : w.grownBy w1 row := ⟨h.os, h.tape, h.output, h.size, fun i hi _ => h.block i hi⟩

theorem Own.below {α : Type} [Rep α] {w w' : World} {base : Nat} {e : TypeId} {ok : Nat → Prop} {v : Value} {xs : List α} (h : Own w base e ok v xs) (hb : Below w.heap.size w w') : Own w' base e ok v xs :=
  h.mono (grown_of_below hb none) (by cases v.ownBlock <;> simp) fun b hb _ => ⟨hb, by simp⟩

theorem Own.base {α : Type} [Rep α] {w : World} {base : Nat} {e : TypeId} {ok : Nat → Prop} {v : Value} {xs : List α} (h : Own w base e ok v xs) : ∀ k, v.ownBlock = some k → base ≤ k := by
  obtain ⟨A, c, rfl, hA⟩ := h.slice
  intro k hk
  rcases A with _ | a
  · simp [Value.ownBlock] at hk
  · obtain ⟨g, rfl, hg, _⟩ := hA a rfl
    simp [Value.ownBlock] at hk
    omega

theorem Own.lt {α : Type} [Rep α] {w : World} {base : Nat} {e : TypeId} {ok : Nat → Prop} {v : Value} {xs : List α} (h : Own w base e ok v xs) : ∀ k, v.ownBlock = some k → base ≤ k ∧ k < w.heap.size := by
  obtain ⟨A, c, rfl, hA⟩ := h.slice
  intro k hk
  rcases A with _ | a
  · simp [Value.ownBlock] at hk
  · obtain ⟨g, rfl, hg, hl⟩ := hA a rfl
    simp [Value.ownBlock] at hk
    omega

/-- Behind a block laid for what is appended, and the append. -/
theorem below_append {w wr w' : World} {B : Nat} {o : Obj} {row : Option Nat} (h : Below B w wr) (hB : B ≤ wr.heap.size) (hg : (wr.alloc o).grownBy w' row) (hr : ∀ k, row = some k → B ≤ k) : Below B w w' :=
  (h.alloc hB o).grown hg (by simp; omega) hr

theorem Own.weaken {α : Type} [Rep α] {w : World} {base : Nat} {e : TypeId} {ok ok' : Nat → Prop} {v : Value} {xs : List α} (h : Own w base e ok v xs) (hK : ∀ (x : α) cs, Rep.K w ok x cs → Rep.K w ok' x cs) : Own w base e ok' v xs := by
  obtain ⟨cs, h1, h2, h3⟩ := h
  exact ⟨cs, h1, h2, fun j hj => hK _ _ (h3 j hj)⟩

/-- 'append(v, ys...)', v one's own. -/
theorem own_append {α : Type} [Rep α] {P : Program} {w : World} (base : Nat) (t ty e : TypeId) (i : TypeInfo) (z : Value) (bytes : Nat)
    (ht : P.underlying t = some (.slice e)) (hi : P.info? e = some i) (hz : i.zero = some z) (hsize : i.size = Rep.sz α) (hby : i.bytes = bytes) (hzs : z.cells.size = Rep.sz α)
    {ok ok2 : Nat → Prop} {v v2 : Value} {xs ys : List α} (h : Own w base e ok v xs) (h2 : Arg w ok2 v2 ys)
    (hdis : ∀ b, ok b → some b ≠ v.ownBlock) (hK2 : ∀ (x : α) cs, Rep.K w ok2 x cs → Rep.K w ok x cs)
    (hbase : base ≤ w.heap.size) (hbytes : (xs.length + ys.length) * bytes ≤ 140737488355328) (hlen : xs.length + ys.length ≤ 9223372036854775807) :
    ∃ v' w', (Builtin.append_ #[t, t] ty #[v, v2]).run P w = .ok v' w' ∧ Own w' base e ok v' (xs ++ ys) ∧ w.grownBy w' v.ownBlock ∧
      (v'.ownBlock = v.ownBlock ∨ v'.ownBlock = some w.heap.size) := by
  obtain ⟨A2, c2, rfl, b4⟩ := h2
  by_cases hy : 0 < ys.length
  · obtain ⟨gb, go, rfl, hc2⟩ := b4 hy
    obtain ⟨cs2, l2, r2, o2, k2⟩ := hc2.flat
    obtain ⟨cs, h1, ho, h3⟩ := h
    obtain ⟨v', w', hr, hown, hg, _, hat⟩ := run_append_own_at (P := P) w base t ty e i z (Rep.sz α) bytes ht hi hz hsize hby hzs Rep.pos v xs.length cs h1 ⟨gb, go, none⟩ ys.length c2 cs2 l2
      (fun j u hu => by rw [add_plain]; exact r2 j u hu) o2 (by simpa [maxLen] using hlen) hbytes hbase
    refine ⟨v', w', hr, ⟨cs ++ cs2, by rw [List.length_append]; exact hown, fun u hu => ?_, fun j hj => ?_⟩, hg, hat⟩
    · rcases List.mem_append.1 hu with hu | hu
      · exact ho u hu
      · exact o2 u hu
    · have hmono : ∀ (x : α) c, Rep.K w ok x c → Rep.K w' ok x c := fun x c => Rep.mono fun b hb hl => ⟨hb, hg.block b hl (hdis b hb)⟩
      have l1 : cs.length = xs.length * Rep.sz α := h1.1
      by_cases hjx : j < xs.length
      · rw [List.getElem_append_left hjx]
        have hle : j * Rep.sz α + Rep.sz α ≤ cs.length := by rw [l1, ← Nat.succ_mul]; exact Nat.mul_le_mul_right _ hjx
        rw [List.drop_append_of_le_length (by omega), List.take_append_of_le_length (by rw [List.length_drop]; omega)]
        exact hmono _ _ (h3 j hjx)
      · rw [List.getElem_append_right (by omega)]
        have hj2 : j - xs.length < ys.length := by rw [List.length_append] at hj; omega
        have e1 : j * Rep.sz α = cs.length + (j - xs.length) * Rep.sz α := by rw [l1, ← Nat.add_mul]; congr 1; omega
        rw [e1, List.drop_append]
        have e2 : List.drop (cs.length + (j - xs.length) * Rep.sz α) cs = [] := List.drop_eq_nil_of_le (by omega)
        rw [e2, List.nil_append, Nat.add_sub_cancel_left]
        exact hmono _ _ (hK2 _ _ (k2 _ hj2))
  · have hy0 : ys.length = 0 := by omega
    obtain rfl : ys = [] := List.eq_nil_of_length_eq_zero hy0
    obtain ⟨A, c, rfl, hA⟩ := h.slice
    have hc : xs.length ≤ c := by
      obtain ⟨cs, h1, _, _⟩ := h
      rcases h1.2 with ⟨he, hn⟩ | ⟨g, cap, cur, he, hb, hg, hnc, _⟩
      · injection he with _ e2 e3; omega
      · injection he with _ e2 e3; omega
    exact ⟨_, w, run_append_none t ty e i ht hi A _ _ hc A2 c2, by simpa using h, World.grownBy.refl _ _, .inl rfl⟩

/-- In a walk. -/
theorem wpList_append_own' {α : Type} [Rep α] {P : Program} {w : World} {ops : Array Oper} {rest : List Oper} {o : Oper} {a : Act} {Q : Exit → Act → World → Prop} (hgd : o.guard = none)
    (s x : Operand) (t e : TypeId) (ho : o.op = .call { callee := .builtin .append, args := #[s, x], argTypes := #[t, t] }) (z : Value) (bytes : Nat)
    (ht : P.underlying t = some (.slice e)) (hinfo : (P.info? e).map (fun i => (i.zero, i.size, i.bytes)) = some (some z, Rep.sz α, bytes)) (hzs : z.cells.size = Rep.sz α)
    (base : Nat) {ok ok2 : Nat → Prop} {v v2 : Value} {xs ys : List α} (hs : a.eval s = v) (hx : a.eval x = v2) (h : Own w base e ok v xs) (h2 : Arg w ok2 v2 ys)
    (hdis : ∀ b, ok b → some b ≠ v.ownBlock) (hK2 : ∀ (x : α) cs, Rep.K w ok2 x cs → Rep.K w ok x cs)
    (hbase : base ≤ w.heap.size) (hbytes : (xs.length + ys.length) * bytes ≤ 140737488355328) (hlen : xs.length + ys.length ≤ 9223372036854775807) (N : Nat) (hN : xs.length + ys.length = N)
    (hk : ∀ A' c' w', Own w' base e ok (.slice A' N c') (xs ++ ys) → w.grownBy w' v.ownBlock → ((Value.slice A' N c').ownBlock = v.ownBlock ∨ (Value.slice A' N c').ownBlock = some w.heap.size) →
      wpList P ops Q rest (a.put o.dst (.slice A' N c')) w') : wpList P ops Q (o :: rest) a w := by
  obtain ⟨i, hi, hz, hsz, hby⟩ := info_parts hinfo
  obtain ⟨v', w', hr, g1, g2, g3⟩ := own_append (α := α) base t o.type e i z bytes ht hi hz hsz hby hzs h h2 hdis hK2 hbase hbytes hlen
  obtain ⟨A', c', rfl, _⟩ := g1.slice
  rw [List.length_append, hN] at g1 hr g3
  exact wpList_op hgd (exec_append s x t ho hs hx hr) (hk A' c' w' g1 g2 g3)
end Go.Trc
