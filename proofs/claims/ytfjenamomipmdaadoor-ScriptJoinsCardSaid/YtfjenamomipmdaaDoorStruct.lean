/- Structs, arrays, strings and truth values: what they stand for, and what an argument's reading says of them. -/
import Derived.Test.YtfjenamomipmdaaDoorRead
set_option linter.unusedSimpArgs false
set_option linter.unusedVariables false
namespace Go.Trc
open Go Go.RowKit

instance repBool : Rep Bool where
  sz := 1
  pos := by decide
  K := fun _ _ x cs => cs = [.bool x]
  len := by rintro _ _ _ _ rfl; rfl
  one := by rintro _ _ _ _ rfl u hu; simp at hu; subst hu; rfl
  mono := by rintro _ _ _ _ _ _ _ h; exact h

instance repString : Rep ByteArray where
  sz := 1
  pos := by decide
  K := fun _ _ x cs => cs = [.string x] ∧ x.size ≤ maxLen
  len := by rintro _ _ _ _ ⟨rfl, _⟩; rfl
  one := by rintro _ _ _ _ ⟨rfl, _⟩ u hu; simp at hu; subst hu; rfl
  mono := by rintro _ _ _ _ _ _ _ h; exact h

/-- Two things side by side: fields of a struct, places of an array. -/
instance repProd {α β : Type} [Rep α] [Rep β] : Rep (α × β) where
  sz := Rep.sz α + Rep.sz β
  pos := Nat.add_pos_left Rep.pos _
  K := fun w ok x cs => ∃ c1 c2, cs = c1 ++ c2 ∧ Rep.K w ok x.1 c1 ∧ Rep.K w ok x.2 c2
  len := by rintro _ _ _ _ ⟨c1, c2, rfl, h1, h2⟩; rw [List.length_append, Rep.len h1, Rep.len h2]
  one := by
    rintro _ _ _ _ ⟨c1, c2, rfl, h1, h2⟩ u hu
    rcases List.mem_append.1 hu with h | h
    · exact Rep.one h1 u h
    · exact Rep.one h2 u h
  mono := by rintro _ _ _ _ _ _ hm ⟨c1, c2, rfl, h1, h2⟩; exact ⟨c1, c2, rfl, Rep.mono hm h1, Rep.mono hm h2⟩

theorem rd_bool {P : Program} {t : TypeId} (hu : P.underlying t = some .bool) : Rd P t Bool := by
  intro H enc w spare held n cs x h
  obtain ⟨b, rfl, _⟩ := DataW.trod_bool hu h
  exact ⟨b, rfl⟩

theorem rd_string {P : Program} {t : TypeId} (hu : P.underlying t = some .string) : Rd P t ByteArray := by
  intro H enc w spare held n cs x h
  obtain ⟨s, rfl, _, hs⟩ := DataW.trod_string hu h
  exact ⟨s, rfl, hs⟩

/-- Items (their types, and where they begin) read as a thing of α that lies from cell off on. -/
def RdF (P : Program) (off : Nat) (items : List (TypeId × Nat)) (α : Type) [Rep α] : Prop :=
  ∀ {H : Type} (enc : TypeId × Value → H) (w : World) (spare : Nat → Bool) (held : Bool) (n : Nat) (cs : List Value) (xs : List (DataW H × List MemPlace)),
    items.mapM (fun p => DataW.trod enc P w 0 spare held n p.1 ((cs.drop p.2).take (P.cellsOf p.1))) = some xs → ∃ a : α, Rep.K w (fun _ => True) a ((cs.drop off).take (Rep.sz α))

theorem rdF_last {P : Program} {off : Nat} {t : TypeId} {α : Type} [Rep α] (hc : P.cellsOf t = Rep.sz α) (h : Rd P t α) : RdF P off [(t, off)] α := by
  intro H enc w spare held n cs xs hx
  simp only [List.mapM_cons, List.mapM_nil, Option.pure_def, Option.bind_eq_bind, Option.bind_eq_some_iff] at hx
  obtain ⟨y, hy, _⟩ := hx
  rw [← hc]
  exact h enc w spare held n _ y hy

theorem rdF_cons {P : Program} {off off2 : Nat} {t : TypeId} {items : List (TypeId × Nat)} {α β : Type} [Rep α] [Rep β] (hc : P.cellsOf t = Rep.sz α) (h : Rd P t α) (ho : off2 = off + Rep.sz α) (h2 : RdF P off2 items β) :
    RdF P off ((t, off) :: items) (α × β) := by
  intro H enc w spare held n cs xs hx
  simp only [List.mapM_cons, Option.pure_def, Option.bind_eq_bind, Option.bind_eq_some_iff] at hx
  obtain ⟨y, hy, ys, hys, _⟩ := hx
  obtain ⟨a, ha⟩ := h enc w spare held n _ y hy
  obtain ⟨b, hb⟩ := h2 enc w spare held n cs ys hys
  subst ho
  refine ⟨(a, b), _, _, ?_, ha, hb⟩
  rw [hc, show Rep.sz (α × β) = Rep.sz α + Rep.sz β from rfl, List.take_add, List.drop_drop]

theorem rd_struct {P : Program} {t : TypeId} {fs : Array Field} {α : Type} [Rep α] (hu : P.underlying t = some (.struct fs)) (hc : P.cellsOf t = Rep.sz α) (h : RdF P 0 (fs.toList.map fun f => (f.type, f.offset)) α) : Rd P t α := by
  intro H enc w spare held n cs x hx
  cases n with
  | zero => simp [DataW.trod] at hx
  | succ n =>
    unfold DataW.trod at hx
    rw [hu] at hx
    simp only at hx
    split at hx
    · rename_i hl
      obtain ⟨ys, hys, _⟩ := Option.map_eq_some_iff.1 hx
      obtain ⟨a, ha⟩ := h enc w spare held n cs ys (by rw [List.mapM_map]; exact hys)
      rw [List.drop_zero, List.take_of_length_le (by omega)] at ha
      exact ⟨a, ha⟩
    · cases hx

theorem rd_array {P : Program} {t e : TypeId} {k : Nat} {α : Type} [Rep α] (hu : P.underlying t = some (.array k e)) (hc : P.cellsOf t = Rep.sz α) (h : RdF P 0 ((List.range k).map fun i => (e, i * P.cellsOf e)) α) : Rd P t α := by
  intro H enc w spare held n cs x hx
  cases n with
  | zero => simp [DataW.trod] at hx
  | succ n =>
    unfold DataW.trod at hx
    rw [hu] at hx
    simp only at hx
    split at hx
    · rename_i hl
      obtain ⟨ys, hys, _⟩ := Option.map_eq_some_iff.1 hx
      obtain ⟨a, ha⟩ := h enc w spare held n cs ys (by rw [List.mapM_map]; exact hys)
      rw [List.drop_zero, List.take_of_length_le (by omega)] at ha
      exact ⟨a, ha⟩
    · cases hx
end Go.Trc
