/- What single operations come to: strings, slices. (Program-free.) -/
import Derived.Test.YtfjenamomipmdaaDoorSs
set_option linter.unusedSimpArgs false
set_option linter.unusedVariables false
namespace Go.Trc
open Go Go.RowKit Go.Sx

theorem bytes_toList_inj {x y : ByteArray} : x.toList = y.toList ↔ x = y := by
  constructor
  · intro h
    rw [ByteArray.toList_eq, ByteArray.toList_eq] at h
    cases x; cases y
    simp only at h
    simp only [ByteArray.mk.injEq]
    exact Array.toList_inj.1 h
  · intro h; rw [h]

theorem run_index_str {P : Program} {w : World} (ty : TypeId) (hu : P.underlying ty = some .string) (s : ByteArray) (i : Nat) (hi : i < s.size) (k : IntKind) : (Instr.index ty (.string s) (.int k (i : Int))).run P w = .ok (.int .u8 (s[i].toNat : Int)) w := by
  have h0 : (0 : Int) ≤ i := by omega
  have h1 : s[i]? = some s[i] := by simp [hi]
  simp only [Instr.index, asIntOf, Sem.run_bind, Sem.run_pure, Result.andThen_ok, run_underlying hu, h0, if_true, Int.toNat_natCast, h1]

theorem wrap_in {x : Int} (h : -9223372036854775808 ≤ x ∧ x ≤ 9223372036854775807) : IntKind.i64.wrap x = x := Go.IntWalk.i64_in _ h

/-- 'xs[:k]' -/
theorem run_slice_hi {P : Program} {w : World} (t e : TypeId) (i : TypeInfo) (hu : P.underlying t = some (.slice e)) (hi : P.info? e = some i) (A : Option Addr) (n c k : Nat) (hk : k ≤ c) :
    (Instr.sliceAt t (.slice A n c) none (some (.int .i64 (k : Int))) none).run P w = .ok (.slice (if c = 0 then A else A.map (·.add 0)) k c) w := by
  have h0 : (0 : Int) ≤ k := by omega
  have h1 : (k : Int) ≤ c := by omega
  simp [Instr.sliceAt, run_underlying hu, Instr.slice, Instr.sliceBounds, Instr.sliceBound, asIntOf, h0, h1, hk, Go.Sx.run_sizeOf hi]

/-- An element of a row. -/
theorem Sl.elem {α : Type} [Rep α] {w : World} {ok : Nat → Prop} {A : Option Addr} {n c : Nat} {xs : List α} (h : Sl w ok (.slice A n c) xs) (k : Nat) (hk : k < xs.length) :
    ∃ b o, A = some ⟨b, o, none⟩ ∧ ok b ∧ ∃ cs, Rep.K w ok xs[k] cs ∧ CellsAt w b (o + k * Rep.sz α + 0) cs := by
  obtain ⟨b, o, rfl, hok, hc⟩ := h.at_ (by omega)
  obtain ⟨cs, hK, hcc⟩ := hc k hk
  exact ⟨b, o, rfl, hok, cs, hK, fun j u hu => hcc j u (by rw [nth_eq] at hu; exact hu)⟩
theorem Sl.len {α : Type} [Rep α] {w : World} {ok : Nat → Prop} {A : Option Addr} {n c : Nat} {xs : List α} (h : Sl w ok (.slice A n c) xs) : n = xs.length := h.len_eq.1
theorem drop_at {α : Type} (l : List α) (k : Nat) (h : k < l.length) : l.drop k = l[k] :: l.drop (k + 1) := List.drop_eq_getElem_cons h

/-- One thing in a block. -/
theorem Sl.of_heap {α : Type} [Rep α] {w : World} {ok : Nat → Prop} {b : Nat} {t : TypeId} {fr : Nat × Nat} {cs : List Value} {x : α} (hb : w.heap[b]? = some (.cells cs.toArray t fr)) (hK : Rep.K w ok x cs) (hok : ok b) :
    Sl w ok (.slice (some ⟨b, 0, none⟩) 1 1) [x] := by
  refine ⟨_, 1, rfl, Nat.le_refl _, by omega, fun h => by simp at h, fun _ => ⟨b, 0, rfl, hok, fun j hj => ?_⟩⟩
  have hj0 : j = 0 := by simp at hj; omega
  subst hj0
  refine ⟨cs, hK, fun i u hu => ?_⟩
  rw [cell_of_row w b _ _ t fr hb]
  simpa using hu
end Go.Trc
