/- What an argument's reading says of its value. -/
import Derived.Test.YtfjenamomipmdaaDoorBase
import Derived.Deep.Slices
import Derived.ChangeSame
set_option linter.unusedSimpArgs false
set_option linter.unusedVariables false
namespace Go.Trc
open Go Go.RowKit

/-- Whatever reads at type t stands for a thing of α. -/
def Rd (P : Program) (t : TypeId) (α : Type) [Rep α] : Prop :=
  ∀ {H : Type} (enc : TypeId × Value → H) (w : World) (spare : Nat → Bool) (held : Bool) (n : Nat) (cs : List Value) (x : DataW H × List MemPlace),
    DataW.trod enc P w 0 spare held n t cs = some x → ∃ a : α, Rep.K w (fun _ => True) a cs

theorem rd_byte {P : Program} {t : TypeId} (hu : P.underlying t = some (.int .u8)) : Rd P t UInt8 := by
  intro H enc w spare held n cs x h
  obtain ⟨m, rfl, _, hw⟩ := DataW.trod_int hu h
  have hb : 0 ≤ m ∧ m ≤ 255 := by simpa [Lit.wf, IntKind.min, IntKind.max, IntKind.signed, IntKind.bits] using hw
  refine ⟨UInt8.ofNat m.toNat, ?_⟩
  show [Value.int .u8 m] = [.int .u8 _]
  have : ((UInt8.ofNat m.toNat).toNat : Int) = m := by
    rw [UInt8.toNat_ofNat']
    omega
  rw [this]

theorem rd_int {P : Program} {t : TypeId} (hu : P.underlying t = some (.int .i64)) : Rd P t Int := by
  intro H enc w spare held n cs x h
  obtain ⟨m, rfl, _, hw⟩ := DataW.trod_int hu h
  have hb : -9223372036854775808 ≤ m ∧ m ≤ 9223372036854775807 := by simpa [Lit.wf, IntKind.min, IntKind.max, IntKind.signed, IntKind.bits] using hw
  exact ⟨m, rfl, hb⟩

theorem rd_slice {P : Program} {t e : TypeId} {α : Type} [Rep α] (hu : P.underlying t = some (.slice e)) (hc : P.cellsOf e = Rep.sz α) (he : Rd P e α) : Rd P t (List α) := by
  intro H enc w spare held n cs x h
  rcases Deep.open_slice hu h with ⟨rfl, _⟩ | ⟨a, len, cap, m, n', D, Pl, rfl, hb, hl, hm, hmm, rfl, hx⟩
  · exact ⟨[], _, rfl, Sl.nil0 _ _⟩
  · have hlm : len ≤ m := by rw [hmm]; split <;> omega
    have key : ∀ i, i < len → ∃ (y : α) (cs' : List Value), Rep.K w (fun _ => True) y cs' ∧ w.cells? 0 (a.add (i * Rep.sz α)) (Rep.sz α) = some cs' := fun i hi => by
      obtain ⟨cs', h1, h2⟩ := hx i (by omega)
      obtain ⟨y, hy⟩ := he enc w spare held n' cs' _ h2
      exact ⟨y, cs', hy, by rw [← hc]; exact h1⟩
    have hlist : ∃ ys : List α, ys.length = len ∧ ∀ i (hi : i < ys.length), ∃ cs', Rep.K w (fun _ => True) ys[i] cs' ∧ w.cells? 0 (a.add (i * Rep.sz α)) (Rep.sz α) = some cs' := by
      clear hx hl hm hmm hlm h
      induction len with
      | zero => exact ⟨[], rfl, fun i hi => absurd hi (by simp)⟩
      | succ k ih =>
        obtain ⟨ys, hl, hy⟩ := ih (fun i hi => key i (by omega))
        obtain ⟨y, cs', h1, h2⟩ := key k (by omega)
        refine ⟨ys ++ [y], by simp [hl], fun i hi => ?_⟩
        by_cases hik : i < ys.length
        · rw [List.getElem_append_left hik]; exact hy i hik
        · have hik' : i = k := by simp at hi; omega
          subst hik'
          rw [List.getElem_append_right (by omega)]
          simp only [hl, Nat.sub_self, List.getElem_cons_zero]
          exact ⟨cs', h1, h2⟩
    obtain ⟨ys, rfl, hy⟩ := hlist
    refine ⟨ys, _, rfl, some a, cap, rfl, hl, (by simpa [maxLen] using hm), (fun h => by cases h), fun hp => ?_⟩
    have hs := Rep.pos (α := α)
    have hspot : a.spot = none := by
      obtain ⟨cs', h1, h2⟩ := hy 0 hp
      have hcell := (World.cells?_some h2).2.2 0 hs
      rw [Nat.zero_mul] at hcell
      have e0 : (a.add 0).add 0 = a := by simp [Addr.add]
      rw [e0] at hcell
      have hl' := (World.cells?_some h2).2.1
      rw [List.getElem?_eq_getElem (by omega)] at hcell
      unfold World.cell? at hcell
      split at hcell
      · cases hsp : a.spot with
        | none => rfl
        | some s => simp [hsp] at hcell
      · cases hcell
    obtain ⟨b, o, sp⟩ := a
    simp only at hspot
    subst hspot
    refine ⟨b, o, rfl, trivial, fun j hj => ?_⟩
    obtain ⟨cs', h1, h2⟩ := hy j hj
    refine ⟨cs', h1, fun i u hu => ?_⟩
    obtain ⟨_, hl', hcell⟩ := World.cells?_some h2
    have hi : i < Rep.sz α := by
      rcases Nat.lt_or_ge i cs'.length with h | h
      · omega
      · rw [List.getElem?_eq_none h] at hu; cases hu
    have := hcell i hi
    rw [add_plain, add_plain, hu] at this
    exact this

theorem Rd.val {P : Program} {t : TypeId} {α : Type} [Rep α] (h : Rd P t α) {H : Type} {enc : TypeId × Value → H} {w : World} {spare : Nat → Bool} {held : Bool} {v : Value} {d : DataW H} {p : List MemPlace}
    (ht : DataW.Trod enc P w 0 spare held t v d p) : ∃ a : α, Rep.K w (fun b => b < w.heap.size) a v.cells.toList := by
  obtain ⟨n, hn⟩ := ht
  obtain ⟨a, ha⟩ := h enc w spare held n _ _ hn
  exact ⟨a, Rep.mono (fun b _ hl => ⟨hl, rfl⟩) ha⟩

/-- A slice among the arguments. -/
theorem Rd.sl {P : Program} {t : TypeId} {α : Type} [Rep α] (h : Rd P t (List α)) {H : Type} {enc : TypeId × Value → H} {w : World} {spare : Nat → Bool} {held : Bool} {A : Option Addr} {n c : Nat} {d : DataW H} {p : List MemPlace}
    (ht : DataW.Trod enc P w 0 spare held t (.slice A n c) d p) : ∃ xs : List α, Sl w (fun b => b < w.heap.size) (.slice A n c) xs := by
  obtain ⟨xs, v, he, hv⟩ := h.val ht
  simp [Value.cells] at he
  subst he
  exact ⟨xs, hv⟩
end Go.Trc
