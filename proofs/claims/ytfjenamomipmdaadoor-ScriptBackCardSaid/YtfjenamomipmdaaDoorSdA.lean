/- Script: strings.Cut at a line's end. -/
import Derived.Test.YtfjenamomipmdaaDoorScN
import Derived.Test.YtfjenamomipmdaaDoorShC
import Derived.Test.YtfjenamomipmdaaDoorSpC
set_option linter.unusedSimpArgs false
set_option linter.unusedVariables false
namespace Go.Proofs.YtfjenamomipmdaaDoor
open Go Go.RowKit Go.Proofs Go.Trc Go.Sx
theorem idx_no : ∀ {xs : List UInt8}, (10 : UInt8) ∉ xs → Lib.indexByte xs 10 = -1
  | [], _ => rfl
  | b :: l, h => by
    have hb : (b == 10) = false := by simp only [beq_eq_false_iff_ne]; rintro rfl; exact h (by simp)
    have ih := idx_no (xs := l) fun hm => h (List.mem_cons_of_mem _ hm)
    rw [Lib.indexByte, hb, ih]; rfl
theorem idx_yes : ∀ {a : List UInt8} (r : List UInt8), (10 : UInt8) ∉ a → Lib.indexByte (a ++ 10 :: r) 10 = a.length
  | [], r, _ => rfl
  | b :: l, r, h => by
    have hb : (b == 10) = false := by simp only [beq_eq_false_iff_ne]; rintro rfl; exact h (by simp)
    have ih := idx_yes (a := l) r fun hm => h (List.mem_cons_of_mem _ hm)
    have e : (((l.length : Nat) : Int) == -1) = false := by simp only [beq_eq_false_iff_ne]; omega
    rw [List.cons_append, Lib.indexByte, hb, ih, e]
    simp
theorem cut_hi_s {w : World} (a r : List UInt8) : (Instr.sliceAt 9 (.string ⟨(a ++ r).toArray⟩) none (some (.int .i64 (a.length : Int))) none).run Tryd.prog w = .ok (.string ⟨a.toArray⟩) w := by
  rw [run_cut_s ⟨(a ++ r).toArray⟩ a.length (by show _ ≤ (a ++ r).toArray.size; simp)]
  congr 3
  apply ByteArray.ext
  rw [ByteArray.data_extract]
  simp
theorem cut_lo_s {w : World} (a r : List UInt8) : (Instr.sliceAt 9 (.string ⟨(a ++ r).toArray⟩) (some (.int .i64 (a.length : Int))) none none).run Tryd.prog w = .ok (.string ⟨r.toArray⟩) w := by
  have h0 : (0 : Int) ≤ a.length := by omega
  have hs : (⟨(a ++ r).toArray⟩ : ByteArray).size = a.length + r.length := by show (a ++ r).toArray.size = _; simp
  have h1 : (a.length : Int) ≤ ((a.length + r.length : Nat) : Int) := by omega
  have e : (⟨(a ++ r).toArray⟩ : ByteArray).extract a.length (a.length + r.length) = ⟨r.toArray⟩ := by
    apply ByteArray.ext
    rw [ByteArray.data_extract]
    simp
  simp [Instr.sliceAt, run_underlying Tryd.underlying9, Instr.slice, Instr.sliceBounds, Instr.sliceBound, asIntOf, h0, hs, h1, e]
theorem slCut_no (w : World) (xs : List UInt8) (h : (10 : UInt8) ∉ xs) : Calls Tryd.prog 83 #[.string ⟨xs.toArray⟩, .string ⟨#[10]⟩] w (Ret (.tuple #[.string ⟨xs.toArray⟩, .string ⟨#[]⟩, .bool false]) w) := by
  refine slCut_sx _ (fun _ => False) w _ _ ?_
  refine (Tryd.stringslite_Index_one ⟨xs.toArray⟩ 10 w).mono ?_
  rintro e w' ⟨rfl, rfl⟩
  have hi : Lib.indexByte (⟨xs.toArray⟩ : ByteArray).data.toList 10 = -1 := by simpa using idx_no h
  rw [hi]
  refine ⟨_, rfl, ⟨Fr.refl _ _, by exact ⟨Nat.le_refl _, fun _ h => by cases h⟩⟩, fun hge => absurd hge (by decide), fun _ => ⟨rfl, Below.refl _ _⟩⟩
theorem slCut_yes (w : World) (a r : List UInt8) (h : (10 : UInt8) ∉ a) (hl : a.length ≤ 1000000) : Calls Tryd.prog 83 #[.string ⟨(a ++ 10 :: r).toArray⟩, .string ⟨#[10]⟩] w (Ret (.tuple #[.string ⟨a.toArray⟩, .string ⟨r.toArray⟩, .bool true]) w) := by
  refine slCut_sx _ (fun _ => False) w _ _ ?_
  refine (Tryd.stringslite_Index_one ⟨(a ++ 10 :: r).toArray⟩ 10 w).mono ?_
  rintro e w' ⟨rfl, rfl⟩
  have hi : Lib.indexByte (⟨(a ++ 10 :: r).toArray⟩ : ByteArray).data.toList 10 = a.length := by simpa using idx_yes r h
  rw [hi]
  have h1 : (⟨#[10]⟩ : ByteArray).size = 1 := rfl
  refine ⟨_, rfl, ⟨Fr.refl _ _, by exact ⟨Nat.le_refl _, fun _ h => by cases h⟩⟩, fun _ w2 f2 b2 => ⟨_, fun w' _ => cut_hi_s a (10 :: r), _, fun w' _ => ?_, rfl, b2⟩, fun hlt => absurd hlt (by omega)⟩
  rw [h1, wrap_in (by omega)]
  have := cut_lo_s (w := w') (a ++ [10]) r
  rw [List.append_assoc, List.length_append, List.length_singleton] at this
  simpa using this
theorem cut_no (w : World) (xs : List UInt8) (h : (10 : UInt8) ∉ xs) : Calls Tryd.prog 59 #[.string ⟨xs.toArray⟩, .string ⟨#[10]⟩] w (Ret (.tuple #[.string ⟨xs.toArray⟩, .string ⟨#[]⟩, .bool false]) w) := by
  refine cut_sx _ (fun _ => False) w _ _ ?_
  refine (slCut_no w xs h).mono ?_
  rintro e w' ⟨rfl, b⟩
  exact ⟨_, _, _, rfl, ok_ret b (Fr.refl _ _), rfl, b⟩
theorem cut_yes (w : World) (a r : List UInt8) (h : (10 : UInt8) ∉ a) (hl : a.length ≤ 1000000) : Calls Tryd.prog 59 #[.string ⟨(a ++ 10 :: r).toArray⟩, .string ⟨#[10]⟩] w (Ret (.tuple #[.string ⟨a.toArray⟩, .string ⟨r.toArray⟩, .bool true]) w) := by
  refine cut_sx _ (fun _ => False) w _ _ ?_
  refine (slCut_yes w a r h hl).mono ?_
  rintro e w' ⟨rfl, b⟩
  exact ⟨_, _, _, rfl, ok_ret b (Fr.refl _ _), rfl, b⟩
end Go.Proofs.YtfjenamomipmdaaDoor
