/- Contracts of slices.Clone at bytes, and of the statements' 'short'. -/
import Derived.Test.YthfbjapbfhafbaaRows
import Derived.Test.YthfbjapbfhafbaaBase
set_option linter.unusedSimpArgs false
set_option linter.unusedVariables false
namespace Go.Proofs.Ythfbjapbfhafbaa
open Go.RowKit Go.Proofs Go.Trc

theorem bytesInfo : (Try.prog.info? 5).map (fun i => (i.zero, i.size, i.bytes)) = some (some (.int .u8 0), 1, 1) := by kernel_rfl
theorem rowsInfo : (Try.prog.info? 29).map (fun i => (i.zero, i.size, i.bytes)) = some (some (.slice none 0 0), 1, 24) := by kernel_rfl

theorem clone_nil (w : World) (n : Nat) : Calls Try.prog 22 #[.slice none n 0] w fun e w' => e = .returned (.slice none 0 0) ∧ w = w' := by
  have he := fun W : World => Lib.run_eql_slice_nil (P := Try.prog) W 29 5 none n 0 0 0 Try.underlying29
  go_enter Try.func22, Try.ntmps22
  go_wp2
  go_ret
  exact ⟨rfl, rfl⟩

set_option maxHeartbeats 400000 in
theorem clone_some (w : World) (ok : Nat → Prop) (a : Addr) (n c : Nat) (xs : List UInt8) (h : Sl w ok (.slice (some a) n c) xs) (hb : xs.length ≤ 140737488355328) :
    Calls Try.prog 22 #[.slice (some a) n c] w (RetNew w xs) := by
  have he := fun W : World => Lib.run_eql_slice_nil (P := Try.prog) W 29 5 (some a) n c 0 0 Try.underlying29
  go_enter Try.func22, Try.ntmps22
  go_wp2_with (at_builtin; refine wpList_copy_bytes rfl (.tmp 5) (.tmp 6) 29 5 rfl Try.underlying29 bytesInfo rfl rfl (h.alloc _) hb _ rfl ?_)
  intro A1 c1 w1 s1 b1 n1
  clear he h
  go_wp2
  go_ret
  exact .mk (s1.weaken fun b hb _ => by subst hb; simp) (below_new b1)

theorem clone_bytes (w : World) (ok : Nat → Prop) (v : Value) (xs : List UInt8) (h : Sl w ok v xs) (hb : xs.length ≤ 140737488355328) :
    Calls Try.prog 22 #[v] w (RetNew w xs) := by
  obtain ⟨A, c, rfl, h1, h2, h3, h4⟩ := id h
  rcases A with _ | a
  · have hc := h3 rfl
    obtain rfl : xs = [] := List.eq_nil_of_length_eq_zero (by omega)
    subst hc
    refine (clone_nil w _).mono ?_
    rintro e w' ⟨rfl, rfl⟩
    exact .mk (Sl.nil0 _ _) (Below.refl _ _)
  · exact clone_some w ok a _ c xs h hb

/-- 'short': at most 60 bytes. -/
def cut60 (xs : List UInt8) : List UInt8 := xs.take 60

theorem short_any (w : World) (ok : Nat → Prop) (v : Value) (xs : List UInt8) (h : Sl w ok v xs) :
    Calls Try.prog 10 #[v] w fun e w' => (∃ v', e = .returned v' ∧ Sl w ok v' (cut60 xs)) ∧ w = w' := by
  obtain ⟨A, c, rfl, h1, h2, h3, h4⟩ := id h
  by_cases hl : 60 < xs.length
  · have ht := h.take 60 c (by omega) (by omega) (Nat.le_refl _)
    have H := Lib.hid h
    clear h h4
    have hc : (60 : Int) ≤ c := by omega
    go_enter Try.func10, Try.ntmps10
    go_wp2
    go_ret
    exact ⟨⟨_, rfl, ht⟩, rfl⟩
  · have H := Lib.hid h
    clear h h4
    go_enter Try.func10, Try.ntmps10
    go_wp2
    go_ret
    exact ⟨⟨_, rfl, by unfold cut60; rw [List.take_of_length_le (by omega)]; exact H.out⟩, rfl⟩
end Go.Proofs.Ythfbjapbfhafbaa
