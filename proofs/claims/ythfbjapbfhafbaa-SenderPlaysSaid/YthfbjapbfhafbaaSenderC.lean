/- Contracts of the sender's Body and Due. -/
import Derived.Test.YthfbjapbfhafbaaSenderB
set_option linter.unusedSimpArgs false
set_option linter.unusedVariables false
namespace Go.Proofs.Ythfbjapbfhafbaa
open Go.RowKit Go.Proofs Go.Trc

theorem intsInfo : (Try.prog.info? 3).map (fun i => (i.zero, i.size, i.bytes)) = some (some (.int .i64 0), 1, 8) := by kernel_rfl

theorem body_no (w : World) (b n c : Nat) (A : Option Addr) (win acked x : Int)
    (hs : w.heap[b]? = some (.cells #[.int .i64 win, .int .i64 acked, .slice A n c] 51 (0, 0))) (hn : n ≤ 100) (ha : 0 ≤ acked ∧ acked ≤ 1000000) (hx : x ≤ acked ∨ acked + n < x) :
    Calls Try.prog 13 #[.pointer (some ⟨b, 0, none⟩), .int .i64 x] w fun e w' => e = .returned (.tuple #[.slice none 0 0, .bool false]) ∧ ∃ k, w' = w.drewN k := by
  obtain ⟨c0, c1, c2, f0, f1, f2⟩ := cells3 hs
  clear hs
  by_cases h1 : x ≤ acked
  · go_enter Try.func13, Try.ntmps13
    go_wp2_with fail
    go_quiet (fail)
    go_wp2_with fail
    go_ret2
    exact ⟨rfl, _, rfl⟩
  · have h2 : acked + n < x := by omega
    have hd : decide (x ≤ acked) = false := by simpa using h1
    go_enter Try.func13, Try.ntmps13
    go_wp2_with fail
    go_quiet (fail)
    go_wp2_with fail
    go_ret2
    exact ⟨rfl, _, rfl⟩

set_option maxHeartbeats 1000000 in
theorem body_ok (w : World) (ok : Nat → Prop) (b n c k : Nat) (A : Option Addr) (win acked x : Int) (kept : List (List UInt8))
    (hs : w.heap[b]? = some (.cells #[.int .i64 win, .int .i64 acked, .slice A n c] 51 (0, 0))) (hk : Sl w ok (.slice A n c) kept)
    (hn : n ≤ 100) (ha : 0 ≤ acked ∧ acked ≤ 1000000) (hx : x = acked + 1 + k) (hkn : k < kept.length) (hl : kept[k].length ≤ 140737488355328) :
    Calls Try.prog 13 #[.pointer (some ⟨b, 0, none⟩), .int .i64 x] w fun e w' =>
      (∃ A' c', e = .returned (.tuple #[.slice A' kept[k].length c', .bool true]) ∧ Sl w' (fun y => w.heap.size ≤ y) (.slice A' kept[k].length c') kept[k]) ∧ Below w.heap.size w w' := by
  obtain ⟨c0, c1, c2, f0, f1, f2⟩ := cells3 hs
  have hlt := World.block_lt_of_cell? w _ c2
  obtain ⟨hnk, hnc, _⟩ := hk.len_eq
  obtain ⟨g, o, A1, cc1, rfl, hokg, hrow, hv⟩ := hk.row k hkn
  have hltg := World.block_lt_of_cell? w _ hrow
  generalize hr : kept[k] = r at *
  have HV := Lib.hid hv
  clear hk hs hv hr
  have hd1 : decide (x ≤ acked) = false := by simp; omega
  have hd2 : decide (acked + (n : Int) < x) = false := by simp; omega
  have hkn' : k < n := by omega
  have hsub : x - acked - 1 = (k : Int) := by omega
  have hwk : IntKind.i64.wrap (k : Int) = k := Go.IntWalk.i64_in _ (by omega)
  have hw1 : IntKind.i64.wrap (x - acked) = x - acked := Go.IntWalk.i64_in _ (by omega)
  have hk0 : (0 : Int) ≤ k := by omega
  have hk1 : (k : Int) < n := by omega
  clear hx hnk hkn
  go_enter Try.func13, Try.ntmps13
  go_wp2_with fail
  go_quiet (fail)
  go_wp2_with fail
  have hS : (w.drewN nq).drew.cell? ⟨b, 2, none⟩ = some (.slice (some ⟨g, o, none⟩) n c) ∧ (w.drewN nq).drew.cell? ⟨b, 1, none⟩ = some (.int .i64 acked) ∧ (w.drewN nq).drew.cell? ⟨g, o + k, none⟩ = some (.slice A1 r.length cc1) := ⟨c2, c1, hrow⟩
  refine wp_regionF (fun w' => w'.cell? ⟨b, 2, none⟩ = some (.slice (some ⟨g, o, none⟩) n c) ∧ w'.cell? ⟨b, 1, none⟩ = some (.int .i64 acked) ∧ w'.cell? ⟨g, o + k, none⟩ = some (.slice A1 r.length cc1)) [] (by kernel_rfl) ?_
  refine wpF_take0 0 rfl (by kernel_rfl) (by kernel_rfl) (by kernel_rfl) (by kernel_rfl) no_panic (.inr hS) rfl ?_
  apply Exists.intro; refine ⟨fun w' => ?_, ?_⟩
  · go_simp; (try with_reducible rfl)
  simp only [Act.put, List.setIfInBounds_toArray, List.set_cons_zero, List.set_cons_succ, List.getElem_toArray, List.getElem_cons_zero, List.getElem_cons_succ]
  refine wpF_take0 1 rfl (by kernel_rfl) (by kernel_rfl) (by kernel_rfl) (by kernel_rfl) no_panic (.inr hS) rfl ?_
  apply Exists.intro; refine ⟨fun w' => ?_, ?_⟩
  · go_simp; (try with_reducible rfl)
  simp only [Act.put, List.setIfInBounds_toArray, List.set_cons_zero, List.set_cons_succ, List.getElem_toArray, List.getElem_cons_zero, List.getElem_cons_succ]
  refine wpF_take0 2 rfl (by kernel_rfl) (by kernel_rfl) (by kernel_rfl) (by kernel_rfl) no_panic (.inr hS) rfl ?_
  apply Exists.intro; refine ⟨fun w' => ?_, ?_⟩
  · go_simp; (try with_reducible rfl)
  simp only [Act.put, List.setIfInBounds_toArray, List.set_cons_zero, List.set_cons_succ, List.getElem_toArray, List.getElem_cons_zero, List.getElem_cons_succ]
  refine wpF_take 3 rfl (by kernel_rfl) (by kernel_rfl) (by kernel_rfl) (by kernel_rfl) (by kernel_rfl) no_panic hS rfl ?_
  apply Exists.intro; refine ⟨fun w' hw' => ?_, ?_⟩
  · (try dsimp only at hw'); go_simp; (try with_reducible rfl)
  simp only [Act.put, List.setIfInBounds_toArray, List.set_cons_zero, List.set_cons_succ, List.getElem_toArray, List.getElem_cons_zero, List.getElem_cons_succ]
  refine wpF_take0 4 rfl (by kernel_rfl) (by kernel_rfl) (by kernel_rfl) (by kernel_rfl) no_panic (.inr hS) rfl ?_
  apply Exists.intro; refine ⟨fun w' => ?_, ?_⟩
  · go_simp; (try with_reducible rfl)
  simp only [Act.put, List.setIfInBounds_toArray, List.set_cons_zero, List.set_cons_succ, List.getElem_toArray, List.getElem_cons_zero, List.getElem_cons_succ]
  refine wpF_take0 5 rfl (by kernel_rfl) (by kernel_rfl) (by kernel_rfl) (by kernel_rfl) no_panic (.inr hS) rfl ?_
  apply Exists.intro; refine ⟨fun w' => ?_, ?_⟩
  · go_simp; (try with_reducible rfl)
  simp only [Act.put, List.setIfInBounds_toArray, List.set_cons_zero, List.set_cons_succ, List.getElem_toArray, List.getElem_cons_zero, List.getElem_cons_succ]
  refine wpF_take0 6 rfl (by kernel_rfl) (by kernel_rfl) (by kernel_rfl) (by kernel_rfl) no_panic (.inr hS) rfl ?_
  apply Exists.intro; refine ⟨fun w' => ?_, ?_⟩
  · go_simp; (try with_reducible rfl)
  simp only [Act.put, List.setIfInBounds_toArray, List.set_cons_zero, List.set_cons_succ, List.getElem_toArray, List.getElem_cons_zero, List.getElem_cons_succ]
  refine wpF_take0 7 rfl (by kernel_rfl) (by kernel_rfl) (by kernel_rfl) (by kernel_rfl) no_panic (.inr hS) rfl ?_
  apply Exists.intro; refine ⟨fun w' => ?_, ?_⟩
  · go_simp; (try with_reducible rfl)
  simp only [Act.put, List.setIfInBounds_toArray, List.set_cons_zero, List.set_cons_succ, List.getElem_toArray, List.getElem_cons_zero, List.getElem_cons_succ]
  refine wpF_take 8 rfl (by kernel_rfl) (by kernel_rfl) (by kernel_rfl) (by kernel_rfl) (by kernel_rfl) no_panic hS rfl ?_
  apply Exists.intro; refine ⟨fun w' hw' => ?_, ?_⟩
  · (try dsimp only at hw'); go_simp; (try with_reducible rfl)
  simp only [Act.put, List.setIfInBounds_toArray, List.set_cons_zero, List.set_cons_succ, List.getElem_toArray, List.getElem_cons_zero, List.getElem_cons_succ]
  refine wpF_take0 9 rfl (by kernel_rfl) (by kernel_rfl) (by kernel_rfl) (by kernel_rfl) no_panic (.inr hS) rfl ?_
  apply Exists.intro; refine ⟨fun w' => ?_, ?_⟩
  · go_simp; (try with_reducible rfl)
  simp only [Act.put, List.setIfInBounds_toArray, List.set_cons_zero, List.set_cons_succ, List.getElem_toArray, List.getElem_cons_zero, List.getElem_cons_succ]
  refine wpF_take0 10 rfl (by kernel_rfl) (by kernel_rfl) (by kernel_rfl) (by kernel_rfl) no_panic (.inr hS) rfl ?_
  apply Exists.intro; refine ⟨fun w' => ?_, ?_⟩
  · go_simp; (try with_reducible rfl)
  simp only [Act.put, List.setIfInBounds_toArray, List.set_cons_zero, List.set_cons_succ, List.getElem_toArray, List.getElem_cons_zero, List.getElem_cons_succ]
  refine wpF_take0 11 rfl (by kernel_rfl) (by kernel_rfl) (by kernel_rfl) (by kernel_rfl) no_panic (.inr hS) rfl ?_
  apply Exists.intro; refine ⟨fun w' => ?_, ?_⟩
  · go_simp; (try with_reducible rfl)
  simp only [Act.put, List.setIfInBounds_toArray, List.set_cons_zero, List.set_cons_succ, List.getElem_toArray, List.getElem_cons_zero, List.getElem_cons_succ]
  refine wpF_take 12 rfl (by kernel_rfl) (by kernel_rfl) (by kernel_rfl) (by kernel_rfl) (by kernel_rfl) no_panic hS rfl ?_
  apply Exists.intro; refine ⟨fun w' hw' => ?_, ?_⟩
  · (try dsimp only at hw'); go_simp; (try with_reducible rfl)
  simp only [Act.put, List.setIfInBounds_toArray, List.set_cons_zero, List.set_cons_succ, List.getElem_toArray, List.getElem_cons_zero, List.getElem_cons_succ]
  refine wpF_do 13 (by kernel_rfl) rfl rfl (fun K hK => ?_)
  go_simp
  refine (clone_bytes _ ok (.slice A1 r.length cc1) r (by exact HV.out) hl).mono ?_
  rintro e w1 ⟨A2, cc2, rfl, g1, g2⟩
  have G2 : Hid (Below w.heap.size w w1) := ⟨g2.os, g2.tape, g2.output, g2.size, g2.block⟩
  have G1 := Lib.hid g1
  clear g1 g2
  refine hK.out _ _ ?_ (fun hS13 => ?_)
  · exact ⟨(G2.out.cell (p := ⟨b, 2, none⟩) hlt).trans c2, (G2.out.cell (p := ⟨b, 1, none⟩) hlt).trans c1, (G2.out.cell (p := ⟨g, o + k, none⟩) hltg).trans hrow⟩
  clear hK K
  try simp only [Act.put, List.setIfInBounds_toArray, List.set_cons_zero, List.set_cons_succ, List.getElem_toArray, List.getElem_cons_zero, List.getElem_cons_succ]
  refine wpF_take0 14 rfl (by kernel_rfl) (by kernel_rfl) (by kernel_rfl) (by kernel_rfl) no_panic (.inr hS13) rfl ?_
  apply Exists.intro; refine ⟨fun w' => ?_, ?_⟩
  · go_simp; (try with_reducible rfl)
  simp only [Act.put, List.setIfInBounds_toArray, List.set_cons_zero, List.set_cons_succ, List.getElem_toArray, List.getElem_cons_zero, List.getElem_cons_succ]
  refine wpF_take0 15 rfl (by kernel_rfl) (by kernel_rfl) (by kernel_rfl) (by kernel_rfl) no_panic (.inr hS13) rfl ?_
  apply Exists.intro; refine ⟨fun w' => ?_, ?_⟩
  · go_simp; (try with_reducible rfl)
  simp only [Act.put, List.setIfInBounds_toArray, List.set_cons_zero, List.set_cons_succ, List.getElem_toArray, List.getElem_cons_zero, List.getElem_cons_succ]
  refine wpF_done (by kernel_rfl) (NoPanic.normal ?_)
  clear hS hS13
  go_wp2_with fail
  go_ret2
  exact ⟨⟨A2, cc2, rfl, G1.out⟩, G2.out⟩

/-- The numbers of what is kept. -/
def dueOf (acked : Int) (n : Nat) : List Int := (List.range n).map fun (i : Nat) => acked + 1 + i
theorem due_len (acked : Int) (n : Nat) : (dueOf acked n).length = n := by simp [dueOf]
theorem due_succ (acked : Int) (n : Nat) : dueOf acked (n + 1) = dueOf acked n ++ [acked + 1 + n] := by simp [dueOf, List.range_succ]

set_option maxHeartbeats 1000000 in
theorem due_any (w : World) (b n c : Nat) (A : Option Addr) (win acked : Int)
    (hs : w.heap[b]? = some (.cells #[.int .i64 win, .int .i64 acked, .slice A n c] 51 (0, 0))) (hn : n ≤ 100) (ha : 0 ≤ acked ∧ acked ≤ 1000000) :
    Calls Try.prog 12 #[.pointer (some ⟨b, 0, none⟩)] w (RetNew w (dueOf acked n)) := by
  obtain ⟨c0, c1, c2, f0, f1, f2⟩ := cells3 hs
  have hlt := World.block_lt_of_cell? w _ c2
  clear hs
  go_enter Try.func12, Try.ntmps12
  go_wp2_with fail
  go_loopw [3, 10] (fun v i wr => ∃ (k : Nat) (A1 : Option Addr) (cc : Nat), k ≤ n ∧ i = .int .i64 k ∧ v = .slice A1 k cc ∧ Own wr w.heap.size 3 (fun _ => False) (.slice A1 k cc) (dueOf acked k) ∧ Below w.heap.size w wr)
      (fun _ i _ => n - (intOf i).toNat)
  case atStart => exact ⟨0, none, 0, Nat.zero_le _, rfl, rfl, Own.nil _ _ _ _, Below.refl _ _⟩
  case round =>
    obtain ⟨k, A1, cc, hk, rfl, rfl, hown, hb⟩ := hrel
    have k1 := (hb.cell (p := ⟨b, 1, none⟩) hlt).trans c1
    have HO := Lib.hid hown
    have HB := Lib.hid hb
    have hsz := hb.size
    clear hown hb
    by_cases hlt : k < n
    · go_wp2_with (at_builtin; refine wpList_append_own' (α := Int) (xs := dueOf acked k) (ys := [acked + 1 + k]) rfl (.tmp 13) (.tmp 21) 32 3 rfl (.int .i64 0) 8 Try.underlying32 intsInfo rfl w.heap.size (ok := fun _ => False) rfl rfl (HO.out.below ((Below.refl _ _).alloc (Nat.le_refl _) _)) (Arg.single (ok := fun _ => True) _ ⟨rfl, by omega⟩) (fun _ h => h.elim) (fun _ _ h => h) (by simp; omega) (by simp [due_len]; omega) (by simp [due_len]; omega) (k + 1) (by simp [due_len]) ?_)
      intro A' c' w' o' g' _
      have hb' := below_append HB.out hsz g' HO.out.base
      rw [← due_succ] at o'
      have HO' := Lib.hid o'
      have HB' := Lib.hid hb'
      clear o' hb' g' HO HB
      go_wp2
      go_roundw
      case rel => exact ⟨k + 1, A', c', by omega, by go_num, rfl, HO'.out, HB'.out⟩
      case measure => simp [intOf]; omega
    · have hkn : k = n := by omega
      subst hkn
      go_wp2
      go_ret
      have hs := HO.out.sl (fun b => w.heap.size ≤ b) (fun _ h => h) (fun _ _ h => h)
      exact .mk hs HB.out
end Go.Proofs.Ythfbjapbfhafbaa
