/- Contracts of a sender's Body and of slices.Clone that tell the new block. -/
import Derived.Test.YthfbjapbfhafbaaSenderE
set_option linter.unusedSimpArgs false
set_option linter.unusedVariables false
namespace Go.Proofs.Ythfbjapbfhafbaa
open Go.RowKit Go.Proofs Go.Trc

/-- The call gives a row of bytes of its own. -/
def RetOwn (w : World) (xs : List UInt8) (e : Ending) (w' : World) : Prop :=
  ∃ A c, e = .returned (.slice A xs.length c) ∧ Own w' w.heap.size 5 (fun _ => False) (.slice A xs.length c) xs ∧ Below w.heap.size w w'

theorem own_bytes_sl {w : World} {base : Nat} {e : TypeId} {v : Value} {xs : List UInt8} (h : Own w base e (fun _ => False) v xs) (ok : Nat → Prop) (hok : ∀ b, base ≤ b → ok b) : Sl w ok v xs :=
  h.sl ok hok fun _ _ h => h

theorem own_block {w : World} {base : Nat} {e : TypeId} {ok : Nat → Prop} {A : Option Addr} {n c : Nat} {xs : List UInt8} (h : Own w base e ok (.slice A n c) xs) (hp : 0 < xs.length) :
    ∃ g cs, A = some ⟨g, 0, none⟩ ∧ base ≤ g ∧ w.heap[g]? = some (.cells cs e (0, 0)) ∧ xs.length ≤ cs.size := by
  obtain ⟨cs, h1, _, _⟩ := h
  rcases h1.2 with ⟨hv, hn⟩ | ⟨g, cap, cur, hv, hb, hg, hnc, hcm, hcs, htake⟩
  · omega
  · injection hv with e1 _ _
    exact ⟨g, cur, e1, hb, hg, by rw [hcs]; simpa [show Rep.sz UInt8 = 1 from rfl] using hnc⟩

/-- A cell of a row is stored to. -/
theorem row_set {w : World} {g k n : Nat} {cs : Array Value} {e : TypeId} (h : w.heap[g]? = some (.cells cs e (0, 0))) (hn : n ≤ cs.size) (v : Value) :
    ∃ cs', (w.setCell ⟨g, k, none⟩ v).heap[g]? = some (.cells cs' e (0, 0)) ∧ n ≤ cs'.size :=
  ⟨_, heap_setCell_same w g k cs e v h, by simpa using hn⟩

theorem row_cell {w : World} {g k n : Nat} {cs : Array Value} {e : TypeId} (h : w.heap[g]? = some (.cells cs e (0, 0))) (hn : n ≤ cs.size) (hk : k < n) :
    ∃ v, w.cell? ⟨g, k, none⟩ = some v ∧ w.frozen? ⟨g, k, none⟩ = false :=
  ⟨cs[k]'(by omega), (cell_of_row w g k _ _ _ h).trans (Array.getElem?_eq_getElem (by omega)), frozen_of_row w g k _ _ h⟩

theorem grown_set {w w' : World} {g k : Nat} (h : w.grownBy w' (some g)) (v : Value) : w.grownBy (w'.setCell ⟨g, k, none⟩ v) (some g) :=
  ⟨h.os, h.tape, h.output, Nat.le_trans h.size (by simp [World.setCell]), fun i hi hne => (Below.heap_setCell w' ⟨g, k, none⟩ v i (fun e => hne (by rw [e]))).trans (h.block i hi hne)⟩

set_option maxHeartbeats 400000 in
theorem clone_own_some (w : World) (ok : Nat → Prop) (a : Addr) (n c : Nat) (xs : List UInt8) (h : Sl w ok (.slice (some a) n c) xs) (hb : xs.length ≤ 140737488355328) :
    Calls Try.prog 22 #[.slice (some a) n c] w (RetOwn w xs) := by
  have he := fun W : World => Lib.run_eql_slice_nil (P := Try.prog) W 29 5 (some a) n c 0 0 Try.underlying29
  go_enter Try.func22, Try.ntmps22
  go_wp2_with (at_builtin; refine wpList_append_own' (α := UInt8) (xs := []) (ys := xs) rfl (.tmp 5) (.tmp 6) 29 5 rfl (.int .u8 0) 1 Try.underlying29 bytesInfo rfl w.heap.size (ok := fun _ => False) (ok2 := ok) rfl rfl (Own.made _ _ _ _ (Nat.le_refl _)) (h.alloc _).arg (fun _ h => h.elim) (fun _ _ h => h) (by simp) (by simp; omega) (by simp; omega) xs.length (by simp) ?_)
  intro A1 c1 w1 o1 g1 _
  have b1 : Below w.heap.size w w1 := below_append (Below.refl _ _) (Nat.le_refl _) g1 (by simp [Value.ownBlock])
  clear he h
  go_wp2
  go_ret
  exact ⟨_, _, rfl, o1, b1⟩

theorem clone_own (w : World) (ok : Nat → Prop) (v : Value) (xs : List UInt8) (h : Sl w ok v xs) (hb : xs.length ≤ 140737488355328) :
    Calls Try.prog 22 #[v] w (RetOwn w xs) := by
  obtain ⟨A, c, rfl, h1, h2, h3, h4⟩ := id h
  rcases A with _ | a
  · have hc := h3 rfl
    obtain rfl : xs = [] := List.eq_nil_of_length_eq_zero (by omega)
    subst hc
    refine (clone_nil w _).mono ?_
    rintro e w' ⟨rfl, rfl⟩
    exact ⟨none, 0, rfl, Own.nil _ _ _ _, Below.refl _ _⟩
  · exact clone_own_some w ok a _ c xs h hb

theorem body_own (w : World) (ok : Nat → Prop) (b n c k : Nat) (A : Option Addr) (win acked x : Int) (kept : List (List UInt8))
    (hs : w.heap[b]? = some (.cells #[.int .i64 win, .int .i64 acked, .slice A n c] 51 (0, 0))) (hk : Sl w ok (.slice A n c) kept)
    (hn : n ≤ 100) (ha : 0 ≤ acked ∧ acked ≤ 1000000) (hx : x = acked + 1 + k) (hkn : k < kept.length) (hl : kept[k].length ≤ 140737488355328) :
    Calls Try.prog 13 #[.pointer (some ⟨b, 0, none⟩), .int .i64 x] w fun e w' =>
      ∃ A' c', e = .returned (.tuple #[.slice A' kept[k].length c', .bool true]) ∧ Own w' w.heap.size 5 (fun _ => False) (.slice A' kept[k].length c') kept[k] ∧ Below w.heap.size w w' := by
  obtain ⟨c0, c1, c2, f0, f1, f2⟩ := cells3 hs
  have hlt := World.block_lt_of_cell? w _ c2
  obtain ⟨hnk, hnc, _⟩ := hk.len_eq
  obtain ⟨g, o, A1, cc1, rfl, hokg, hrow, hv⟩ := hk.row k hkn
  have hltg := World.block_lt_of_cell? w _ hrow
  generalize hr : kept[k] = r at *
  have HV := Lib.hid hv
  clear hk hs hv hr
  have hd1 : decide (x ≤ acked) = false := by simp; omega
  have hd2 : decide (acked + (n : Int) < x) = false := by simp; omega
  have hkn' : k < n := by omega
  have hsub : x - acked - 1 = (k : Int) := by omega
  have hwk : IntKind.i64.wrap (k : Int) = k := Go.IntWalk.i64_in _ (by omega)
  have hw1 : IntKind.i64.wrap (x - acked) = x - acked := Go.IntWalk.i64_in _ (by omega)
  have hk0 : (0 : Int) ≤ k := by omega
  have hk1 : (k : Int) < n := by omega
  clear hx hnk hkn
  go_enter Try.func13, Try.ntmps13
  go_wp2_with fail
  go_quiet (fail)
  go_wp2_with fail
  have hS : (w.drewN nq).drew.cell? ⟨b, 2, none⟩ = some (.slice (some ⟨g, o, none⟩) n c) ∧ (w.drewN nq).drew.cell? ⟨b, 1, none⟩ = some (.int .i64 acked) ∧ (w.drewN nq).drew.cell? ⟨g, o + k, none⟩ = some (.slice A1 r.length cc1) := ⟨c2, c1, hrow⟩
  refine wp_regionF (fun w' => w'.cell? ⟨b, 2, none⟩ = some (.slice (some ⟨g, o, none⟩) n c) ∧ w'.cell? ⟨b, 1, none⟩ = some (.int .i64 acked) ∧ w'.cell? ⟨g, o + k, none⟩ = some (.slice A1 r.length cc1)) [] (by kernel_rfl) ?_
  refine wpF_take0 0 rfl (by kernel_rfl) (by kernel_rfl) (by kernel_rfl) (by kernel_rfl) no_panic (.inr hS) rfl ?_
  apply Exists.intro; refine ⟨fun w' => ?_, ?_⟩
  · go_simp; (try with_reducible rfl)
  simp only [Act.put, List.setIfInBounds_toArray, List.set_cons_zero, List.set_cons_succ, List.getElem_toArray, List.getElem_cons_zero, List.getElem_cons_succ]
  refine wpF_take0 1 rfl (by kernel_rfl) (by kernel_rfl) (by kernel_rfl) (by kernel_rfl) no_panic (.inr hS) rfl ?_
  apply Exists.intro; refine ⟨fun w' => ?_, ?_⟩
  · go_simp; (try with_reducible rfl)
  simp only [Act.put, List.setIfInBounds_toArray, List.set_cons_zero, List.set_cons_succ, List.getElem_toArray, List.getElem_cons_zero, List.getElem_cons_succ]
  refine wpF_take0 2 rfl (by kernel_rfl) (by kernel_rfl) (by kernel_rfl) (by kernel_rfl) no_panic (.inr hS) rfl ?_
  apply Exists.intro; refine ⟨fun w' => ?_, ?_⟩
  · go_simp; (try with_reducible rfl)
  simp only [Act.put, List.setIfInBounds_toArray, List.set_cons_zero, List.set_cons_succ, List.getElem_toArray, List.getElem_cons_zero, List.getElem_cons_succ]
  refine wpF_take 3 rfl (by kernel_rfl) (by kernel_rfl) (by kernel_rfl) (by kernel_rfl) (by kernel_rfl) no_panic hS rfl ?_
  apply Exists.intro; refine ⟨fun w' hw' => ?_, ?_⟩
  · (try dsimp only at hw'); go_simp; (try with_reducible rfl)
  simp only [Act.put, List.setIfInBounds_toArray, List.set_cons_zero, List.set_cons_succ, List.getElem_toArray, List.getElem_cons_zero, List.getElem_cons_succ]
  refine wpF_take0 4 rfl (by kernel_rfl) (by kernel_rfl) (by kernel_rfl) (by kernel_rfl) no_panic (.inr hS) rfl ?_
  apply Exists.intro; refine ⟨fun w' => ?_, ?_⟩
  · go_simp; (try with_reducible rfl)
  simp only [Act.put, List.setIfInBounds_toArray, List.set_cons_zero, List.set_cons_succ, List.getElem_toArray, List.getElem_cons_zero, List.getElem_cons_succ]
  refine wpF_take0 5 rfl (by kernel_rfl) (by kernel_rfl) (by kernel_rfl) (by kernel_rfl) no_panic (.inr hS) rfl ?_
  apply Exists.intro; refine ⟨fun w' => ?_, ?_⟩
  · go_simp; (try with_reducible rfl)
  simp only [Act.put, List.setIfInBounds_toArray, List.set_cons_zero, List.set_cons_succ, List.getElem_toArray, List.getElem_cons_zero, List.getElem_cons_succ]
  refine wpF_take0 6 rfl (by kernel_rfl) (by kernel_rfl) (by kernel_rfl) (by kernel_rfl) no_panic (.inr hS) rfl ?_
  apply Exists.intro; refine ⟨fun w' => ?_, ?_⟩
  · go_simp; (try with_reducible rfl)
  simp only [Act.put, List.setIfInBounds_toArray, List.set_cons_zero, List.set_cons_succ, List.getElem_toArray, List.getElem_cons_zero, List.getElem_cons_succ]
  refine wpF_take0 7 rfl (by kernel_rfl) (by kernel_rfl) (by kernel_rfl) (by kernel_rfl) no_panic (.inr hS) rfl ?_
  apply Exists.intro; refine ⟨fun w' => ?_, ?_⟩
  · go_simp; (try with_reducible rfl)
  simp only [Act.put, List.setIfInBounds_toArray, List.set_cons_zero, List.set_cons_succ, List.getElem_toArray, List.getElem_cons_zero, List.getElem_cons_succ]
  refine wpF_take 8 rfl (by kernel_rfl) (by kernel_rfl) (by kernel_rfl) (by kernel_rfl) (by kernel_rfl) no_panic hS rfl ?_
  apply Exists.intro; refine ⟨fun w' hw' => ?_, ?_⟩
  · (try dsimp only at hw'); go_simp; (try with_reducible rfl)
  simp only [Act.put, List.setIfInBounds_toArray, List.set_cons_zero, List.set_cons_succ, List.getElem_toArray, List.getElem_cons_zero, List.getElem_cons_succ]
  refine wpF_take0 9 rfl (by kernel_rfl) (by kernel_rfl) (by kernel_rfl) (by kernel_rfl) no_panic (.inr hS) rfl ?_
  apply Exists.intro; refine ⟨fun w' => ?_, ?_⟩
  · go_simp; (try with_reducible rfl)
  simp only [Act.put, List.setIfInBounds_toArray, List.set_cons_zero, List.set_cons_succ, List.getElem_toArray, List.getElem_cons_zero, List.getElem_cons_succ]
  refine wpF_take0 10 rfl (by kernel_rfl) (by kernel_rfl) (by kernel_rfl) (by kernel_rfl) no_panic (.inr hS) rfl ?_
  apply Exists.intro; refine ⟨fun w' => ?_, ?_⟩
  · go_simp; (try with_reducible rfl)
  simp only [Act.put, List.setIfInBounds_toArray, List.set_cons_zero, List.set_cons_succ, List.getElem_toArray, List.getElem_cons_zero, List.getElem_cons_succ]
  refine wpF_take0 11 rfl (by kernel_rfl) (by kernel_rfl) (by kernel_rfl) (by kernel_rfl) no_panic (.inr hS) rfl ?_
  apply Exists.intro; refine ⟨fun w' => ?_, ?_⟩
  · go_simp; (try with_reducible rfl)
  simp only [Act.put, List.setIfInBounds_toArray, List.set_cons_zero, List.set_cons_succ, List.getElem_toArray, List.getElem_cons_zero, List.getElem_cons_succ]
  refine wpF_take 12 rfl (by kernel_rfl) (by kernel_rfl) (by kernel_rfl) (by kernel_rfl) (by kernel_rfl) no_panic hS rfl ?_
  apply Exists.intro; refine ⟨fun w' hw' => ?_, ?_⟩
  · (try dsimp only at hw'); go_simp; (try with_reducible rfl)
  simp only [Act.put, List.setIfInBounds_toArray, List.set_cons_zero, List.set_cons_succ, List.getElem_toArray, List.getElem_cons_zero, List.getElem_cons_succ]
  refine wpF_do 13 (by kernel_rfl) rfl rfl (fun K hK => ?_)
  go_simp
  refine (clone_own _ ok (.slice A1 r.length cc1) r (by exact HV.out) hl).mono ?_
  rintro e w1 ⟨A2, cc2, rfl, g1, g2⟩
  have G2 : Hid (Below w.heap.size w w1) := ⟨g2.os, g2.tape, g2.output, g2.size, g2.block⟩
  have G1 := Lib.hid g1
  clear g1 g2
  refine hK.out _ _ ?_ (fun hS13 => ?_)
  · exact ⟨(G2.out.cell (p := ⟨b, 2, none⟩) hlt).trans c2, (G2.out.cell (p := ⟨b, 1, none⟩) hlt).trans c1, (G2.out.cell (p := ⟨g, o + k, none⟩) hltg).trans hrow⟩
  clear hK K
  try simp only [Act.put, List.setIfInBounds_toArray, List.set_cons_zero, List.set_cons_succ, List.getElem_toArray, List.getElem_cons_zero, List.getElem_cons_succ]
  refine wpF_take0 14 rfl (by kernel_rfl) (by kernel_rfl) (by kernel_rfl) (by kernel_rfl) no_panic (.inr hS13) rfl ?_
  apply Exists.intro; refine ⟨fun w' => ?_, ?_⟩
  · go_simp; (try with_reducible rfl)
  simp only [Act.put, List.setIfInBounds_toArray, List.set_cons_zero, List.set_cons_succ, List.getElem_toArray, List.getElem_cons_zero, List.getElem_cons_succ]
  refine wpF_take0 15 rfl (by kernel_rfl) (by kernel_rfl) (by kernel_rfl) (by kernel_rfl) no_panic (.inr hS13) rfl ?_
  apply Exists.intro; refine ⟨fun w' => ?_, ?_⟩
  · go_simp; (try with_reducible rfl)
  simp only [Act.put, List.setIfInBounds_toArray, List.set_cons_zero, List.set_cons_succ, List.getElem_toArray, List.getElem_cons_zero, List.getElem_cons_succ]
  refine wpF_done (by kernel_rfl) (NoPanic.normal ?_)
  clear hS hS13
  go_wp2_with fail
  go_ret2
  exact ⟨A2, cc2, rfl, G1.out, G2.out⟩

theorem body_own_any (w : World) (ok : Nat → Prop) (b k : Nat) (win acked : Int) (kept : List (List UInt8)) (hs : SenderAt w ok b win acked kept) (hn : kept.length ≤ 100) (ha : 0 ≤ acked ∧ acked ≤ 1000000)
    (hkn : k < kept.length) (hl : kept[k].length ≤ 140737488355328) :
    Calls Try.prog 13 #[.pointer (some ⟨b, 0, none⟩), .int .i64 (acked + 1 + k)] w fun e w' =>
      ∃ A' c', e = .returned (.tuple #[.slice A' kept[k].length c', .bool true]) ∧ Own w' w.heap.size 5 (fun _ => False) (.slice A' kept[k].length c') kept[k] ∧ Below w.heap.size w w' := by
  obtain ⟨v, hv, hk⟩ := id hs
  obtain ⟨A, c, rfl, r⟩ := id hk
  exact body_own w ok b kept.length c k A win acked _ kept hv hk hn ha rfl hkn hl
end Go.Proofs.Ythfbjapbfhafbaa
