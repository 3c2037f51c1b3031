/- Contracts of the sender's functions. -/
import Derived.Test.YthfbjapbfhafbaaSenderA
import Derived.Test.YthfbjapbfhafbaaRegion
set_option linter.unusedSimpArgs false
set_option linter.unusedVariables false
namespace Go.Proofs.Ythfbjapbfhafbaa
open Go.RowKit Go.Proofs Go.Trc

/-- A sender lies at block b. -/
def SenderAt (w : World) (ok : Nat → Prop) (b : Nat) (win acked : Int) (kept : List (List UInt8)) : Prop :=
  ∃ v, w.heap[b]? = some (.cells #[.int .i64 win, .int .i64 acked, v] 51 (0, 0)) ∧ Sl w ok v kept

theorem new_any (n : Int) (w : World) (hn : -9223372036854775808 ≤ n ∧ n ≤ 9223372036854775807) :
    Calls Try.prog 8 #[.int .i64 n] w fun e w' => e = .returned (.pointer (some ⟨w.heap.size, 0, none⟩)) ∧ w' = w.alloc (.cells #[.int .i64 (min (max n 1) 64), .int .i64 0, .slice none 0 0] 51) := by
  go_enter Try.func8, Try.ntmps8
  go_wp2
  · rw [show min (max n 1) 64 = 1 by omega]; go_ret; exact ⟨rfl, rfl⟩
  · rw [show min (max n 1) 64 = 64 by omega]; go_ret; exact ⟨rfl, rfl⟩
  · rw [show min (max n 1) 64 = n by omega]; go_ret; exact ⟨rfl, rfl⟩

theorem cells3 {w : World} {b : Nat} {x y z : Value} {t : TypeId} (h : w.heap[b]? = some (.cells #[x, y, z] t (0, 0))) :
    w.cell? ⟨b, 0, none⟩ = some x ∧ w.cell? ⟨b, 1, none⟩ = some y ∧ w.cell? ⟨b, 2, none⟩ = some z ∧ w.frozen? ⟨b, 0, none⟩ = false ∧ w.frozen? ⟨b, 1, none⟩ = false ∧ w.frozen? ⟨b, 2, none⟩ = false :=
  ⟨cell_of_row w b 0 _ _ _ h, cell_of_row w b 1 _ _ _ h, cell_of_row w b 2 _ _ _ h, frozen_of_row w b 0 _ _ h, frozen_of_row w b 1 _ _ h, frozen_of_row w b 2 _ _ h⟩

theorem push_end {w w2 : World} {ok' : Nat → Prop} {b : Nat} {win acked : Int} {v0 v' : Value} {rows : List (List UInt8)} (hb : Below w.heap.size w w2)
    (hs : w.heap[b]? = some (.cells #[.int .i64 win, .int .i64 acked, v0] 51 (0, 0))) (h : Sl w2 ok' v' rows) (hnb : ¬ ok' b) (k : Nat) :
    SenderAt ((w2.setCell ⟨b, 2, none⟩ v').drewN k) ok' b win acked rows ∧ w.grownBy ((w2.setCell ⟨b, 2, none⟩ v').drewN k) (some b) := by
  have hlt : b < w.heap.size := (Array.getElem?_eq_some_iff.1 hs).1
  have hs2 := (hb.block b hlt).trans hs
  have e := heap_setCell_same w2 b 2 _ _ v' hs2
  refine ⟨⟨v', e, h.mono fun x hx hl => ⟨hx, Below.heap_setCell w2 ⟨b, 2, none⟩ v' x (fun hxb => hnb (by simp only at hxb; subst hxb; exact hx))⟩⟩, ⟨hb.os, hb.tape, hb.output, ?_, fun i hi hne => ?_⟩⟩
  · exact Nat.le_trans hb.size (by simp [World.drewN, World.setCell])
  · exact (Below.heap_setCell w2 ⟨b, 2, none⟩ v' i (fun e => hne (by rw [e]))).trans (hb.block i hi)

set_option maxHeartbeats 300000 in
theorem push_ok (w : World) (ok ok2 : Nat → Prop) (b n c : Nat) (A : Option Addr) (win acked : Int) (kept : List (List UInt8)) (v2 : Value) (xs : List UInt8)
    (hs : w.heap[b]? = some (.cells #[.int .i64 win, .int .i64 acked, .slice A n c] 51 (0, 0))) (hk : Sl w ok (.slice A n c) kept) (hx : Sl w ok2 v2 xs) (hnb : ¬ ok b)
    (hw : (n : Int) < win) (hn : n ≤ 100) (ha : 0 ≤ acked ∧ acked ≤ 1000000) (hxs : xs.length ≤ 140737488355328) :
    Calls Try.prog 9 #[.pointer (some ⟨b, 0, none⟩), v2] w fun e w' => e = .returned (.tuple #[.int .i64 (acked + (n + 1)), .int .i64 0]) ∧
      SenderAt w' (fun x => ok x ∨ w.heap.size ≤ x) b win acked (kept ++ [xs]) ∧ w.grownBy w' (some b) := by
  obtain ⟨c0, c1, c2, f0, f1, f2⟩ := cells3 hs
  have hlt := World.block_lt_of_cell? w _ c2
  have hnk : n = kept.length := by obtain ⟨A', c', he, _⟩ := hk; injection he
  have hnc : n ≤ c := by obtain ⟨A', c', he, h1, _⟩ := hk; injection he with _ _ e3; omega
  have ht := hk.take n n (by omega) (Nat.le_refl _) hnc
  rw [List.take_of_length_le (by omega)] at ht
  have hnb' : ¬ (ok b ∨ w.heap.size ≤ b) := by simp only at hlt; rintro (h | h); exact hnb h; omega
  have HT := Lib.hid ht
  have HX := Lib.hid hx
  have HS := Lib.hid hs
  have HN := Lib.hid hnk
  have HB := Lib.hid hnb'
  clear hk ht hx hs hnk hnb hnb'
  have hci : (n : Int) ≤ c := by omega
  go_enter Try.func9, Try.ntmps9
  go_wp2_with fail
  go_quiet (fail)
  go_wp2_with fail
  have hS : (w.drewN nq).drew.cell? ⟨b, 2, none⟩ = some (.slice A n c) := c2
  refine wp_regionF (fun w' => w'.cell? ⟨b, 2, none⟩ = some (.slice A n c)) [14] (by kernel_rfl) ?_
  refine wpF_take0 0 rfl (by kernel_rfl) (by kernel_rfl) (by kernel_rfl) (by kernel_rfl) no_panic (.inr hS) rfl ?_
  apply Exists.intro; refine ⟨fun w' => ?_, ?_⟩
  · go_simp; (try with_reducible rfl)
  simp only [Act.put, List.setIfInBounds_toArray, List.set_cons_zero, List.set_cons_succ, List.getElem_toArray, List.getElem_cons_zero, List.getElem_cons_succ]
  refine wpF_take0 1 rfl (by kernel_rfl) (by kernel_rfl) (by kernel_rfl) (by kernel_rfl) no_panic (.inr hS) rfl ?_
  apply Exists.intro; refine ⟨fun w' => ?_, ?_⟩
  · go_simp; (try with_reducible rfl)
  simp only [Act.put, List.setIfInBounds_toArray, List.set_cons_zero, List.set_cons_succ, List.getElem_toArray, List.getElem_cons_zero, List.getElem_cons_succ]
  refine wpF_take0 2 rfl (by kernel_rfl) (by kernel_rfl) (by kernel_rfl) (by kernel_rfl) no_panic (.inr hS) rfl ?_
  apply Exists.intro; refine ⟨fun w' => ?_, ?_⟩
  · go_simp; (try with_reducible rfl)
  simp only [Act.put, List.setIfInBounds_toArray, List.set_cons_zero, List.set_cons_succ, List.getElem_toArray, List.getElem_cons_zero, List.getElem_cons_succ]
  refine wpF_take0 3 rfl (by kernel_rfl) (by kernel_rfl) (by kernel_rfl) (by kernel_rfl) no_panic (.inr hS) rfl ?_
  apply Exists.intro; refine ⟨fun w' => ?_, ?_⟩
  · go_simp; (try with_reducible rfl)
  simp only [Act.put, List.setIfInBounds_toArray, List.set_cons_zero, List.set_cons_succ, List.getElem_toArray, List.getElem_cons_zero, List.getElem_cons_succ]
  refine wpF_take 4 rfl (by kernel_rfl) (by kernel_rfl) (by kernel_rfl) (by kernel_rfl) (by kernel_rfl) no_panic hS rfl ?_
  apply Exists.intro; refine ⟨fun w' hw' => ?_, ?_⟩
  · (try dsimp only at hw'); go_simp; (try with_reducible rfl)
  simp only [Act.put, List.setIfInBounds_toArray, List.set_cons_zero, List.set_cons_succ, List.getElem_toArray, List.getElem_cons_zero, List.getElem_cons_succ]
  refine wpF_take0 5 rfl (by kernel_rfl) (by kernel_rfl) (by kernel_rfl) (by kernel_rfl) no_panic (.inr hS) rfl ?_
  apply Exists.intro; refine ⟨fun w' => ?_, ?_⟩
  · go_simp; (try with_reducible rfl)
  simp only [Act.put, List.setIfInBounds_toArray, List.set_cons_zero, List.set_cons_succ, List.getElem_toArray, List.getElem_cons_zero, List.getElem_cons_succ]
  refine wpF_take0 6 rfl (by kernel_rfl) (by kernel_rfl) (by kernel_rfl) (by kernel_rfl) no_panic (.inr hS) rfl ?_
  apply Exists.intro; refine ⟨fun w' => ?_, ?_⟩
  · go_simp; (try with_reducible rfl)
  simp only [Act.put, List.setIfInBounds_toArray, List.set_cons_zero, List.set_cons_succ, List.getElem_toArray, List.getElem_cons_zero, List.getElem_cons_succ]
  refine wpF_take0 7 rfl (by kernel_rfl) (by kernel_rfl) (by kernel_rfl) (by kernel_rfl) no_panic (.inr hS) rfl ?_
  apply Exists.intro; refine ⟨fun w' => ?_, ?_⟩
  · go_simp; (try with_reducible rfl)
  simp only [Act.put, List.setIfInBounds_toArray, List.set_cons_zero, List.set_cons_succ, List.getElem_toArray, List.getElem_cons_zero, List.getElem_cons_succ]
  refine wpF_take0 8 rfl (by kernel_rfl) (by kernel_rfl) (by kernel_rfl) (by kernel_rfl) no_panic (.inr hS) rfl ?_
  apply Exists.intro; refine ⟨fun w' => ?_, ?_⟩
  · go_simp; (try with_reducible rfl)
  simp only [Act.put, List.setIfInBounds_toArray, List.set_cons_zero, List.set_cons_succ, List.getElem_toArray, List.getElem_cons_zero, List.getElem_cons_succ]
  refine wpF_do 9 (by kernel_rfl) rfl rfl (fun K hK => ?_)
  go_simp
  refine (clone_bytes _ ok2 v2 xs (by exact HX.out) hxs).mono ?_
  rintro e w1 ⟨A1, cc1, rfl, g1, g2⟩
  have G2 : Hid (Below w.heap.size w w1) := ⟨g2.os, g2.tape, g2.output, g2.size, g2.block⟩
  have G1 := Lib.hid g1
  clear g1 g2
  refine hK.out _ _ ?_ (fun hS9 => ?_)
  · exact (G2.out.cell (p := ⟨b, 2, none⟩) hlt).trans c2
  clear hK K
  try simp only [Act.put, List.setIfInBounds_toArray, List.set_cons_zero, List.set_cons_succ, List.getElem_toArray, List.getElem_cons_zero, List.getElem_cons_succ]
  refine wpF_do 10 (by kernel_rfl) rfl rfl (fun K hK => ?_)
  go_simp
  refine hK.out _ _ ?_ (fun hS10 => ?_)
  · exact ((G2.out.alloc G2.out.size _).cell (p := ⟨b, 2, none⟩) hlt).trans c2
  clear hK K
  try simp only [Act.put, List.setIfInBounds_toArray, List.set_cons_zero, List.set_cons_succ, List.getElem_toArray, List.getElem_cons_zero, List.getElem_cons_succ]
  refine wpF_do 11 (by kernel_rfl) rfl rfl (fun K hK => ?_)
  refine wp_append_full (α := List UInt8) (xs := kept) (ys := [xs]) (.tmp 29) (.tmp 32) 22 29 rfl (.slice none 0 0) 24 Try.underlying22 rowsInfo rfl (ok1 := ok) (ok2 := fun x => w.heap.size ≤ x) (fun x => ok x ∨ w.heap.size ≤ x) rfl rfl ((HT.out.below G2.out).alloc _) (Arg.single _ ⟨_, rfl, G1.out⟩) (.inr (by simp)) (.inr (Nat.le_trans G2.out.size (by simp))) (fun _ _ h => Rep.mono (fun b hb _ => ⟨.inl hb, rfl⟩) h) (fun _ _ h => Rep.mono (fun b hb _ => ⟨.inr hb, rfl⟩) h) (by have := HN.out; simp; omega) (by have := HN.out; simp; omega) (n + 1) (by have := HN.out; simp; omega) ?_
  intro A3 c3 w3 g3 g4 _
  have g5 : Below w.heap.size w w3 := (G2.out.alloc G2.out.size _).trans (g4.mono (by have := G2.out.size; simp; omega))
  have G3 := Lib.hid g3
  have G5 := Lib.hid g5
  have k3 := (g5.cell (p := ⟨b, 2, none⟩) hlt).trans c2
  have k3' := (g5.frozen (p := ⟨b, 2, none⟩) hlt).trans f2
  have k4 := (g5.cell (p := ⟨b, 1, none⟩) hlt).trans c1
  clear g3 g4 g5
  refine hK.out _ _ ?_ (fun hS11 => ?_)
  · exact k3
  clear hK K
  try simp only [Act.put, List.setIfInBounds_toArray, List.set_cons_zero, List.set_cons_succ, List.getElem_toArray, List.getElem_cons_zero, List.getElem_cons_succ]
  refine wpF_take0 12 rfl (by kernel_rfl) (by kernel_rfl) (by kernel_rfl) (by kernel_rfl) no_panic (.inr hS11) rfl ?_
  apply Exists.intro; refine ⟨fun w' => ?_, ?_⟩
  · go_simp; (try with_reducible rfl)
  simp only [Act.put, List.setIfInBounds_toArray, List.set_cons_zero, List.set_cons_succ, List.getElem_toArray, List.getElem_cons_zero, List.getElem_cons_succ]
  refine wpF_take0 13 rfl (by kernel_rfl) (by kernel_rfl) (by kernel_rfl) (by kernel_rfl) no_panic (.inr hS11) rfl ?_
  apply Exists.intro; refine ⟨fun w' => ?_, ?_⟩
  · go_simp; (try with_reducible rfl)
  simp only [Act.put, List.setIfInBounds_toArray, List.set_cons_zero, List.set_cons_succ, List.getElem_toArray, List.getElem_cons_zero, List.getElem_cons_succ]
  refine wpF_fin 14 (by kernel_rfl) rfl (by kernel_rfl) rfl (fun K hK => ?_)
  go_simp
  refine hK.out _ _ ?_
  clear hK K
  try simp only [Act.put, List.setIfInBounds_toArray, List.set_cons_zero, List.set_cons_succ, List.getElem_toArray, List.getElem_cons_zero, List.getElem_cons_succ]
  refine wpF_done (by kernel_rfl) (NoPanic.normal ?_)
  clear hS hS9 hS10 hS11 HT G1 G2
  go_wp2_with fail
  go_quiet (fail)
  go_wp2_with fail
  go_ret2
  exact ⟨rfl, push_end G5.out HS.out G3.out HB.out _⟩

theorem push_full (w : World) (b n c : Nat) (A : Option Addr) (win acked : Int) (v2 : Value)
    (hs : w.heap[b]? = some (.cells #[.int .i64 win, .int .i64 acked, .slice A n c] 51 (0, 0))) (hw : win ≤ n) :
    Calls Try.prog 9 #[.pointer (some ⟨b, 0, none⟩), v2] w fun e w' => e = .returned (.tuple #[.int .i64 0, .int .i64 20]) ∧ ∃ k, w' = w.drewN k := by
  obtain ⟨c0, c1, c2, f0, f1, f2⟩ := cells3 hs
  clear hs
  go_enter Try.func9, Try.ntmps9
  go_wp2_with fail
  go_quiet (fail)
  go_wp2_with fail
  go_ret2
  exact ⟨rfl, _, rfl⟩

theorem next_any (w : World) (b n c : Nat) (A : Option Addr) (win acked : Int)
    (hs : w.heap[b]? = some (.cells #[.int .i64 win, .int .i64 acked, .slice A n c] 51 (0, 0))) (hn : n ≤ 100) (ha : 0 ≤ acked ∧ acked ≤ 1000000) :
    Calls Try.prog 14 #[.pointer (some ⟨b, 0, none⟩)] w fun e w' => e = .returned (.int .i64 (acked + n + 1)) ∧ ∃ k, w' = w.drewN k := by
  obtain ⟨c0, c1, c2, f0, f1, f2⟩ := cells3 hs
  clear hs
  go_enter Try.func14, Try.ntmps14
  go_wp2_with fail
  go_quiet (fail)
  go_wp2_with fail
  go_ret
  exact ⟨rfl, _, rfl⟩

theorem clone_any (w : World) (b n c : Nat) (A : Option Addr) (win acked : Int)
    (hs : w.heap[b]? = some (.cells #[.int .i64 win, .int .i64 acked, .slice A n c] 51 (0, 0))) :
    Calls Try.prog 15 #[.pointer (some ⟨b, 0, none⟩)] w fun e w' => e = .returned (.pointer (some ⟨w.heap.size, 0, none⟩)) ∧
      w' = w.alloc (.cells #[.int .i64 win, .int .i64 acked, .slice A n c] 51) := by
  obtain ⟨c0, c1, c2, f0, f1, f2⟩ := cells3 hs
  clear hs
  go_enter Try.func15, Try.ntmps15
  go_wp2_with fail
  go_ret
  exact ⟨rfl, rfl⟩

theorem ack_no (w : World) (b n c : Nat) (A : Option Addr) (win acked x : Int)
    (hs : w.heap[b]? = some (.cells #[.int .i64 win, .int .i64 acked, .slice A n c] 51 (0, 0))) (hn : n ≤ 100) (ha : 0 ≤ acked ∧ acked ≤ 1000000) (hx : x < acked ∨ acked + n < x) :
    Calls Try.prog 11 #[.pointer (some ⟨b, 0, none⟩), .int .i64 x] w fun e w' => e = .returned (.int .i64 22) ∧ ∃ k, w' = w.drewN k := by
  obtain ⟨c0, c1, c2, f0, f1, f2⟩ := cells3 hs
  clear hs
  by_cases h1 : x < acked
  · go_enter Try.func11, Try.ntmps11
    go_wp2_with fail
    go_quiet (fail)
    go_wp2_with fail
    go_ret
    exact ⟨rfl, _, rfl⟩
  · have h2 : acked + n < x := by omega
    have hd : decide (x < acked) = false := by simpa using h1
    go_enter Try.func11, Try.ntmps11
    go_wp2_with fail
    go_quiet (fail)
    go_wp2_with fail
    go_ret
    exact ⟨rfl, _, rfl⟩

theorem ack_end {w : World} {ok : Nat → Prop} {b : Nat} {win acked x : Int} {v0 v' : Value} {rows : List (List UInt8)}
    (hs : w.heap[b]? = some (.cells #[.int .i64 win, .int .i64 acked, v0] 51 (0, 0))) (h : Sl w ok v' rows) (hnb : ¬ ok b) (m k : Nat) :
    SenderAt ((((w.drewN m).setCell ⟨b, 2, none⟩ v').setCell ⟨b, 1, none⟩ (.int .i64 x)).drewN k) ok b win x rows ∧ w.grownBy ((((w.drewN m).setCell ⟨b, 2, none⟩ v').setCell ⟨b, 1, none⟩ (.int .i64 x)).drewN k) (some b) := by
  have e1 : ((w.drewN m).setCell ⟨b, 2, none⟩ v').heap[b]? = _ := heap_setCell_same (w.drewN m) b 2 _ _ v' hs
  have e2 := heap_setCell_same ((w.drewN m).setCell ⟨b, 2, none⟩ v') b 1 _ _ (.int .i64 x) e1
  have far : ∀ y, y ≠ b → (((w.drewN m).setCell ⟨b, 2, none⟩ v').setCell ⟨b, 1, none⟩ (.int .i64 x)).heap[y]? = w.heap[y]? := fun y hy =>
    (Below.heap_setCell _ _ _ _ hy).trans (Below.heap_setCell (w.drewN m) ⟨b, 2, none⟩ v' y hy)
  refine ⟨⟨v', e2, h.mono fun y hy hl => ⟨hy, far y (fun e => hnb (e ▸ hy))⟩⟩, ⟨rfl, rfl, rfl, ?_, fun i hi hne => far i (fun e => hne (by rw [e]))⟩⟩
  simp [World.drewN, World.setCell]

set_option maxHeartbeats 1000000 in
theorem ack_ok (w : World) (ok : Nat → Prop) (b n c k : Nat) (A : Option Addr) (win acked x : Int) (kept : List (List UInt8))
    (hs : w.heap[b]? = some (.cells #[.int .i64 win, .int .i64 acked, .slice A n c] 51 (0, 0))) (hk : Sl w ok (.slice A n c) kept) (hnb : ¬ ok b)
    (hn : n ≤ 100) (ha : 0 ≤ acked ∧ acked ≤ 1000000) (hx : x = acked + k) (hkn : k ≤ n) :
    Calls Try.prog 11 #[.pointer (some ⟨b, 0, none⟩), .int .i64 x] w fun e w' => e = .returned (.int .i64 0) ∧ SenderAt w' ok b win x (kept.drop k) ∧ w.grownBy w' (some b) := by
  obtain ⟨c0, c1, c2, f0, f1, f2⟩ := cells3 hs
  have hlt := World.block_lt_of_cell? w _ c2
  have hnk : n = kept.length := by obtain ⟨A', c', he, _⟩ := hk; injection he
  have hnc : n ≤ c := by obtain ⟨A', c', he, h1, _⟩ := hk; injection he with _ _ e3; omega
  have hd := hk.drop k (by omega)
  have HD1 : Hid (c = k → Sl w ok (.slice A (n - k) 0) (kept.drop k)) := fun e => by rw [if_pos e, e, Nat.sub_self] at hd; exact hd
  have HD2 : Hid (¬ c = k → Sl w ok (.slice (A.map fun x => x.add k) (n - k) (c - k)) (kept.drop k)) := fun e => by rw [if_neg e] at hd; simpa only [show Rep.sz (List UInt8) = 1 from rfl, Nat.mul_one] using hd
  have HS := Lib.hid hs
  clear hk hs hnk hd
  have hd1 : decide (x < acked) = false := by simp; omega
  have hd2 : decide (acked + (n : Int) < x) = false := by simp; omega
  have hsub : x - acked = (k : Int) := by omega
  have hwk : IntKind.i64.wrap (k : Int) = k := Go.IntWalk.i64_in _ (by omega)
  have hk0 : (0 : Int) ≤ k := by omega
  have hk1 : (k : Int) ≤ n := by omega
  have HX := Lib.hid hx
  have hx1 : x ≤ 1000100 := by omega
  have hx0 : 0 ≤ x := by omega
  have hx2 : acked ≤ x := by omega
  clear hx
  go_enter Try.func11, Try.ntmps11
  go_wp2_with fail
  go_quiet (fail)
  go_wp2_with fail
  have hS : (w.drewN nq).drew.cell? ⟨b, 2, none⟩ = some (.slice A n c) ∧ (w.drewN nq).drew.cell? ⟨b, 1, none⟩ = some (.int .i64 acked) := ⟨c2, c1⟩
  refine wp_regionF (fun w' => w'.cell? ⟨b, 2, none⟩ = some (.slice A n c) ∧ w'.cell? ⟨b, 1, none⟩ = some (.int .i64 acked)) [16, 19] (by kernel_rfl) ?_
  refine wpF_take0 0 rfl (by kernel_rfl) (by kernel_rfl) (by kernel_rfl) (by kernel_rfl) no_panic (.inr hS) rfl ?_
  apply Exists.intro; refine ⟨fun w' => ?_, ?_⟩
  · go_simp; (try with_reducible rfl)
  simp only [Act.put, List.setIfInBounds_toArray, List.set_cons_zero, List.set_cons_succ, List.getElem_toArray, List.getElem_cons_zero, List.getElem_cons_succ]
  refine wpF_take0 1 rfl (by kernel_rfl) (by kernel_rfl) (by kernel_rfl) (by kernel_rfl) no_panic (.inr hS) rfl ?_
  apply Exists.intro; refine ⟨fun w' => ?_, ?_⟩
  · go_simp; (try with_reducible rfl)
  simp only [Act.put, List.setIfInBounds_toArray, List.set_cons_zero, List.set_cons_succ, List.getElem_toArray, List.getElem_cons_zero, List.getElem_cons_succ]
  refine wpF_take0 2 rfl (by kernel_rfl) (by kernel_rfl) (by kernel_rfl) (by kernel_rfl) no_panic (.inr hS) rfl ?_
  apply Exists.intro; refine ⟨fun w' => ?_, ?_⟩
  · go_simp; (try with_reducible rfl)
  simp only [Act.put, List.setIfInBounds_toArray, List.set_cons_zero, List.set_cons_succ, List.getElem_toArray, List.getElem_cons_zero, List.getElem_cons_succ]
  refine wpF_take0 3 rfl (by kernel_rfl) (by kernel_rfl) (by kernel_rfl) (by kernel_rfl) no_panic (.inr hS) rfl ?_
  apply Exists.intro; refine ⟨fun w' => ?_, ?_⟩
  · go_simp; (try with_reducible rfl)
  simp only [Act.put, List.setIfInBounds_toArray, List.set_cons_zero, List.set_cons_succ, List.getElem_toArray, List.getElem_cons_zero, List.getElem_cons_succ]
  refine wpF_take0 4 rfl (by kernel_rfl) (by kernel_rfl) (by kernel_rfl) (by kernel_rfl) no_panic (.inr hS) rfl ?_
  apply Exists.intro; refine ⟨fun w' => ?_, ?_⟩
  · go_simp; (try with_reducible rfl)
  simp only [Act.put, List.setIfInBounds_toArray, List.set_cons_zero, List.set_cons_succ, List.getElem_toArray, List.getElem_cons_zero, List.getElem_cons_succ]
  refine wpF_take 5 rfl (by kernel_rfl) (by kernel_rfl) (by kernel_rfl) (by kernel_rfl) (by kernel_rfl) no_panic hS rfl ?_
  apply Exists.intro; refine ⟨fun w' hw' => ?_, ?_⟩
  · (try dsimp only at hw'); go_simp; (try with_reducible rfl)
  simp only [Act.put, List.setIfInBounds_toArray, List.set_cons_zero, List.set_cons_succ, List.getElem_toArray, List.getElem_cons_zero, List.getElem_cons_succ]
  refine wpF_take0 6 rfl (by kernel_rfl) (by kernel_rfl) (by kernel_rfl) (by kernel_rfl) no_panic (.inr hS) rfl ?_
  apply Exists.intro; refine ⟨fun w' => ?_, ?_⟩
  · go_simp; (try with_reducible rfl)
  simp only [Act.put, List.setIfInBounds_toArray, List.set_cons_zero, List.set_cons_succ, List.getElem_toArray, List.getElem_cons_zero, List.getElem_cons_succ]
  refine wpF_take0 7 rfl (by kernel_rfl) (by kernel_rfl) (by kernel_rfl) (by kernel_rfl) no_panic (.inr hS) rfl ?_
  apply Exists.intro; refine ⟨fun w' => ?_, ?_⟩
  · go_simp; (try with_reducible rfl)
  simp only [Act.put, List.setIfInBounds_toArray, List.set_cons_zero, List.set_cons_succ, List.getElem_toArray, List.getElem_cons_zero, List.getElem_cons_succ]
  refine wpF_take0 8 rfl (by kernel_rfl) (by kernel_rfl) (by kernel_rfl) (by kernel_rfl) no_panic (.inr hS) rfl ?_
  apply Exists.intro; refine ⟨fun w' => ?_, ?_⟩
  · go_simp; (try with_reducible rfl)
  simp only [Act.put, List.setIfInBounds_toArray, List.set_cons_zero, List.set_cons_succ, List.getElem_toArray, List.getElem_cons_zero, List.getElem_cons_succ]
  refine wpF_take0 9 rfl (by kernel_rfl) (by kernel_rfl) (by kernel_rfl) (by kernel_rfl) no_panic (.inr hS) rfl ?_
  apply Exists.intro; refine ⟨fun w' => ?_, ?_⟩
  · go_simp; (try with_reducible rfl)
  simp only [Act.put, List.setIfInBounds_toArray, List.set_cons_zero, List.set_cons_succ, List.getElem_toArray, List.getElem_cons_zero, List.getElem_cons_succ]
  refine wpF_take 10 rfl (by kernel_rfl) (by kernel_rfl) (by kernel_rfl) (by kernel_rfl) (by kernel_rfl) no_panic hS rfl ?_
  apply Exists.intro; refine ⟨fun w' hw' => ?_, ?_⟩
  · (try dsimp only at hw'); go_simp; (try with_reducible rfl)
  simp only [Act.put, List.setIfInBounds_toArray, List.set_cons_zero, List.set_cons_succ, List.getElem_toArray, List.getElem_cons_zero, List.getElem_cons_succ]
  refine wpF_take0 11 rfl (by kernel_rfl) (by kernel_rfl) (by kernel_rfl) (by kernel_rfl) no_panic (.inr hS) rfl ?_
  apply Exists.intro; refine ⟨fun w' => ?_, ?_⟩
  · go_simp; (try with_reducible rfl)
  simp only [Act.put, List.setIfInBounds_toArray, List.set_cons_zero, List.set_cons_succ, List.getElem_toArray, List.getElem_cons_zero, List.getElem_cons_succ]
  refine wpF_take0 12 rfl (by kernel_rfl) (by kernel_rfl) (by kernel_rfl) (by kernel_rfl) no_panic (.inr hS) rfl ?_
  apply Exists.intro; refine ⟨fun w' => ?_, ?_⟩
  · go_simp; (try with_reducible rfl)
  simp only [Act.put, List.setIfInBounds_toArray, List.set_cons_zero, List.set_cons_succ, List.getElem_toArray, List.getElem_cons_zero, List.getElem_cons_succ]
  refine wpF_take0 13 rfl (by kernel_rfl) (by kernel_rfl) (by kernel_rfl) (by kernel_rfl) no_panic (.inr hS) rfl ?_
  apply Exists.intro; refine ⟨fun w' => ?_, ?_⟩
  · go_simp; (try with_reducible rfl)
  simp only [Act.put, List.setIfInBounds_toArray, List.set_cons_zero, List.set_cons_succ, List.getElem_toArray, List.getElem_cons_zero, List.getElem_cons_succ]
  refine wpF_take0 14 rfl (by kernel_rfl) (by kernel_rfl) (by kernel_rfl) (by kernel_rfl) no_panic (.inr hS) rfl ?_
  apply Exists.intro; refine ⟨fun w' => ?_, ?_⟩
  · go_simp; (try with_reducible rfl)
  simp only [Act.put, List.setIfInBounds_toArray, List.set_cons_zero, List.set_cons_succ, List.getElem_toArray, List.getElem_cons_zero, List.getElem_cons_succ]
  refine wpF_take0 15 rfl (by kernel_rfl) (by kernel_rfl) (by kernel_rfl) (by kernel_rfl) no_panic (.inr hS) rfl ?_
  apply Exists.intro; refine ⟨fun w' => ?_, ?_⟩
  · go_simp; (try with_reducible rfl)
  simp only [Act.put, List.setIfInBounds_toArray, List.set_cons_zero, List.set_cons_succ, List.getElem_toArray, List.getElem_cons_zero, List.getElem_cons_succ]
  refine wpF_fin 16 (by kernel_rfl) rfl (by kernel_rfl) rfl (fun K hK => ?_)
  go_simp
  refine hK.out _ _ ?_
  clear hK K
  try simp only [Act.put, List.setIfInBounds_toArray, List.set_cons_zero, List.set_cons_succ, List.getElem_toArray, List.getElem_cons_zero, List.getElem_cons_succ]
  refine wpF_take0 17 rfl (by kernel_rfl) (by kernel_rfl) (by kernel_rfl) (by kernel_rfl) no_panic (.inl (by kernel_rfl)) rfl ?_
  apply Exists.intro; refine ⟨fun w' => ?_, ?_⟩
  · go_simp; (try with_reducible rfl)
  simp only [Act.put, List.setIfInBounds_toArray, List.set_cons_zero, List.set_cons_succ, List.getElem_toArray, List.getElem_cons_zero, List.getElem_cons_succ]
  refine wpF_take0 18 rfl (by kernel_rfl) (by kernel_rfl) (by kernel_rfl) (by kernel_rfl) no_panic (.inl (by kernel_rfl)) rfl ?_
  apply Exists.intro; refine ⟨fun w' => ?_, ?_⟩
  · go_simp; (try with_reducible rfl)
  simp only [Act.put, List.setIfInBounds_toArray, List.set_cons_zero, List.set_cons_succ, List.getElem_toArray, List.getElem_cons_zero, List.getElem_cons_succ]
  refine wpF_fin 19 (by kernel_rfl) rfl (by kernel_rfl) rfl (fun K hK => ?_)
  go_simp
  refine hK.out _ _ ?_
  clear hK K
  try simp only [Act.put, List.setIfInBounds_toArray, List.set_cons_zero, List.set_cons_succ, List.getElem_toArray, List.getElem_cons_zero, List.getElem_cons_succ]
  refine wpF_done (by kernel_rfl) (NoPanic.normal ?_)
  go_wp2_with fail
  · go_ret
    exact ⟨rfl, ack_end HS.out (HD1.out (by assumption)) hnb _ 0⟩
  · go_ret
    exact ⟨rfl, ack_end HS.out (HD2.out (by assumption)) hnb _ 0⟩
end Go.Proofs.Ythfbjapbfhafbaa
