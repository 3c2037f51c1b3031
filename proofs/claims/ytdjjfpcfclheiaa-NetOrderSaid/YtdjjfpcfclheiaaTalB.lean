/- Tallies: what is done once. -/
import Derived.Test.YtdjjfpcfclheiaaTalA
set_option linter.unusedSimpArgs false
set_option linter.unusedVariables false
namespace Go.Proofs.Ytdjjfpcfclheiaa
open Go Go.RowKit Go.Proofs Go.Trc Go.Sx

abbrev TT : TypeId := 82
abbrev TE : TypeId := 100
theorem cells_one {w : World} {b o : Nat} {v : Value} (h : w.cell? ⟨b, o, none⟩ = some v) : CellsAt w b o [v] := by
  intro j u hu
  cases j with
  | zero => simp only [nth] at hu; injection hu with hu; subst hu; exact h
  | succ j => cases j <;> simp [nth] at hu
theorem cells_row {w : World} {g o : Nat} {C : Array Value} {t : TypeId} {fr : Nat × Nat} {v : Value} (h : w.heap[g]? = some (.cells C t fr)) (hv : C[o]? = some v) : CellsAt w g o [v] := cells_one ((cell_heap h).trans hv)
theorem load_ptr {w : World} {g : Nat} {C : Array Value} {t : TypeId} {fr : Nat × Nat} {v : Value} (h : w.heap[g]? = some (.cells C t fr)) (hv : C[0]? = some v) : (Instr.loadAt 24 (.pointer (some ⟨g, 0, none⟩))).run Try.prog w = .ok v w := by
  have hc := (cell_heap (i := 0) h).trans hv
  go_simp
theorem made_zeros : ∀ k : Nat, madeCells #[Value.int .i64 0] k = ((List.replicate k (0 : Int)).map (Value.int .i64)).toArray := by
  intro k
  unfold madeCells
  apply Array.ext
  · simp
  · intro i h1 h2
    simp [Nat.mod_one]
theorem fr_alloc (w : World) (o : Obj) : Below w.heap.size w (w.alloc o) := (Below.refl _ _).alloc (Nat.le_refl _) _

set_option maxHeartbeats 1000000 in
/-- The closure: the row is laid. -/
theorem of1_c {w : World} {g g2 k : Nat} {x1 x2 x3 sl : Value} (hne : g2 ≠ g) (h2 : w.heap[g2]? = some (.cells #[.pointer (some ⟨g, 0, none⟩)] 24 (0, 0))) (hg : w.heap[g]? = some (.cells #[.int .i64 (k : Int), x1, x2, x3, sl] TT (0, 0))) (hk : k ≤ 64) :
    Calls Try.prog 59 #[.pointer (some ⟨g2, 0, none⟩)] w fun e w' => e = .returned (.tuple #[]) ∧ ∃ a, w.heap.size ≤ a ∧ w'.heap[a]? = some (.cells ((List.replicate k (0 : Int)).map (Value.int .i64)).toArray TE (0, 0)) ∧
      w'.heap[g]? = some (.cells #[.int .i64 (k : Int), x1, x2, x3, .slice (some ⟨a, 0, none⟩) k k] TT (0, 0)) ∧ Fr (fun b => b ∈ [g]) w w' := by
  have lg := heap_lt hg
  have l2 := heap_lt h2
  refine tof1_sx _ (fun b => b ∈ [g]) w _ ?_
  intro w1 f1 b1
  have k2 : ∀ w', Keep w.heap.size [] w1 w' → w'.heap[g2]? = some (.cells #[.pointer (some ⟨g, 0, none⟩)] 24 (0, 0)) := fun w' k => (k g2 l2 (by simp)).trans ((b1.block g2 l2).trans h2)
  have hg1 := (b1.block g lg).trans hg
  refine ⟨_, fun w' k => load_ptr (k2 w' k) rfl, _, fun w' k => load_ptr (k2 w' k) rfl, g, 0, rfl, _, cells_row hg1 rfl, ⟨lg, by simp⟩, ?_⟩
  have hinfo : (Try.prog.info? TE).map (fun i => (i.zero, i.size, i.bytes)) = some (some (.agg #[.int .i64 0]), 1, 8) := by kernel_rfl
  obtain ⟨i, hi, hz, hsz, hby⟩ := info_parts hinfo
  have hm := run_makeSlice (P := Try.prog) (w := w1) 80 TE i _ Try.underlying80 hi hz .i64 .i64 (k : Int) (k : Int) (by omega) (by omega) (by rw [hsz]; omega) (by rw [hby]; omega) (by omega)
  have hmade : madeCells (Value.agg #[Value.int .i64 0]).cells ((k : Int).toNat * i.size) = ((List.replicate k (0 : Int)).map (Value.int .i64)).toArray := by
    rw [hsz, Nat.mul_one, Int.toNat_natCast]; exact made_zeros k
  rw [hmade, Int.toNat_natCast] at hm
  have b2 := fr_alloc w1 (.cells ((List.replicate k (0 : Int)).map (Value.int .i64)).toArray TE)
  have hg2 := (b2.block g (Nat.lt_of_lt_of_le lg b1.size)).trans hg1
  have hnew := heap_alloc_new w1 (.cells ((List.replicate k (0 : Int)).map (Value.int .i64)).toArray TE)
  refine ⟨_, _, _, _, hm, ⟨f1.step b2, mild_nil b2.size⟩, keep_below b2 b1.size, g, 0, rfl, ?_⟩
  generalize (w1.alloc (.cells ((List.replicate k (0 : Int)).map (Value.int .i64)).toArray TE)) = w2 at *
  have hl1 : w1.heap.size < w2.heap.size := heap_lt hnew
  obtain ⟨w3, hr3, h3, gr3⟩ := store_row (P := Try.prog) (w := w2) 80 (by kernel_rfl) hg2 (o := 4) (v := .slice (some ⟨w1.heap.size, 0, none⟩) k k) (by simp) rfl rfl
  have f3 := fr_of_grown gr3
  have f13 : Fr (fun b => b ∈ [g]) w w3 := (f1.step b2).trans f3 (fun _ _ h => h) (fun _ _ h => h)
  refine ⟨w3, hr3, ⟨f13, mild_nil gr3.size⟩, rfl, w1.heap.size, b1.size, ?_, h3, f13⟩
  exact (gr3.block _ hl1 (fun e => by injection e with e; have := b1.size; omega)).trans hnew

theorem bload_c {w : World} {g o : Nat} {x : Int} (h : w.cell? ⟨g, o, none⟩ = some (.int .u32 x)) :
    Calls Try.prog 73 #[.pointer (some ⟨g, o, none⟩)] w fun e w' => e = .returned (.bool (x != 0)) ∧ w' = w := by
  refine bload_sx _ (fun _ => False) w _ ?_
  have hl := run_call_load (P := Try.prog) Try.func82 (by kernel_rfl) (by kernel_rfl) (by kernel_rfl) .u32 (by kernel_rfl) (w := w) (a := ⟨g, o, none⟩) (x := x) h
  exact ⟨g, o, rfl, w, x, ext_run hl, ⟨Fr.refl _ _, mild_nil (Nat.le_refl _)⟩, rfl, rfl⟩

set_option maxRecDepth 100000 in
set_option maxHeartbeats 1600000 in
/-- Not yet done, the lock free: the row is laid; then the two deferred calls: 'done' is stored, the lock is let go. -/
theorem slow_c {w : World} {g g2 k : Nat} (hne : g2 ≠ g) (h2 : w.heap[g2]? = some (.cells #[.pointer (some ⟨g, 0, none⟩)] 24 (0, 0)))
    (hg : w.heap[g]? = some (.cells #[.int .i64 (k : Int), .int .u32 0, .int .i32 0, .int .u32 0, .slice none 0 0] TT (0, 0))) (hk : k ≤ 64) :
    Calls Try.prog 74 #[.pointer (some ⟨g, 1, none⟩), .func (.func 59) #[] #[.pointer (some ⟨g2, 0, none⟩)]] w fun e w' => e = .returned (.tuple #[]) ∧
      ∃ a, w.heap.size ≤ a ∧ w'.heap[a]? = some (.cells ((List.replicate k (0 : Int)).map (Value.int .i64)).toArray TE (0, 0)) ∧
      w'.heap[g]? = some (.cells #[.int .i64 (k : Int), .int .u32 1, .int .i32 0, .int .u32 0, .slice (some ⟨a, 0, none⟩) k k] TT (0, 0)) ∧ Fr (fun b => b ∈ [g]) w w' := by
  have h0 : w.cell? ⟨g, 2, none⟩ = some (.int .i32 0) := cell_heap hg
  have f0 := frozen_heap (i := 2) hg
  have hg1 := setCell_at (i := 2) (.int .i32 1) hg
  have h21 := (setCell_other (i := 2) (Value.int .i32 1) hne).trans h2
  have fr1 := fr_setCell (w := w) (g := g) (i := 2) (v := .int .i32 1)
  have hl := run_call_load (P := Try.prog) Try.func82 (by kernel_rfl) (by kernel_rfl) (by kernel_rfl) .u32 (by kernel_rfl) (w := w.setCell ⟨g, 2, none⟩ (.int .i32 1)) (a := ⟨g, 1, none⟩) (x := 0) (cell_heap hg1)
  have hcl := of1_c (w := w.setCell ⟨g, 2, none⟩ (.int .i32 1)) hne h21 hg1 hk
  have hnot : ∀ (x : Bool) (w : World), (Op.unary .not (.bool x)).run Try.prog w = .ok (.bool (!x)) w := fun _ _ => rfl
  have hsz : (w.setCell ⟨g, 2, none⟩ (.int .i32 1)).heap.size = w.heap.size := by simp [World.setCell]
  generalize hw1 : w.setCell ⟨g, 2, none⟩ (.int .i32 1) = w1 at *
  go_enter_defers Try.func74, Try.ntmps74
  go_wp2_with (first | (go_at_call 83; refine (lock_free ⟨g, 2, none⟩ _ h0 f0).mono ?_; rintro e w' ⟨rfl, rfl⟩; rw [hw1]) | (go_at_call 73; refine (bload_c (cell_heap hg1)).mono ?_; rintro e w' ⟨rfl, rfl⟩) | (go_at_call 59; refine hcl.mono ?_; rintro e w2 ⟨rfl, a, la, ha, hg2, f2⟩))
  have hd0 : w2.cell? ⟨g, 1, none⟩ = some (.int .u32 0) := cell_heap hg2
  have hz0 := frozen_heap (i := 1) hg2
  refine leaves_cons (f := 85) (args := #[.pointer (some ⟨g, 1, none⟩), .bool true]) (by simp) (by simp [go_sem]) ?_
  refine (store_deferred ⟨g, 1, none⟩ (.int .u32 0) .returning _ hd0 hz0).mono ?_
  rintro e u' w'' ⟨rfl, rfl, rfl⟩
  have hg3 : (w2.drew.setCell ⟨g, 1, none⟩ (.int .u32 1)).heap[g]? = _ := setCell_at (w := w2.drew) (i := 1) (.int .u32 1) hg2
  have f3 : Fr (fun b => b ∈ [g]) w2 (w2.drew.setCell ⟨g, 1, none⟩ (.int .u32 1)) := Fr.trans (S := fun b => b ∈ [g]) (b := w2.drew) ⟨rfl, rfl, rfl, Nat.le_refl _, fun _ _ _ => rfl⟩ (fr_setCell (w := w2.drew)) (fun _ _ h => h) (fun _ _ h => h)
  generalize (w2.drew.setCell ⟨g, 1, none⟩ (.int .u32 1)) = w3 at *
  refine leaves_cons (f := 84) (args := #[.pointer (some ⟨g, 2, none⟩)]) (by simp [settle]) (by simp [go_sem]) ?_
  refine (unlock_deferred ⟨g, 2, none⟩ _ _ (cell_heap hg3) (frozen_heap hg3)).mono ?_
  rintro e u' w'' ⟨rfl, rfl, rfl⟩
  have hg4 := setCell_at (i := 2) (.int .i32 0) hg3
  have f4 := fr_setCell (w := w3) (g := g) (i := 2) (v := .int .i32 0)
  have hag : a ≠ g := by have := heap_lt hg1; omega
  have ha4 : (w3.setCell ⟨g, 2, none⟩ (.int .i32 0)).heap[a]? = _ := (setCell_other (i := 2) (Value.int .i32 0) hag).trans ((f3.block a (heap_lt ha) (by simpa using hag)).trans ha)
  have fin : Fr (fun b => b ∈ [g]) w (w3.setCell ⟨g, 2, none⟩ (.int .i32 0)) := ((fr1.trans f2 (fun _ _ h => h) (fun _ _ h => h)).trans f3 (fun _ _ h => h) (fun _ _ h => h)).trans f4 (fun _ _ h => h) (fun _ _ h => h)
  generalize (w3.setCell ⟨g, 2, none⟩ (.int .i32 0)) = w4 at *
  have key : ∃ a, w.heap.size ≤ a ∧ w4.heap[a]? = some (.cells ((List.replicate k (0 : Int)).map (Value.int .i64)).toArray TE (0, 0)) ∧
      w4.heap[g]? = some (.cells #[.int .i64 (k : Int), .int .u32 1, .int .i32 0, .int .u32 0, .slice (some ⟨a, 0, none⟩) k k] TT (0, 0)) ∧ Fr (fun b => b ∈ [g]) w w4 := ⟨a, by omega, ha4, hg4, fin⟩
  refine ⟨.tuple #[], ?_, rfl, key⟩
  simp [results, Try.results74]
end Go.Proofs.Ytdjjfpcfclheiaa
