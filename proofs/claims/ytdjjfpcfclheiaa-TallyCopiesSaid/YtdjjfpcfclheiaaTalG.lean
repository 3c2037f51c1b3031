/- Tallies: the reference's; the law TallyPlays. -/
import Derived.Test.YtdjjfpcfclheiaaTalF
set_option linter.unusedSimpArgs false
set_option linter.unusedVariables false
namespace Go.Proofs.Ytdjjfpcfclheiaa
open Go Go.RowKit Go.Proofs Go.Trc Go.Sx

abbrev RT : TypeId := 40
/-- The reference's tally. -/
structure RTal (w : World) (g a : Nat) (xs : List Int) : Prop where
  hg : w.heap[g]? = some (.cells #[.slice (some ⟨a, 0, none⟩) xs.length xs.length] RT (0, 0))
  ha : w.heap[a]? = some (.cells (xs.map (Value.int .i64)).toArray 3 (0, 0))
  len : xs.length ≤ 64
  rng : ∀ x ∈ xs, 0 ≤ x ∧ x ≤ big
theorem RTal.keep {w w' : World} {g a : Nat} {xs : List Int} (h : RTal w g a xs) (hk : ∀ b ∈ [g, a], b < w.heap.size → w'.heap[b]? = w.heap[b]?) : RTal w' g a xs :=
  ⟨(hk g (by simp) (heap_lt h.hg)).trans h.hg, (hk a (by simp) (heap_lt h.ha)).trans h.ha, h.len, h.rng⟩
theorem RTal.below {w w' : World} {g a : Nat} {xs : List Int} (h : RTal w g a xs) (b : Below w.heap.size w w') : RTal w' g a xs := h.keep fun k _ hl => b.block k hl
theorem RTal.lt {w : World} {g a : Nat} {xs : List Int} (h : RTal w g a xs) : ∀ b ∈ [g, a], b < w.heap.size := by
  intro b hb; simp at hb; rcases hb with rfl | rfl; exact heap_lt h.hg; exact heap_lt h.ha
theorem RTal.past {w w' : World} {g a : Nat} {xs : List Int} {G G' : List Nat} (h : RTal w g a xs) (u : Up G w G' w') (hd : ∀ b ∈ [g, a], b ∉ G) : RTal w' g a xs := h.keep fun b hb hl => u.fr.block b hl (hd b hb)
theorem RTal.ne {w : World} {g a : Nat} {xs : List Int} (h : RTal w g a xs) : a ≠ g := fun e => by
  subst e
  have h1 := h.hg
  rw [h.ha] at h1
  injection h1 with h1
  injection h1 with _ h1
  exact absurd h1 (by decide)
theorem RTal.sl {w : World} {g a : Nat} {xs : List Int} (h : RTal w g a xs) : Sl w (fun b => b ∈ [g, a]) (.slice (some ⟨a, 0, none⟩) xs.length xs.length) xs := by
  have ho : OwnF w 0 3 (.slice (some ⟨a, 0, none⟩) xs.length xs.length) xs := OwnF.cells xs xs.length rfl (Nat.zero_le _) (by rw [flat_ints]; exact h.ha) (by have := h.len; simp [maxLen]; omega) (fun x hx => by have := h.rng x hx; unfold big at this; exact ⟨by omega, by omega⟩)
  exact Sl.blk ho.sl (by simp)
theorem RTal.row {w : World} {g a : Nat} {xs : List Int} (h : RTal w g a xs) : CellsAt w g 0 [.slice (some ⟨a, 0, none⟩) xs.length xs.length] := cells_row h.hg rfl
theorem RTal.at_ {w : World} {g a k : Nat} {xs : List Int} (h : RTal w g a xs) (hk : k < xs.length) : CellsAt w a (0 + k * 1 + 0) [.int .i64 xs[k]] := by
  have := cells_row (o := k) h.ha (ints_at hk)
  simpa using this
set_option maxHeartbeats 1000000 in
theorem rnew_c (w : World) (k : Int) : Calls Try.prog 19 #[.int .i64 k] w fun e w' => ∃ g a, w.heap.size ≤ g ∧ w.heap.size ≤ a ∧ RTal w' g a (List.replicate (kindsV k) 0) ∧ Below w.heap.size w w' ∧ e = .returned (.pointer (some ⟨g, 0, none⟩)) := by
  have hk : ((kindsV k : Nat) : Int) = min (max k 0) 64 := by unfold kindsV; omega
  have hinfo : (Try.prog.info? 3).map (fun i => (i.zero, i.size, i.bytes)) = some (some (.int .i64 0), 1, 8) := by kernel_rfl
  obtain ⟨i, hi, hz, hsz, hby⟩ := info_parts hinfo
  refine rnew_sx _ (fun _ => False) w k ⟨_, run_max2 w _ _ _ _, _, run_min2 w _ _ _ _, ?_⟩
  rw [← hk]
  generalize hK : kindsV k = K at *
  have hK64 : K ≤ 64 := by omega
  have hm := run_makeSlice (P := Try.prog) (w := w) 30 3 i _ Try.underlying30 hi hz .i64 .i64 (K : Int) (K : Int) (by omega) (by omega) (by rw [hsz]; omega) (by rw [hby]; omega) (by omega)
  have hmade : madeCells (Value.int .i64 0).cells ((K : Int).toNat * i.size) = ((List.replicate K (0 : Int)).map (Value.int .i64)).toArray := by
    rw [hsz, Nat.mul_one, Int.toNat_natCast]; exact made_zeros K
  rw [hmade, Int.toNat_natCast] at hm
  have b1 := fr_alloc w (.cells ((List.replicate K (0 : Int)).map (Value.int .i64)).toArray 3)
  have hnew := heap_alloc_new w (.cells ((List.replicate K (0 : Int)).map (Value.int .i64)).toArray 3)
  refine ⟨_, _, _, _, hm, ⟨(Fr.refl _ _).step b1, mild_nil b1.size⟩, ?_⟩
  intro g6 hg6 w2 f2 b2 lo6 t6
  refine ⟨g6, w.heap.size, hg6, Nat.le_refl _, ⟨by rw [List.length_replicate]; exact t6, (b2.block _ (heap_lt hnew)).trans hnew, by simpa using hK64, ?_⟩, b1.trans (b2.mono b1.size), rfl⟩
  intro x hx
  have := List.eq_of_mem_replicate hx
  subst this
  decide
set_option maxHeartbeats 1000000 in
theorem radd_c {w : World} {g a : Nat} {xs : List Int} (h : RTal w g a xs) (i n : Int) (hn : -9223372036854775808 ≤ n ∧ n ≤ 9223372036854775807) :
    Calls Try.prog 21 #[.pointer (some ⟨g, 0, none⟩), .int .i64 i, .int .i64 n] w fun e w' => RTal w' g a (addV xs i n) ∧ Up [g, a] w [g, a] w' ∧ e = .returned (.int .i64 (addE xs i n)) := by
  have hl := h.len
  have no : addE xs i n ≠ 0 → RTal w g a (addV xs i n) ∧ Up [g, a] w [g, a] w := fun he => ⟨by rw [addV_no he]; exact h, Up.refl _ _⟩
  have lg := heap_lt h.hg
  have la := heap_lt h.ha
  refine radd_sx _ (fun b => b ∈ [g, a]) w _ i n ⟨fun hlt => ?_, fun hge => ⟨g, 0, rfl, _, _, _, h.row, fun hle => ?_, fun hlt => ⟨fun hn0 => ?_, fun hn0 => ?_⟩⟩⟩
  · have he : addE xs i n = 1 := by unfold addE; rw [if_pos (.inl (by omega))]
    exact ⟨(no (by rw [he]; decide)).1, (no (by rw [he]; decide)).2, by rw [he]⟩
  · have he : addE xs i n = 1 := by unfold addE; rw [if_pos (.inl (by omega))]
    exact ⟨(no (by rw [he]; decide)).1, (no (by rw [he]; decide)).2, by rw [he]⟩
  · have he : addE xs i n = 1 := by unfold addE; rw [if_pos (.inr hn0)]
    exact ⟨(no (by rw [he]; decide)).1, (no (by rw [he]; decide)).2, by rw [he]⟩
  · obtain ⟨k, rfl⟩ : ∃ k : Nat, i = k := ⟨i.toNat, by omega⟩
    have hk : k < xs.length := by omega
    have hx := h.rng _ (List.getElem_mem hk)
    have hgv := getV_at hk
    unfold big at hx
    refine ⟨g, 0, rfl, _, _, _, h.row, hge, hlt, a, 0, rfl, _, h.at_ hk, ?_⟩
    rw [wrap_in (by omega)]
    refine ⟨fun hlt3 => ?_, fun hle3 => ⟨g, 0, rfl, fun w1 f1 b1 => ⟨_, _, _, (h.below b1).row, ⟨lg, by simp⟩, g, 0, rfl, _, _, _, (h.below b1).row, ⟨lg, by simp⟩, hge, hlt, a, 0, rfl, _, (h.below b1).at_ hk, ⟨la, by simp⟩, hge, hlt, a, 0, rfl, ?_⟩⟩⟩
    · have he : addE xs k n = 3 := by unfold addE; rw [if_neg (by omega), if_pos (by rw [hgv]; unfold big; omega)]
      exact ⟨(no (by rw [he]; decide)).1, (no (by rw [he]; decide)).2, by rw [he]⟩
    · have he : addE xs k n = 0 := by unfold addE; rw [if_neg (by omega), if_neg (by rw [hgv]; unfold big; omega)]
      have h1 := h.below b1
      rw [wrap_in (by omega)]
      obtain ⟨w2, hr, h2, gr⟩ := store_row (P := Try.prog) (w := w1) 3 (by kernel_rfl) h1.ha (o := k) (v := .int .i64 (xs[k] + n)) (by simp; omega) rfl rfl
      have hf : Fr (fun b => b ∈ [g, a]) w1 w2 := (fr_of_grown gr).mono fun k' _ h => by simp at h ⊢; exact .inr h
      have f2 := f1.trans hf (fun _ _ h => h) (fun _ _ h => h)
      have hr' : (Instr.storeAt 3 (.pointer (some ⟨a, 0 + (k : Int).toNat * 1 + 0, none⟩)) (.int .i64 (xs[k] + n))).run Try.prog w1 = .ok () w2 := by simpa using hr
      refine ⟨w2, hr', ⟨f2, mild_nil gr.size⟩, ⟨?_, ?_, ?_, ?_⟩, ⟨f2, fun b hb => .inl hb⟩, by rw [he]⟩
      · rw [addV_len]; exact (gr.block g (Nat.lt_of_lt_of_le lg b1.size) (fun e => by injection e with e; exact h.ne e.symm)).trans h1.hg
      · rw [h2]
        unfold addV
        rw [if_pos he, hgv, Int.toNat_natCast]
        simp
      · rw [addV_len]; exact hl
      · unfold addV
        rw [if_pos he, hgv, Int.toNat_natCast]
        intro x hxm
        rcases List.mem_or_eq_of_mem_set hxm with hxm | rfl
        · exact h.rng x hxm
        · unfold big; omega
theorem rget_c {w : World} {g a : Nat} {xs : List Int} (h : RTal w g a xs) (i : Int) :
    Calls Try.prog 22 #[.pointer (some ⟨g, 0, none⟩), .int .i64 i] w (Ret (.int .i64 (getV xs i)) w) := by
  refine rget_sx _ (fun _ => False) w _ i ⟨fun hlt => ret_leaf (Fr.refl _ _) ?_, fun hge => ⟨g, 0, rfl, _, _, _, h.row, fun hle => ret_leaf (Fr.refl _ _) ?_, fun hlt => ?_⟩⟩
  · unfold getV; rw [if_neg (by omega)]
  · unfold getV; rw [if_neg (by omega)]
  · obtain ⟨k, rfl⟩ : ∃ k : Nat, i = k := ⟨i.toNat, by omega⟩
    have hk : k < xs.length := by omega
    exact ⟨g, 0, rfl, _, _, _, h.row, hge, hlt, a, 0, rfl, _, h.at_ hk, ret_leaf (Fr.refl _ _) (by rw [getV_at hk])⟩
theorem rsum_c {w : World} {g a : Nat} {xs : List Int} (h : RTal w g a xs) :
    Calls Try.prog 23 #[.pointer (some ⟨g, 0, none⟩)] w (Ret (.int .i64 xs.sum) w) := by
  have hl := h.len
  refine rsum_sx _ (fun _ => False) w _ ?_
  refine ⟨fun s i w1 => ∃ k : Nat, i = k ∧ k ≤ xs.length ∧ s = (xs.take k).sum ∧ w1 = w, fun _ i _ => (xs.length - i : Int).toNat, ⟨0, rfl, Nat.zero_le _, rfl, rfl⟩, ?_⟩
  rintro _ _ w1 f1 ⟨k, rfl, hk, rfl, rfl⟩
  refine ⟨g, 0, rfl, _, _, _, h.row, fun hlt => ?_, fun hge => ret_leaf f1 (by rw [List.take_of_length_le (by omega)])⟩
  have hk' : k < xs.length := by omega
  have r1 := sum_take_rng h.rng h.len k
  have r2 := h.rng _ (List.getElem_mem hk')
  unfold big at r2
  exact ⟨g, 0, rfl, _, _, _, h.row, by omega, hlt, a, 0, rfl, _, h.at_ hk', ⟨k + 1, by rw [wrap_in (by omega)]; rfl, hk', by rw [wrap_in (by omega), sum_take xs k hk'], rfl⟩, by rw [wrap_in (x := (k : Int) + 1) (by omega)]; dsimp only; omega⟩
end Go.Proofs.Ytdjjfpcfclheiaa
