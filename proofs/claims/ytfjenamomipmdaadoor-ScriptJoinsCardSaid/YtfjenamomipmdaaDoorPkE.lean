/- Opcode: at most ten operations with short texts; the document's example. -/
import Derived.Test.YtfjenamomipmdaaDoorPkW
import Derived.Test.YtfjenamomipmdaaDoorPkX
set_option linter.unusedSimpArgs false
set_option linter.unusedVariables false
namespace Go.Proofs.YtfjenamomipmdaaDoor
open Go Go.RowKit Go.Proofs Go.Trc Go.Sx
def cutT (o : OpV) : OpV := if 100 < o.tx.size then { o with tx := o.tx.extract 0 100 } else o
def fewV (l : List OpV) : List OpV := (l.take 10).map cutT
theorem infoOp : (Tryd.prog.info? 39).map (fun i => (i.zero, i.size, i.bytes)) = some (some (.agg OpV.zero.cells), 20, 168) := by kernel_rfl
theorem cut_wf {o : OpV} (h : Fixed.wf o) : Fixed.wf (cutT o) := by
  unfold cutT
  split
  · refine ⟨h.1, ?_⟩
    show (o.tx.extract 0 100).size ≤ maxLen
    rw [ByteArray.size_extract]; unfold maxLen; omega
  · exact h
theorem cut_size (o : OpV) : (cutT o).tx.size ≤ 100 := by
  unfold cutT
  split
  · show (o.tx.extract 0 100).size ≤ 100
    rw [ByteArray.size_extract]; omega
  · omega
theorem few_len (l : List OpV) : (fewV l).length ≤ 10 := by unfold fewV; rw [List.length_map, List.length_take]; omega
theorem run_cut_s {w : World} (s : ByteArray) (k : Nat) (h : k ≤ s.size) : (Instr.sliceAt 9 (.string s) none (some (.int .i64 (k : Int))) none).run Tryd.prog w = .ok (.string (s.extract 0 k)) w := by
  have h0 : (0 : Int) ≤ k := by omega
  simp [Instr.sliceAt, run_underlying Tryd.underlying9, Instr.slice, Instr.sliceBounds, Instr.sliceBound, asIntOf, h0, h]
/-- A call that comes to an edit of its own. -/
def RetE (w : World) (l : List OpV) (e : Ending) (w' : World) : Prop := ∃ A n c, e = .returned (.agg #[.slice A n c]) ∧ OwnF w' w.heap.size 39 (.slice A n c) l ∧ Below w.heap.size w w'
theorem past_own {w w' : World} {base g : Nat} {A : Option Addr} {n c : Nat} {xs : List OpV} (o : OwnF w base 39 (.slice A n c) xs) (q : Fr (fun b => b ∈ [g]) w w') (hne : (Value.slice A n c).ownBlock ≠ some g) : OwnF w' base 39 (.slice A n c) xs :=
  o.keep (row := some g) ⟨q.os, q.tape, q.output, q.size, fun k hk h => q.block k hk fun hm => h (by simp only [List.mem_singleton] at hm; rw [hm])⟩ (.inr hne)
set_option maxHeartbeats 2000000 in
theorem few10_c {w : World} {ok : Nat → Prop} {A : Option Addr} {n c : Nat} {l : List OpV} (h : Sl w ok (.slice A n c) l) :
    Calls Tryd.prog 16 #[.agg #[.slice A n c]] w (RetE w (fewV l)) := by
  have hn := h.len
  refine few10_sx _ (fun b => some b = none) w A n c ?_
  intro g3 hg3 g4 hg4 g5 hg5
  refine ⟨fun i A n c w' => ∃ k : Nat, i = (k : Int) ∧ k ≤ l.length ∧ k ≤ 10 ∧ (g4 = g5 ∨ ∃ C, w'.heap[g4]? = some (.cells C 25 (0, 0))) ∧ Rw none w w.heap.size 39 w' (.slice A n c) ((l.take k).map cutT) [g5, g4, g3], fun i _ _ _ _ => (10 - i).toNat, ?_, ?_⟩
  · intro w1 f1 b1 lo5 t5 lo4 t4 lo3 t3
    exact ⟨0, rfl, Nat.zero_le _, by omega, .inr ⟨_, t4⟩, Rw.nil (fr_none f1) (by
      intro k hk
      simp only [List.mem_cons, List.not_mem_nil, or_false] at hk
      rcases hk with rfl | rfl | rfl
      · exact heap_lt t5
      · exact heap_lt t4
      · exact heap_lt t3)⟩
  rintro _ A7 n8 n9 w2 f2 ⟨k, rfl, hk, hk10, t4', r⟩ t5
  obtain ⟨C4, t4⟩ : ∃ C, w2.heap[g4]? = some (.cells C 25 (0, 0)) := by
    rcases t4' with rfl | h
    · exact ⟨_, t5⟩
    · exact h
  have fin : ∀ w3, Fr (fun b => some b = none) w w3 → Fr (fun b => b ∈ [g4]) w2 w3 → fewV l = (l.take k).map cutT → RetE w (fewV l) (.returned (.agg #[.slice A7 n8 n9])) w3 := by
    intro w3 f3 q3 he
    rw [he]
    exact ⟨A7, n8, n9, rfl, past_own r.own q3 (own_ne' r.own t4 (by decide)), fr_below (fr_none f3)⟩
  refine ⟨fun hlt => ⟨fun h10 => ?_, fun h10 w3 f3 q3 => fin w3 f3 q3 (by unfold fewV; rw [show k = 10 by omega])⟩, fun hge w3 f3 q3 => fin w3 f3 q3 (by unfold fewV; rw [List.take_of_length_le (by omega), List.take_of_length_le (by omega)])⟩
  have hlt' : k < l.length := by omega
  have h2 := h.below (fr_below (fr_none f2))
  have hwf := Sl.wf h2 _ (List.getElem_mem hlt')
  obtain ⟨b, o, hA, _, _, _, hc⟩ := Sl.op h2 k hlt'
  have hml : ((l.take k).map cutT).length = k := by rw [List.length_map, List.length_take]; omega
  have hnext : (l.take (k + 1)).map cutT = (l.take k).map cutT ++ [cutT l[k]] := by rw [List.take_add_one, List.getElem?_eq_getElem hlt', List.map_append]; rfl
  refine ⟨by omega, hlt, b, o, hA, _, _, _, _, _, _, _, _, _, _, _, _, _, _, _, _, _, _, _, _, hc, ?_⟩
  intro g32 hg32
  refine ⟨fun hbig w3 f3 b3 lo32 t32 => ?_, fun hsm g33 hg33 w3 f3 b3 lo33 t33 lo32 t32 => ?_⟩
  · refine ⟨_, run_cut_s l[k].tx 100 (by omega), ?_⟩
    intro g34 hg34 w4 f4 q4 lo34 t34
    have r3 := r.on b3 [g32] (by simp only [List.mem_singleton]; rintro _ rfl; exact ⟨lo32, heap_lt t32⟩)
    have r3' := Rw.past r3 q4 hg32 (fun hh => by have := (Own.lt r.own g32 hh).2; omega)
    have r4 : Rw none w w.heap.size 39 w4 (.slice A7 n8 n9) ((l.take k).map cutT) [g34, g32, g5, g4, g3] := ⟨r3'.own, r3'.fr, fun j hj => ⟨(r3'.blk j hj).1, fun hm => by
      rcases List.mem_cons.1 hm with rfl | hm
      · have := tail_lt r3.own hj; omega
      · exact (r3'.blk j hj).2 hm⟩, fun g hg => by
      rcases List.mem_cons.1 hg with rfl | hg
      · exact heap_lt t34
      · exact r3'.names g hg, r3'.le⟩
    have ec : cutT l[k] = { l[k] with tx := l[k].tx.extract 0 100 } := by unfold cutT; rw [if_pos (by omega)]
    obtain ⟨w5, A5, n5, c5, hr5, m5, r5⟩ := r4.append 23 23 _ 168 Tryd.underlying23 infoOp rfl (arg_cells [cutT l[k]] 1 rfl (by rw [ec]; exact t34) (by decide) (by simp only [List.mem_singleton]; rintro _ rfl; exact cut_wf hwf)) (by rw [hml]; simp; omega) (by rw [hml]; simp; omega)
    have e5 := (m5.2.2 g5 (by simp) (r4.names g5 (by simp))).trans ((q4.block g5 (r3.names g5 (by simp)) (by simp; have := heap_lt t5; omega)).trans ((b3.block g5 (heap_lt t5)).trans t5))
    have e4 := (m5.2.2 g4 (by simp) (r4.names g4 (by simp))).trans ((q4.block g4 (r3.names g4 (by simp)) (by simp; have := heap_lt t4; omega)).trans ((b3.block g4 (heap_lt t4)).trans t4))
    -- the round's end
    refine ⟨w5, A5, n5, c5, hr5, m5, fun w6 f6 q6 => ⟨⟨k + 1, by rw [wrap_in (by omega)]; rfl, hlt', by omega, ?_, ?_⟩, by dsimp only; rw [wrap_in (by omega)]; omega⟩⟩
    · by_cases h45 : g4 = g5
      · exact .inl h45
      · exact .inr ⟨C4, (q6.block g4 (heap_lt e4) (by simpa using h45)).trans e4⟩
    · rw [hnext]
      exact (Rw.past r5 q6 hg5 (own_ne' r5.own e5 (by decide))).less' (by intro g hg; simp at hg ⊢; omega)
  · have r3 := (r.on b3 [g32] (by simp only [List.mem_singleton]; rintro _ rfl; exact ⟨lo32, heap_lt t32⟩))
    have r4 : Rw none w w.heap.size 39 w3 (.slice A7 n8 n9) ((l.take k).map cutT) [g33, g32, g5, g4, g3] := ⟨r3.own, r3.fr, fun j hj => ⟨(r3.blk j hj).1, fun hm => by
      rcases List.mem_cons.1 hm with rfl | hm
      · have := tail_lt r.own hj; omega
      · exact (r3.blk j hj).2 hm⟩, fun g hg => by
      rcases List.mem_cons.1 hg with rfl | hg
      · exact heap_lt t33
      · exact r3.names g hg, r3.le⟩
    have ec : cutT l[k] = l[k] := by unfold cutT; rw [if_neg (by omega)]
    obtain ⟨w5, A5, n5, c5, hr5, m5, r5⟩ := r4.append 23 23 _ 168 Tryd.underlying23 infoOp rfl (arg_cells [cutT l[k]] 1 rfl (by rw [ec]; exact t33) (by decide) (by simp only [List.mem_singleton]; rintro _ rfl; exact cut_wf hwf)) (by rw [hml]; simp; omega) (by rw [hml]; simp; omega)
    have e5 := (m5.2.2 g5 (by simp) (r4.names g5 (by simp))).trans ((b3.block g5 (heap_lt t5)).trans t5)
    have e4 := (m5.2.2 g4 (by simp) (r4.names g4 (by simp))).trans ((b3.block g4 (heap_lt t4)).trans t4)
    -- the round's end
    refine ⟨w5, A5, n5, c5, hr5, m5, fun w6 f6 q6 => ⟨⟨k + 1, by rw [wrap_in (by omega)]; rfl, hlt', by omega, ?_, ?_⟩, by dsimp only; rw [wrap_in (by omega)]; omega⟩⟩
    · by_cases h45 : g4 = g5
      · exact .inl h45
      · exact .inr ⟨C4, (q6.block g4 (heap_lt e4) (by simpa using h45)).trans e4⟩
    · rw [hnext]
      exact (Rw.past r5 q6 hg5 (own_ne' r5.own e5 (by decide))).less' (by intro g hg; simp at hg ⊢; omega)
end Go.Proofs.YtfjenamomipmdaaDoor


/- Opcode: the document's example; OpcodePuts. -/
set_option linter.unusedSimpArgs false
set_option linter.unusedVariables false
namespace Go.Proofs.YtfjenamomipmdaaDoor
open Go Go.RowKit Go.Proofs Go.Trc Go.Sx
theorem edit_of {w : World} {ok : Nat → Prop} {v : Value} {xs : List OpV} (h : Rep.K w ok xs v.cells.toList) (z : ∃ cs : Array Value, v = .agg cs) : ∃ A n c, v = .agg #[.slice A n c] ∧ Sl w ok (.slice A n c) xs := by
  obtain ⟨cs, rfl⟩ := z
  obtain ⟨u, hu, hs⟩ := h
  obtain ⟨A, c, rfl, _⟩ := id hs
  refine ⟨A, _, c, ?_, hs⟩
  have : cs.toList = [.slice A xs.length c] := hu
  rw [show cs = #[.slice A xs.length c] from Array.ext' this]
theorem rd_edit : Rd Tryd.prog 25 (List OpV) := rd_struct Tryd.underlying25 (by kernel_rfl) (rdF_last (by kernel_rfl) (rd_slice Tryd.underlying23 (by kernel_rfl) rd_op))
def o0 : OpV := { OpV.zero with kd := 1, s := 2, n := 258 }
theorem str_of {w : World} {ok : Nat → Prop} {A : Option Addr} {n c : Nat} {xs : List UInt8} (h : Sl w ok (.slice A n c) xs) : (convert 22 9 (.slice A n c)).run Tryd.prog w = .ok (.string ⟨xs.toArray⟩) w :=
  h.string 22 9 5 Tryd.underlying22 Tryd.underlying5 Tryd.underlying9
theorem shown10_c (w : World) : Calls Tryd.prog 14 #[] w (Ret (.bool true) w) := by
  refine shown10_sx _ (fun _ => False) w ?_
  intro g0 hg0 w1 f1 b1 lo0 t0
  have s1 : Sl w1 (fun _ => True) (.slice (some ⟨g0, 0, none⟩) 1 1) [o0] := (OwnF.cells [o0] 1 rfl (Nat.zero_le g0) t0 (by decide) (by simp only [List.mem_singleton]; rintro _ rfl; exact ⟨⟨by unfold rng; decide, by unfold rng; decide, by unfold rng; decide, by unfold rng; decide⟩, by decide⟩)).to fun _ _ => trivial
  refine (opcodePut_c (Sl.nil0 w1 (fun _ => True)) (by omega) s1).mono ?_
  rintro e w2 ⟨A, n, c, rfl, o2, b2⟩
  have hp : putV [] [o0] = ([1, 1, 2, 0, 1, 2], 0) := by decide
  rw [hp] at o2 ⊢
  refine ⟨A, n, c, _, rfl, ok_ret b2 f1, _, str_of o2.sl, fun _ => ?_, fun hne => absurd rfl hne⟩
  exact ret_leaf (f1.step b2) rfl
set_option maxHeartbeats 1000000 in
theorem opcodePuts_wk {w : World} {ok ok' : Nat → Prop} {A A3 : Option Addr} {n c n4 c5 : Nat} {xs : List UInt8} {l : List OpV} (h : Sl w ok (.slice A n c) xs) (hops : Sl w ok' (.slice A3 n4 c5) l) :
    Calls Tryd.prog 3 #[.slice A n c, .agg #[.slice A3 n4 c5]] w (Ret (.bool true) w) := by
  refine opcodePuts_sx _ (fun _ => False) w A n c A3 n4 c5 ?_
  intro g6 hg6 w1 f1 b1 lo6 t6
  refine (shown10_c w1).mono ?_
  rintro e w2 ⟨rfl, b2⟩
  have f2 := f1.step b2
  have h2 := h.below (fr_below f2)
  refine ⟨_, rfl, ok_ret b2 f1, fun hgt => ?_, fun hle => ?_⟩
  · obtain ⟨i, hi, _⟩ := infoB2
    obtain ⟨hr, s0⟩ := run_cut (P := Tryd.prog) (w := w2) 22 5 Tryd.underlying22 hi (k := 50) h2 (by omega)
    have s00 := h.take 50 c (by have := h.len; omega) (by have := h.len_eq; omega) (Nat.le_refl _)
    refine ⟨A, 50, c, hr, ?_⟩
    -- both put the same
    refine ⟨[], by simp, ?_⟩
    intro g12 hg12 w3 f3 b3 lo12 t12
    obtain ⟨w4, A13, n14, c15, hr4, s4, b4⟩ := app_new (P := Tryd.prog) (g := g12) 22 22 5 (.int .u8 0) 1 Tryd.underlying22 infoB1 rfl (s0.below b3) (by omega)
    have f4 := f3.step b4
    refine ⟨w4, A13, n14, c15, hr4, ok_ret b4 f3, keep_below b4 b3.size, ?_⟩
    have h4 := hops.below (fr_below f4)
    refine (few10_c h4).mono ?_
    rintro e w5 ⟨A16, n17, c18, rfl, o5, b5⟩
    have f5 := f4.step b5
    refine ⟨A16, n17, c18, rfl, ok_ret b5 f4, ?_⟩
    have l4 := s4.len
    have lx := s0.len
    refine (opcodePut_c (s4.below b5) (by omega) o5.sl).mono ?_
    rintro e w6 ⟨A19, n20, c21, rfl, o6, b6⟩
    have f6 := f5.step b6
    refine ⟨A19, n20, c21, _, rfl, ok_ret b6 f5, ?_⟩
    refine (few10_c (hops.below (fr_below f6))).mono ?_
    rintro e w7 ⟨A23, n24, c25, rfl, o7, b7⟩
    have f7 := f6.step b7
    refine ⟨A23, n24, c25, rfl, ok_ret b7 f6, ?_⟩
    refine (ref10Put_c (s00.below (fr_below f7)) (by omega) o7.sl).mono ?_
    rintro e w8 ⟨A26, n27, c28, rfl, o8, b8⟩
    have f8 := f7.step b8
    refine ⟨A26, n27, c28, _, rfl, ok_ret b8 f7, fun _ => ⟨_, str_of ((o6.below b7).below b8).sl, _, str_of o8.sl, fun _ => ret_leaf f8 (by simp), fun hne => absurd rfl hne⟩, fun hb => by cases hb⟩
  · skip
    -- both put the same
    refine ⟨[], by simp, ?_⟩
    intro g12 hg12 w3 f3 b3 lo12 t12
    obtain ⟨w4, A13, n14, c15, hr4, s4, b4⟩ := app_new (P := Tryd.prog) (g := g12) 22 22 5 (.int .u8 0) 1 Tryd.underlying22 infoB1 rfl (h2.below b3) (by omega)
    have f4 := f3.step b4
    refine ⟨w4, A13, n14, c15, hr4, ok_ret b4 f3, keep_below b4 b3.size, ?_⟩
    have h4 := hops.below (fr_below f4)
    refine (few10_c h4).mono ?_
    rintro e w5 ⟨A16, n17, c18, rfl, o5, b5⟩
    have f5 := f4.step b5
    refine ⟨A16, n17, c18, rfl, ok_ret b5 f4, ?_⟩
    have l4 := s4.len
    have lx := h2.len
    refine (opcodePut_c (s4.below b5) (by omega) o5.sl).mono ?_
    rintro e w6 ⟨A19, n20, c21, rfl, o6, b6⟩
    have f6 := f5.step b6
    refine ⟨A19, n20, c21, _, rfl, ok_ret b6 f5, ?_⟩
    refine (few10_c (hops.below (fr_below f6))).mono ?_
    rintro e w7 ⟨A23, n24, c25, rfl, o7, b7⟩
    have f7 := f6.step b7
    refine ⟨A23, n24, c25, rfl, ok_ret b7 f6, ?_⟩
    refine (ref10Put_c (h.below (fr_below f7)) (by omega) o7.sl).mono ?_
    rintro e w8 ⟨A26, n27, c28, rfl, o8, b8⟩
    have f8 := f7.step b8
    refine ⟨A26, n27, c28, _, rfl, ok_ret b8 f7, fun _ => ⟨_, str_of ((o6.below b7).below b8).sl, _, str_of o8.sl, fun _ => ret_leaf f8 (by simp), fun hne => absurd rfl hne⟩, fun hb => by cases hb⟩
theorem opcodePuts_walk (w : World) (A : Option Addr) (n c : Nat) (xs : List UInt8) (h : Sl w (fun b => b < w.heap.size) (.slice A n c) xs) (v1 : Value) (l : List OpV) (h1 : Rep.K w (fun b => b < w.heap.size) l v1.cells.toList) (z1 : ∃ cs : Array Value, v1 = .agg cs) :
    Calls Tryd.prog 3 #[.slice A n c, v1] w fun e w' => e = .returned (.bool true) ∧ Below w.heap.size w w' := by
  obtain ⟨A3, n3, c3, rfl, s⟩ := edit_of h1 z1
  exact opcodePuts_wk h s
end Go.Proofs.YtfjenamomipmdaaDoor


/- OpcodeSizes: the walk. -/
set_option linter.unusedSimpArgs false
set_option linter.unusedVariables false
namespace Go.Proofs.YtfjenamomipmdaaDoor
open Go Go.RowKit Go.Proofs Go.Trc Go.Sx
theorem neq_dart (W : World) (s n k s' n' k' : Int) : (binOp .neq 35 (.agg #[.int .i64 s, .int .i64 n, .int .i64 k]) (.agg #[.int .i64 s', .int .i64 n', .int .i64 k'])).run Tryd.prog W = .ok (.bool (!decide (s = s' ∧ n = n' ∧ k = k'))) W := by
  go_simp
  by_cases h : s = s' <;> by_cases h' : n = n' <;> by_cases h'' : k = k' <;> simp [h, h', h'']
theorem corn_zero {a1 a2 a3 a4 a5 : Int} (h : a3 = 0 ∧ a4 = 0 ∧ a5 = 0) : (cornB a1 a2 a3 a4 a5).length = 5 := by unfold cornB; rw [if_pos h]; rfl
theorem corn_some {a1 a2 a3 a4 a5 : Int} (h : ¬ (a3 = 0 ∧ a4 = 0 ∧ a5 = 0)) : (cornB a1 a2 a3 a4 a5).length = 9 := by unfold cornB; rw [if_neg h]; rfl
theorem nd {p : Prop} [Decidable p] (h : (!decide p) = true) : ¬ p := by simpa using h
theorem textB_len (s : ByteArray) : (textB s).length = s.size + 1 := by simp [textB]
theorem opB_len5 (o : OpV) : (opB o).length = 5 + (restB o).length := by simp [opB, idB]; omega
set_option maxHeartbeats 2000000 in
theorem opcodeSizes_wk {w : World} {ok : Nat → Prop} {A : Option Addr} {n c : Nat} {l : List OpV} (h : Sl w ok (.slice A n c) l) :
    Calls Tryd.prog 4 #[.agg #[.slice A n c]] w (Ret (.bool true) w) := by
  refine opcodeSizes_sx _ (fun _ => False) w A n c ?_
  intro g3 hg3 w1 f1 b1 lo3 t3
  refine (shown10_c w1).mono ?_
  rintro e w2 ⟨rfl, b2⟩
  have f2 := f1.step b2
  refine ⟨_, rfl, ok_ret b2 f1, ?_⟩
  refine (few10_c (h.below (fr_below f2))).mono ?_
  rintro e w3 ⟨A5, n6, c7, rfl, o3, b3⟩
  have e3 := (b3.block g3 (Nat.lt_of_lt_of_le (heap_lt t3) b2.size)).trans ((b2.block g3 (heap_lt t3)).trans t3)
  refine ⟨A5, n6, c7, rfl, ok_ret b3 f2, fun w4 f4 q4 => ?_⟩
  have o4 := past_own o3 q4 (own_ne' o3 e3 (by decide))
  have hL := few_len l
  generalize fewV l = L at o4 hL
  have hn := o4.sl.len
  refine (opcodePut_c (Sl.nil0 w4 (fun _ => True)) (by omega) o4.sl).mono ?_
  rintro e w5 ⟨A8, n9, c10, rfl, o5, b5⟩
  have f5 := f4.step b5
  have h9 := o5.sl.len
  refine ⟨A8, n9, c10, _, rfl, ok_ret b5 f4, fun hne => ⟨fun _ => ret_leaf f5 ?_, fun hb => by cases hb⟩, fun he => ?_⟩
  · have hm : mayEditV L ≠ 0 := fun hm => hne (by unfold putV; rw [if_pos hm])
    rw [h9]; unfold putV; rw [if_neg hm]; rfl
  have hm : mayEditV L = 0 := by
    unfold putV at he
    split at he
    · assumption
    · exact he
  obtain ⟨hlen, hgood⟩ := may_good hm
  have hpl : n9 = 1 + (L.flatMap opB).length := by rw [h9]; unfold putV; rw [if_pos hm]; simp [editB]; omega
  have o5' := o4.below b5
  refine ⟨fun i12 i13 w' => ∃ k : Nat, i13 = (k : Int) ∧ k ≤ L.length ∧ i12 = 1 + (((L.take k).flatMap opB).length : Int) ∧ Sl w' (fun _ => True) (.slice A5 n6 c7) L, fun _ i _ => (L.length - i : Int).toNat, ⟨0, rfl, Nat.zero_le _, rfl, o5'.sl.any⟩, ?_⟩
  rintro _ _ w6 f6 ⟨k, rfl, hk, rfl, o6⟩
  have hfl := flat_op_len (l := L.take k) fun x hx => hgood x (List.mem_of_mem_take hx)
  have htl : (L.take k).length ≤ 6 := by rw [List.length_take]; omega
  refine ⟨fun hlt => ?_, fun hge => ⟨fun _ => ret_leaf f6 ?_, fun hb => by cases hb⟩⟩
  · have hlt' : k < L.length := by omega
    obtain ⟨b, o, hA, _, _, _, hc⟩ := Sl.op o6 k hlt'
    have hg := hgood _ (List.getElem_mem hlt')
    generalize ho1 : L[k] = o1 at hc hg
    refine ⟨by omega, hlt, b, o, hA, _, _, _, _, _, _, _, _, _, _, _, _, _, _, _, _, _, _, _, _, hc, ?_⟩
    intro g36 hg36
    have hs7 : o1.kd = 7 → o1.tx.size ≤ 16 := fun h7 => label_size (hg.k7 h7)
    refine ⟨fun h3 w7 f7 b7 _ _ => ⟨_, neq_dart .., fun hx => ⟨_, neq_dart .., fun hy => ?_, fun hy => ?_⟩, fun hx => ⟨_, neq_dart .., fun hy => ?_, fun hy => ?_⟩⟩, fun h3 => ⟨fun h5 w7 f7 b7 _ _ => ?_, fun h5 => ⟨fun h6 w7 f7 b7 _ _ => ?_, fun h6 => ⟨fun h7 w7 f7 b7 _ _ => ?_, fun h7 => ⟨fun h8 w7 f7 b7 _ _ => ?_, fun h8 w7 f7 b7 _ _ => ?_⟩⟩⟩⟩⟩
    · skip
      -- the round's end
      refine ⟨⟨k + 1, by rw [wrap_in (by omega)]; rfl, hlt', ?_, o6.below b7⟩, by dsimp only; rw [wrap_in (x := (k : Int) + 1) (by omega)]; omega⟩
      rw [take_op _ k hlt', List.length_append, ho1, opB_len5]
      have e5 : (restB o1).length = 18 := by unfold restB; rw [if_pos h3, List.length_append, corn_some (nd hx), corn_some (nd hy)]
      rw [e5]
      simp (disch := omega) only [wrap_in]
      omega
    · skip
      -- the round's end
      refine ⟨⟨k + 1, by rw [wrap_in (by omega)]; rfl, hlt', ?_, o6.below b7⟩, by dsimp only; rw [wrap_in (x := (k : Int) + 1) (by omega)]; omega⟩
      rw [take_op _ k hlt', List.length_append, ho1, opB_len5]
      have e5 : (restB o1).length = 14 := by unfold restB; rw [if_pos h3, List.length_append, corn_some (nd hx), corn_zero (by simpa using hy)]
      rw [e5]
      simp (disch := omega) only [wrap_in]
      omega
    · skip
      -- the round's end
      refine ⟨⟨k + 1, by rw [wrap_in (by omega)]; rfl, hlt', ?_, o6.below b7⟩, by dsimp only; rw [wrap_in (x := (k : Int) + 1) (by omega)]; omega⟩
      rw [take_op _ k hlt', List.length_append, ho1, opB_len5]
      have e5 : (restB o1).length = 14 := by unfold restB; rw [if_pos h3, List.length_append, corn_zero (by simpa using hx), corn_some (nd hy)]
      rw [e5]
      simp (disch := omega) only [wrap_in]
      omega
    · skip
      -- the round's end
      refine ⟨⟨k + 1, by rw [wrap_in (by omega)]; rfl, hlt', ?_, o6.below b7⟩, by dsimp only; rw [wrap_in (x := (k : Int) + 1) (by omega)]; omega⟩
      rw [take_op _ k hlt', List.length_append, ho1, opB_len5]
      have e5 : (restB o1).length = 10 := by unfold restB; rw [if_pos h3, List.length_append, corn_zero (by simpa using hx), corn_zero (by simpa using hy)]
      rw [e5]
      simp (disch := omega) only [wrap_in]
      omega
    · skip
      -- the round's end
      refine ⟨⟨k + 1, by rw [wrap_in (by omega)]; rfl, hlt', ?_, o6.below b7⟩, by dsimp only; rw [wrap_in (x := (k : Int) + 1) (by omega)]; omega⟩
      rw [take_op _ k hlt', List.length_append, ho1, opB_len5]
      have e5 : (restB o1).length = 9 := by unfold restB; rw [if_neg h3, if_pos h5]; rfl
      rw [e5]
      simp (disch := omega) only [wrap_in]
      omega
    · skip
      -- the round's end
      refine ⟨⟨k + 1, by rw [wrap_in (by omega)]; rfl, hlt', ?_, o6.below b7⟩, by dsimp only; rw [wrap_in (x := (k : Int) + 1) (by omega)]; omega⟩
      rw [take_op _ k hlt', List.length_append, ho1, opB_len5]
      have e5 : (restB o1).length = 4 := by unfold restB; rw [if_neg h3, if_neg h5, if_pos h6]; rfl
      rw [e5]
      simp (disch := omega) only [wrap_in]
      omega
    · have hs := hs7 h7
      -- the round's end
      refine ⟨⟨k + 1, by rw [wrap_in (by omega)]; rfl, hlt', ?_, o6.below b7⟩, by dsimp only; rw [wrap_in (x := (k : Int) + 1) (by omega)]; omega⟩
      rw [take_op _ k hlt', List.length_append, ho1, opB_len5]
      have e5 : (restB o1).length = 2 + o1.tx.size := by unfold restB; rw [if_neg h3, if_neg h5, if_neg h6, if_pos h7, List.length_cons, textB_len]; omega
      rw [e5]
      simp (disch := omega) only [wrap_in]
      omega
    · skip
      -- the round's end
      refine ⟨⟨k + 1, by rw [wrap_in (by omega)]; rfl, hlt', ?_, o6.below b7⟩, by dsimp only; rw [wrap_in (x := (k : Int) + 1) (by omega)]; omega⟩
      rw [take_op _ k hlt', List.length_append, ho1, opB_len5]
      have e5 : (restB o1).length = 9 := by unfold restB; rw [if_neg h3, if_neg h5, if_neg h6, if_neg h7, if_pos h8]; rfl
      rw [e5]
      simp (disch := omega) only [wrap_in]
      omega
    · skip
      -- the round's end
      refine ⟨⟨k + 1, by rw [wrap_in (by omega)]; rfl, hlt', ?_, o6.below b7⟩, by dsimp only; rw [wrap_in (x := (k : Int) + 1) (by omega)]; omega⟩
      rw [take_op _ k hlt', List.length_append, ho1, opB_len5]
      have e5 : (restB o1).length = 0 := by unfold restB; rw [if_neg h3, if_neg h5, if_neg h6, if_neg h7, if_neg h8]; rfl
      rw [e5]
      simp (disch := omega) only [wrap_in]
      omega
  · have : k = L.length := by omega
    subst this
    rw [List.take_length, hpl]; simp
theorem opcodeSizes_walk (w : World) (v1 : Value) (l : List OpV) (h1 : Rep.K w (fun b => b < w.heap.size) l v1.cells.toList) (z1 : ∃ cs : Array Value, v1 = .agg cs) :
    Calls Tryd.prog 4 #[v1] w fun e w' => e = .returned (.bool true) ∧ Below w.heap.size w w' := by
  obtain ⟨A3, n3, c3, rfl, s⟩ := edit_of h1 z1
  exact opcodeSizes_wk s
end Go.Proofs.YtfjenamomipmdaaDoor
