/- Opcode: at most ten operations with short texts; the document's example. -/
import Derived.Test.YtfjenamomipmdaaDoorOcZ
import Derived.Test.YtfjenamomipmdaaDoorOcL
set_option linter.unusedSimpArgs false
set_option linter.unusedVariables false
namespace Go.Proofs.YtfjenamomipmdaaDoor
open Go Go.RowKit Go.Proofs Go.Trc Go.Sx
def cutT (o : OpV) : OpV := if 100 < o.tx.size then { o with tx := o.tx.extract 0 100 } else o
def fewV (l : List OpV) : List OpV := (l.take 10).map cutT
theorem infoOp : (Tryd.prog.info? 39).map (fun i => (i.zero, i.size, i.bytes)) = some (some (.agg OpV.zero.cells), 20, 168) := by kernel_rfl
theorem cut_wf {o : OpV} (h : Fixed.wf o) : Fixed.wf (cutT o) := by
  unfold cutT
  split
  · refine ⟨h.1, ?_⟩
    show (o.tx.extract 0 100).size ≤ maxLen
    rw [ByteArray.size_extract]; unfold maxLen; omega
  · exact h
theorem cut_size (o : OpV) : (cutT o).tx.size ≤ 100 := by
  unfold cutT
  split
  · show (o.tx.extract 0 100).size ≤ 100
    rw [ByteArray.size_extract]; omega
  · omega
theorem few_len (l : List OpV) : (fewV l).length ≤ 10 := by unfold fewV; rw [List.length_map, List.length_take]; omega
theorem run_cut_s {w : World} (s : ByteArray) (k : Nat) (h : k ≤ s.size) : (Instr.sliceAt 9 (.string s) none (some (.int .i64 (k : Int))) none).run Tryd.prog w = .ok (.string (s.extract 0 k)) w := by
  have h0 : (0 : Int) ≤ k := by omega
  simp [Instr.sliceAt, run_underlying Tryd.underlying9, Instr.slice, Instr.sliceBounds, Instr.sliceBound, asIntOf, h0, h]
/-- A call that comes to an edit of its own. -/
def RetE (w : World) (l : List OpV) (e : Ending) (w' : World) : Prop := ∃ A n c, e = .returned (.agg #[.slice A n c]) ∧ OwnF w' w.heap.size 39 (.slice A n c) l ∧ Below w.heap.size w w'
theorem past_own {w w' : World} {base g : Nat} {A : Option Addr} {n c : Nat} {xs : List OpV} (o : OwnF w base 39 (.slice A n c) xs) (q : Fr (fun b => b ∈ [g]) w w') (hne : (Value.slice A n c).ownBlock ≠ some g) : OwnF w' base 39 (.slice A n c) xs :=
  o.keep (row := some g) ⟨q.os, q.tape, q.output, q.size, fun k hk h => q.block k hk fun hm => h (by simp only [List.mem_singleton] at hm; rw [hm])⟩ (.inr hne)
set_option maxHeartbeats 2000000 in
theorem few10_c {w : World} {ok : Nat → Prop} {A : Option Addr} {n c : Nat} {l : List OpV} (h : Sl w ok (.slice A n c) l) :
    Calls Tryd.prog 16 #[.agg #[.slice A n c]] w (RetE w (fewV l)) := by
  have hn := h.len
  refine few10_sx _ (fun b => some b = none) w A n c ?_
  intro g3 hg3 g4 hg4 g5 hg5
  refine ⟨fun i A n c w' => ∃ k : Nat, i = (k : Int) ∧ k ≤ l.length ∧ k ≤ 10 ∧ (g4 = g5 ∨ ∃ C, w'.heap[g4]? = some (.cells C 25 (0, 0))) ∧ Rw none w w.heap.size 39 w' (.slice A n c) ((l.take k).map cutT) [g5, g4, g3], fun i _ _ _ _ => (10 - i).toNat, ?_, ?_⟩
  · intro w1 f1 b1 lo5 t5 lo4 t4 lo3 t3
    exact ⟨0, rfl, Nat.zero_le _, by omega, .inr ⟨_, t4⟩, Rw.nil (fr_none f1) (by
      intro k hk
      simp only [List.mem_cons, List.not_mem_nil, or_false] at hk
      rcases hk with rfl | rfl | rfl
      · exact heap_lt t5
      · exact heap_lt t4
      · exact heap_lt t3)⟩
  rintro _ A7 n8 n9 w2 f2 ⟨k, rfl, hk, hk10, t4', r⟩ t5
  obtain ⟨C4, t4⟩ : ∃ C, w2.heap[g4]? = some (.cells C 25 (0, 0)) := by
    rcases t4' with rfl | h
    · exact ⟨_, t5⟩
    · exact h
  have fin : ∀ w3, Fr (fun b => some b = none) w w3 → Fr (fun b => b ∈ [g4]) w2 w3 → fewV l = (l.take k).map cutT → RetE w (fewV l) (.returned (.agg #[.slice A7 n8 n9])) w3 := by
    intro w3 f3 q3 he
    rw [he]
    exact ⟨A7, n8, n9, rfl, past_own r.own q3 (own_ne' r.own t4 (by decide)), fr_below (fr_none f3)⟩
  refine ⟨fun hlt => ⟨fun h10 => ?_, fun h10 w3 f3 q3 => fin w3 f3 q3 (by unfold fewV; rw [show k = 10 by omega])⟩, fun hge w3 f3 q3 => fin w3 f3 q3 (by unfold fewV; rw [List.take_of_length_le (by omega), List.take_of_length_le (by omega)])⟩
  have hlt' : k < l.length := by omega
  have h2 := h.below (fr_below (fr_none f2))
  have hwf := Sl.wf h2 _ (List.getElem_mem hlt')
  obtain ⟨b, o, hA, _, _, _, hc⟩ := Sl.op h2 k hlt'
  have hml : ((l.take k).map cutT).length = k := by rw [List.length_map, List.length_take]; omega
  have hnext : (l.take (k + 1)).map cutT = (l.take k).map cutT ++ [cutT l[k]] := by rw [List.take_add_one, List.getElem?_eq_getElem hlt', List.map_append]; rfl
  refine ⟨by omega, hlt, b, o, hA, _, _, _, _, _, _, _, _, _, _, _, _, _, _, _, _, _, _, _, _, hc, ?_⟩
  intro g32 hg32
  refine ⟨fun hbig w3 f3 b3 lo32 t32 => ?_, fun hsm g33 hg33 w3 f3 b3 lo33 t33 lo32 t32 => ?_⟩
  · refine ⟨_, run_cut_s l[k].tx 100 (by omega), ?_⟩
    intro g34 hg34 w4 f4 q4 lo34 t34
    have r3 := r.on b3 [g32] (by simp only [List.mem_singleton]; rintro _ rfl; exact ⟨lo32, heap_lt t32⟩)
    have r3' := Rw.past r3 q4 hg32 (fun hh => by have := (Own.lt r.own g32 hh).2; omega)
    have r4 : Rw none w w.heap.size 39 w4 (.slice A7 n8 n9) ((l.take k).map cutT) [g34, g32, g5, g4, g3] := ⟨r3'.own, r3'.fr, fun j hj => ⟨(r3'.blk j hj).1, fun hm => by
      rcases List.mem_cons.1 hm with rfl | hm
      · have := tail_lt r3.own hj; omega
      · exact (r3'.blk j hj).2 hm⟩, fun g hg => by
      rcases List.mem_cons.1 hg with rfl | hg
      · exact heap_lt t34
      · exact r3'.names g hg, r3'.le⟩
    have ec : cutT l[k] = { l[k] with tx := l[k].tx.extract 0 100 } := by unfold cutT; rw [if_pos (by omega)]
    obtain ⟨w5, A5, n5, c5, hr5, m5, r5⟩ := r4.append 23 23 _ 168 Tryd.underlying23 infoOp rfl (arg_cells [cutT l[k]] 1 rfl (by rw [ec]; exact t34) (by decide) (by simp only [List.mem_singleton]; rintro _ rfl; exact cut_wf hwf)) (by rw [hml]; simp; omega) (by rw [hml]; simp; omega)
    have e5 := (m5.2.2 g5 (by simp) (r4.names g5 (by simp))).trans ((q4.block g5 (r3.names g5 (by simp)) (by simp; have := heap_lt t5; omega)).trans ((b3.block g5 (heap_lt t5)).trans t5))
    have e4 := (m5.2.2 g4 (by simp) (r4.names g4 (by simp))).trans ((q4.block g4 (r3.names g4 (by simp)) (by simp; have := heap_lt t4; omega)).trans ((b3.block g4 (heap_lt t4)).trans t4))
    -- the round's end
    refine ⟨w5, A5, n5, c5, hr5, m5, fun w6 f6 q6 => ⟨⟨k + 1, by rw [wrap_in (by omega)]; rfl, hlt', by omega, ?_, ?_⟩, by dsimp only; rw [wrap_in (by omega)]; omega⟩⟩
    · by_cases h45 : g4 = g5
      · exact .inl h45
      · exact .inr ⟨C4, (q6.block g4 (heap_lt e4) (by simpa using h45)).trans e4⟩
    · rw [hnext]
      exact (Rw.past r5 q6 hg5 (own_ne' r5.own e5 (by decide))).less' (by intro g hg; simp at hg ⊢; omega)
  · have r3 := (r.on b3 [g32] (by simp only [List.mem_singleton]; rintro _ rfl; exact ⟨lo32, heap_lt t32⟩))
    have r4 : Rw none w w.heap.size 39 w3 (.slice A7 n8 n9) ((l.take k).map cutT) [g33, g32, g5, g4, g3] := ⟨r3.own, r3.fr, fun j hj => ⟨(r3.blk j hj).1, fun hm => by
      rcases List.mem_cons.1 hm with rfl | hm
      · have := tail_lt r.own hj; omega
      · exact (r3.blk j hj).2 hm⟩, fun g hg => by
      rcases List.mem_cons.1 hg with rfl | hg
      · exact heap_lt t33
      · exact r3.names g hg, r3.le⟩
    have ec : cutT l[k] = l[k] := by unfold cutT; rw [if_neg (by omega)]
    obtain ⟨w5, A5, n5, c5, hr5, m5, r5⟩ := r4.append 23 23 _ 168 Tryd.underlying23 infoOp rfl (arg_cells [cutT l[k]] 1 rfl (by rw [ec]; exact t33) (by decide) (by simp only [List.mem_singleton]; rintro _ rfl; exact cut_wf hwf)) (by rw [hml]; simp; omega) (by rw [hml]; simp; omega)
    have e5 := (m5.2.2 g5 (by simp) (r4.names g5 (by simp))).trans ((b3.block g5 (heap_lt t5)).trans t5)
    have e4 := (m5.2.2 g4 (by simp) (r4.names g4 (by simp))).trans ((b3.block g4 (heap_lt t4)).trans t4)
    -- the round's end
    refine ⟨w5, A5, n5, c5, hr5, m5, fun w6 f6 q6 => ⟨⟨k + 1, by rw [wrap_in (by omega)]; rfl, hlt', by omega, ?_, ?_⟩, by dsimp only; rw [wrap_in (by omega)]; omega⟩⟩
    · by_cases h45 : g4 = g5
      · exact .inl h45
      · exact .inr ⟨C4, (q6.block g4 (heap_lt e4) (by simpa using h45)).trans e4⟩
    · rw [hnext]
      exact (Rw.past r5 q6 hg5 (own_ne' r5.own e5 (by decide))).less' (by intro g hg; simp at hg ⊢; omega)
end Go.Proofs.YtfjenamomipmdaaDoor
