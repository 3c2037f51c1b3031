/- Opcode: Put. -/
import Derived.Test.YtfjenamomipmdaaDoorOcY
set_option linter.unusedSimpArgs false
set_option linter.unusedVariables false
namespace Go.Proofs.YtfjenamomipmdaaDoor
open Go Go.RowKit Go.Proofs Go.Trc Go.Sx
theorem cells_one {w : World} {b o : Nat} {v : Value} (h : w.cell? ⟨b, o, none⟩ = some v) : CellsAt w b o [v] := by
  intro j u hu
  cases j with
  | zero => simp only [nth] at hu; injection hu with hu; subst hu; exact h
  | succ j => cases j <;> simp [nth] at hu
theorem cells_row {w : World} {g o : Nat} {C : Array Value} {t : TypeId} {fr : Nat × Nat} {v : Value} (h : w.heap[g]? = some (.cells C t fr)) (hv : C[o]? = some v) : CellsAt w g o [v] := cells_one ((cell_of_row w g o C t fr h).trans hv)
theorem write0_c {b c : Nat} {A : Option Addr} {w : World} (h : w.heap[b]? = some (.cells #[.slice none 0 0, .int .i64 0, .int .i8 0] 73 (0, 0))) :
    Calls Tryd.prog 35 #[.pointer (some ⟨b, 0, none⟩), .slice A 0 c] w fun e w' => e = .returned (.tuple #[.int .i64 0, .nilIface]) ∧ Wrote b [] w w' := by
  obtain ⟨w1, hr1, h1, g1⟩ := store_row (P := Tryd.prog) (w := w) 69 (by kernel_rfl) (v := .int .i8 0) (o := 2) h (by simp) rfl rfl
  have h1' : w1.heap[b]? = some (.cells #[.slice none 0 0, .int .i64 0, .int .i8 0] 73 (0, 0)) := h1
  refine bufWrite_sx _ (fun k => k = b) w _ A 0 c ⟨b, 0, rfl, w1, hr1, ⟨⟨g1.os, g1.tape, g1.output, g1.size, fun k hk hn => g1.block k hk fun hh => hn (by injection hh)⟩, mild_nil g1.size⟩, ?_⟩
  have f1 : Fr (fun k => k = b) w w1 := ⟨g1.os, g1.tape, g1.output, g1.size, fun k hk hn => g1.block k hk fun hh => hn (by injection hh)⟩
  refine (Tryd.Buffer_tryGrow_room_at b 0 none 0 0 0 w1 (by rw [Lib.cell_of_heap h1']; rfl) (Lib.frozen_of_heap h1' 0) (Nat.le_refl _) (Nat.zero_le _) (Nat.zero_le _)).mono ?_
  rintro e w2 ⟨rfl, rfl⟩
  have g2 := Lib.grownBy_setCell w1 b 0 (.slice none (0 + 0) 0)
  have h2 : (w1.setCell ⟨b, 0, none⟩ (.slice none (0 + 0) 0)).heap[b]? = some (.cells #[.slice none 0 0, .int .i64 0, .int .i8 0] 73 (0, 0)) := Lib.heap_setCell_same (i := 0) h1' _
  generalize w1.setCell ⟨b, 0, none⟩ (.slice none (0 + 0) 0) = w2 at g2 h2 ⊢
  have f2 : Fr (fun k => k = b) w w2 := ⟨g2.os.trans f1.os, g2.tape.trans f1.tape, g2.output.trans f1.output, Nat.le_trans f1.size g2.size, fun k hk hn => (g2.block k (Nat.lt_of_lt_of_le hk f1.size) fun hh => hn (by injection hh)).trans (f1.block k hk hn)⟩
  refine ⟨_, _, rfl, ⟨f2, mild_nil g2.size⟩, (fun hf => by cases hf), fun _ => ⟨b, 0, rfl, none, 0, 0, cells_row h2 rfl, none, 0, 0, by kernel_rfl, ?_⟩⟩
  obtain ⟨i, hi, hz, hsz, hby⟩ := infoB2
  have hc := run_copy_none (P := Tryd.prog) w2 22 22 3 5 none A 0 0 0 c Tryd.underlying22 (by rw [hi]; simp [hsz]) (by simp)
  refine ⟨w2, _, hc, ⟨f2, mild_nil (Nat.le_refl _)⟩, rfl, Wr.new h2, ?_, ?_⟩
  · exact ⟨f2.os, f2.tape, f2.output, f2.size, fun k hk => f2.block k (by have := heap_lt h; omega) (by omega)⟩
  · intro k o hk hkb _
    rw [f2.block k (heap_lt hk) fun hh => hkb (by rw [hh])]
    exact hk
theorem Wrote.fr0 {b : Nat} {xs : List UInt8} {w0 w w' : World} (h : Wrote b xs w w') (f : Fr (fun _ => False) w0 w) (hb : w0.heap.size ≤ b) : Fr (fun _ => False) w0 w' :=
  ⟨h.low.os.trans f.os, h.low.tape.trans f.tape, h.low.output.trans f.output, Nat.le_trans f.size h.low.size, fun k hk hn => (h.low.block k (by omega)).trans (f.block k hk hn)⟩
theorem bytes_c {b : Nat} {xs : List UInt8} {w : World} (h : Wr b xs w) : Calls Tryd.prog 38 #[.pointer (some ⟨b, 0, none⟩)] w fun e w' => ∃ A n c, e = .returned (.slice A n c) ∧ OwnF w' b 5 (.slice A n c) xs ∧ Below w.heap.size w w' := by
  obtain ⟨A, n, c, i, j, hg, rfl, ho⟩ := h.cells
  refine bufBytes_sx _ (fun _ => False) w _ ⟨b, 0, rfl, fun w1 f1 b1 => ?_⟩
  have hg1 := (b1.block b h.lt).trans hg
  obtain ⟨i, hi, hz, hsz, hby⟩ := infoB2
  refine ⟨A, n, c, cells_row hg1 rfl, ⟨h.lt, by simp⟩, b, 0, rfl, 0, cells_row hg1 rfl, ⟨h.lt, by simp⟩, A, n, c, fun w' _ => ?_, A, n, c, rfl, ho.below b1, b1⟩
  have hn : n ≤ c := (ho.sl.len_eq).2.1
  have h1 : (0 : Int) ≤ n := by omega
  obtain ⟨A', c', he, hA⟩ := Own.slice ho
  simp only [Value.slice.injEq] at he
  obtain ⟨e1, e2, e3⟩ := he
  rw [← e1] at hA
  have key : ∀ i : TypeInfo, Tryd.prog.info? 5 = some i → (Instr.sliceAt 22 (.slice A n c) (some (.int .i64 0)) none none).run Tryd.prog w' = .ok (.slice (if c = 0 then A else A.map (·.add (0 * i.size))) (n - 0) (c - 0)) w' := by
    intro i hi
    simp [Instr.sliceAt, run_underlying Tryd.underlying22, Instr.slice, Instr.sliceBounds, Instr.sliceBound, asIntOf, h1, hn, Go.Sx.run_sizeOf hi]
  rw [key i hi, Nat.zero_mul]
  cases A with
  | none => simp
  | some a =>
    obtain ⟨g, rfl, _⟩ := hA a rfl
    by_cases hc : c = 0 <;> simp [hc, add_plain]
set_option maxHeartbeats 2000000 in
theorem opcodePut_c {w : World} {ok ok' : Nat → Prop} {A A3 : Option Addr} {n c n4 c5 : Nat} {xs : List UInt8} {l : List OpV} (h : Sl w ok (.slice A n c) xs) (hl : n ≤ 50000) (hops : Sl w ok' (.slice A3 n4 c5) l) :
    Calls Tryd.prog 15 #[.slice A n c, .agg #[.slice A3 n4 c5]] w (RetB w (putV xs l)) := by
  have hn := h.len
  have hn4 := hops.len
  refine opcodePut_sx _ (fun _ => False) w A n c A3 n4 c5 ?_
  intro g6 hg6 w1 f1 b1 lo6 t6
  refine (mayEdit_c w1 ok' A3 n4 c5 l (hops.below b1)).mono ?_
  rintro e w2 ⟨rfl, b2⟩
  have f2 := f1.step b2
  refine ⟨_, rfl, ok_ret b2 f1, fun hne => ?_, fun he => ?_⟩
  · have : putV xs l = ([], mayEditV l) := by unfold putV; rw [if_neg hne]
    rw [this]
    exact ⟨none, 0, 0, rfl, OwnF.nil _ _ _, fr_below f2⟩
  have hpv : putV xs l = (xs ++ editB l, 0) := by unfold putV; rw [if_pos he]
  obtain ⟨hlen, hgood⟩ := may_good he
  intro g8 hg8 w3 f3 b3 lo8 t8
  have h3 : Sl w3 (fun k => k ≠ g8) (.slice A n c) xs := ((h.bound).below (fr_below f3)).weaken fun k hk _ => by have := hk.2; omega
  have n6 : Nbs g8 w3 [g6] := (Nbs.nil _ _).cons ⟨by have := heap_lt t6; have := b2.size; omega, _, _, _, (b3.block g6 (Nat.lt_of_lt_of_le (heap_lt t6) b2.size)).trans ((b2.block g6 (heap_lt t6)).trans t6), by decide⟩
  have W0 : Calls Tryd.prog 35 #[.pointer (some ⟨g8, 0, none⟩), .slice A n c] w3 fun e w' => e = .returned (.tuple #[.int .i64 (n : Int), .nilIface]) ∧ Wrote g8 xs w3 w' := by
    by_cases h0 : n = 0
    · subst h0
      obtain rfl : xs = [] := List.eq_nil_of_length_eq_zero hn.symm
      exact write0_c t8
    · have := write_c (Wr.new t8) (by simp) h3 (by omega) (by omega)
      simpa using this
  refine W0.mono ?_
  rintro e w4 ⟨rfl, r4⟩
  obtain ⟨A4, n4', c4', i4, j4, hc4, -, -⟩ := r4.wr.cells
  have f4 := r4.fr0 f3 hg8
  refine ⟨_, _, A4, n4', c4', i4, j4, rfl, ⟨f4, r4.mild n6⟩, hc4, fun _ => ?_⟩
  rw [hn4, u8_wrap]
  refine (writeByte_c r4.wr (u8 l.length) (by omega)).mono ?_
  rintro e w5 ⟨rfl, r5⟩
  obtain ⟨A5, n5, c5', i5, j5, hc5, -, -⟩ := r5.wr.cells
  have n65 := (n6.wrote r4).wrote r5
  refine ⟨_, A5, n5, c5', i5, j5, rfl, ⟨r5.fr0 f4 hg8, r5.mild (n6.wrote r4)⟩, hc5, fun i _ _ _ _ _ w' => ∃ k : Nat, i = (k : Int) ∧ k ≤ l.length ∧ Wr g8 (xs ++ [u8 l.length] ++ (l.take k).flatMap opB) w' ∧ Nbs g8 w' [g6], fun i _ _ _ _ _ _ => (l.length - i : Int).toNat, ⟨0, rfl, Nat.zero_le _, by simpa using r5.wr, n65⟩, ?_⟩
  rintro _ A23 n24 n25 i26 i27 w6 f6 ⟨k, rfl, hk, r, n66⟩ t6'
  refine ⟨fun hlt => ?_, fun hge => ?_⟩
  · have hlt' : k < l.length := by omega
    obtain ⟨b, o, hA, _, _, _, hc⟩ := Sl.op (hops.below (fr_below f6)) k hlt'
    have hg := hgood _ (List.getElem_mem hlt')
    have hfl := flat_op_len (l := l.take k) fun x hx => hgood x (List.mem_of_mem_take hx)
    have htl : (l.take k).length ≤ 6 := by rw [List.length_take]; omega
    refine ⟨by omega, hlt, b, o, hA, _, _, _, _, _, _, _, _, _, _, _, _, _, _, _, _, _, _, _, _, hc, ?_⟩
    intro g50 hg50 w7 f7 b7 lo50 t50 t8'
    have n7 := (n66.below b7).cons (g := g50) ⟨by have := r.lt; omega, _, _, _, t50, by decide⟩
    refine (wop_c (r.below b7) (by simp only [List.length_append, List.length_cons, List.length_nil]; omega) _ hg).mono ?_
    rintro e w8 ⟨rfl, r8⟩
    obtain ⟨A8, n8, c8, i8, j8, hc8, -, -⟩ := r8.wr.cells
    refine ⟨A8, n8, c8, i8, j8, rfl, ⟨r8.fr0 f7 hg8, r8.mild n7⟩, hc8, ⟨k + 1, by rw [wrap_in (by omega)]; rfl, hlt', ?_, fun g hg => (n7.wrote r8) g (by simp at hg ⊢; omega)⟩, by dsimp only; rw [wrap_in (by omega)]; omega⟩
    rw [take_op l k hlt', ← List.append_assoc]
    exact r8.wr
  · intro t8'
    refine (bytes_c r).mono ?_
    rintro e w7 ⟨A7, n7, c7, rfl, o7, b7⟩
    have f7 := f6.step b7
    refine ⟨A7, n7, c7, rfl, ok_ret b7 f6, ?_⟩
    rw [hpv]
    refine ⟨A7, n7, c7, rfl, ?_, fr_below f7⟩
    rw [List.take_of_length_le (by omega)] at o7
    have e : xs ++ editB l = xs ++ [u8 l.length] ++ l.flatMap opB := by simp [editB]
    show OwnF w7 w.heap.size 5 (.slice A7 n7 c7) (xs ++ editB l)
    rw [e]
    exact o7.base' fun k hk => Nat.le_trans hg8 (Own.base o7 k hk)
end Go.Proofs.YtfjenamomipmdaaDoor
