/- Opcode: contracts of what lays names, texts and numbers down. -/
import Derived.Test.YtfjenamomipmdaaDoorOpN
import Derived.Test.YtfjenamomipmdaaDoorPkX
import Derived.Laws.MakeOwn
import Derived.Laws.CopyRow
import Derived.Laws.IdiomCopy
import Derived.Laws.IdiomStrings
import Derived.Lib.AppendStr
import Derived.Laws.Shifts
set_option linter.unusedSimpArgs false
set_option linter.unusedVariables false
namespace Go.Proofs.YtfjenamomipmdaaDoor
open Go Go.RowKit Go.Proofs Go.Trc Go.Sx
def u8 (y : Int) : UInt8 := UInt8.ofNat (y % 256).toNat
theorem u8_wrap (y : Int) : IntKind.u8.wrap y = ((u8 y).toNat : Int) := by
  have h0 := Int.emod_nonneg y (by decide : (256 : Int) ≠ 0)
  have h1 := Int.emod_lt_of_pos y (by decide : (0 : Int) < 256)
  have e1 : IntKind.u8.wrap y = y % 256 := by simp [IntKind.wrap, IntKind.bits, IntKind.signed]
  have e2 : (u8 y).toNat = (y % 256).toNat := by
    unfold u8
    rw [UInt8.toNat_ofNat']
    omega
  rw [e1, e2]; omega
theorem u8_mod (x : Int) : u8 x = u8 (x % 256) := by unfold u8; rw [Int.emod_emod_of_dvd _ (Int.dvd_refl _)]
/-- The four bytes of a name. -/
def idB (s n : Int) : List UInt8 := [u8 s, u8 (n / 65536), u8 (n / 256), u8 n]
abbrev TB : TypeId := 5
theorem infoB1 : (Tryd.prog.info? 5).map (fun i => (i.zero, i.size, i.bytes)) = some (some (.int .u8 0), 1, 1) := by kernel_rfl
theorem nonneg_fdiv {n m : Int} (h : 0 ≤ n) (hm : 0 ≤ m) : n.fdiv m = n / m := by rw [Int.fdiv_eq_ediv_of_nonneg _ hm]
theorem idB_cells (s n : Int) (hn : 0 ≤ n ∧ n ≤ 9223372036854775807) : (idB s n).flatMap Fixed.cells = [.int .u8 (IntKind.u8.wrap s), .int .u8 (IntKind.u8.wrap (Int.fdiv n (2 ^ 16))), .int .u8 (IntKind.u8.wrap (Int.fdiv n (2 ^ 8))), .int .u8 (IntKind.u8.wrap n)] := by
  rw [nonneg_fdiv hn.1 (by decide), nonneg_fdiv hn.1 (by decide), u8_wrap, u8_wrap, u8_wrap, u8_wrap]
  rfl
theorem idB_cells' (s n : Int) (hn : 0 ≤ n ∧ n ≤ 9223372036854775807) : (idB s n).flatMap Fixed.cells = [.int .u8 (IntKind.u8.wrap s), .int .u8 (IntKind.u8.wrap (IntKind.i64.wrap (Int.tdiv n (65536 : Int)))), .int .u8 (IntKind.u8.wrap (Int.tmod (IntKind.i64.wrap (Int.tdiv n (256 : Int))) (256 : Int))), .int .u8 (IntKind.u8.wrap (Int.tmod n (256 : Int)))] := by
  have d1 : Int.tdiv n 65536 = n / 65536 := Int.tdiv_eq_ediv_of_nonneg hn.1
  have d2 : Int.tdiv n 256 = n / 256 := Int.tdiv_eq_ediv_of_nonneg hn.1
  rw [d1, d2, wrap_in (x := n / 65536) (by omega), wrap_in (x := n / 256) (by omega)]
  have m1 : Int.tmod (n / 256) 256 = n / 256 % 256 := Int.tmod_eq_emod_of_nonneg (by omega)
  have m2 : Int.tmod n 256 = n % 256 := Int.tmod_eq_emod_of_nonneg hn.1
  rw [m1, m2, u8_wrap, u8_wrap, u8_wrap, u8_wrap, ← u8_mod, ← u8_mod]
  rfl
/-- Bytes laid at once, as an append reads them. -/
theorem arg_b {w : World} {g : Nat} (xs : List UInt8) (n : Nat) (hn : n = xs.length) (cs : List Value) (hcs : xs.flatMap Fixed.cells = cs) (hg : w.heap[g]? = some (.cells cs.toArray 5 (0, 0))) (hm : n ≤ 100000) : Arg w (fun _ => True) (.slice (some ⟨g, 0, none⟩) n n) xs := by
  subst hcs
  exact arg_cells xs n hn hg (by unfold maxLen; omega) (fun _ _ => trivial)
set_option maxHeartbeats 1000000 in
theorem ref01Put_c {w : World} {ok : Nat → Prop} {A : Option Addr} {n c : Nat} {xs : List UInt8} (h : Sl w ok (.slice A n c) xs) (hl : n ≤ 100000) (s m : Int) (hm : 0 ≤ m ∧ m ≤ 9223372036854775807) :
    Calls Tryd.prog 40 #[.slice A n c, .agg #[.int .i64 s, .int .i64 m]] w (RetRow w 5 (xs ++ idB s m)) := by
  have hn := h.len
  refine ref01Put_sx _ (fun b => some b = none) w A n c s m ?_
  intro g5 hg5 g6 hg6 w1 f1 b1 lo6 t6 lo5 t5
  have r1 : Rw none w w.heap.size 5 w1 (.slice (some ⟨g6, 0, none⟩) 0 0) ([] : List UInt8) [g6, g5] := Rw.first (fr_none f1) hg6 t6 (by simp; exact ⟨heap_lt t6, heap_lt t5⟩)
  obtain ⟨w2, A2, n2, c2, hr2, m2, r2⟩ := r1.append 22 22 (.int .u8 0) 1 Tryd.underlying22 infoB1 rfl (h.below b1).arg (by simp; omega) (by simp; omega)
  refine ⟨w2, A2, n2, c2, hr2, m2, by decide, by decide, by decide, by decide, ?_⟩
  intro g10 hg10 w3 f3 b3 lo10 t10
  have r3 := r2.on b3 [g10] (by simp only [List.mem_singleton]; rintro _ rfl; exact ⟨lo10, heap_lt t10⟩)
  have l4 : (idB s m).length = 4 := rfl
  obtain ⟨w4, A4, n4, c4, hr4, m4, r4⟩ := r3.append 22 22 (.int .u8 0) 1 Tryd.underlying22 infoB1 rfl (arg_b (idB s m) 4 rfl _ (idB_cells' s m hm) t10 (by omega)) (by simp; omega) (by simp; omega)
  exact ⟨w4, A4, n4, c4, hr4, m4, r4.ret rfl⟩
end Go.Proofs.YtfjenamomipmdaaDoor


/- Opcode: contracts of what lays names, texts and numbers down: the others. -/
set_option linter.unusedSimpArgs false
set_option linter.unusedVariables false
namespace Go.Proofs.YtfjenamomipmdaaDoor
open Go Go.RowKit Go.Proofs Go.Trc Go.Sx
open Go.Lib (strCells strCells_length run_append_own_string)
def flagB (b : Bool) : UInt8 := if b then 1 else 0
def cornB (a1 a2 a3 a4 a5 : Int) : List UInt8 := idB a1 a2 ++ (if a3 = 0 ∧ a4 = 0 ∧ a5 = 0 then [0] else u8 (a5 + 1) :: idB a3 a4)
def textB (s : ByteArray) : List UInt8 := u8 s.size :: s.data.toList
def numB (n : Int) : List UInt8 := [u8 (n / 2 ^ 56), u8 (n / 2 ^ 48), u8 (n / 2 ^ 40), u8 (n / 2 ^ 32), u8 (n / 2 ^ 24), u8 (n / 2 ^ 16), u8 (n / 2 ^ 8), u8 n]
theorem numB_len (n : Int) : (numB n).length = 8 := rfl
theorem u64_wrap (n : Int) : IntKind.u64.wrap n = n % 18446744073709551616 := by simp [IntKind.wrap, IntKind.bits, IntKind.signed]
theorem u8_cong {x y : Int} (h : x % 256 = y % 256) : u8 x = u8 y := by unfold u8; rw [h]
theorem num_byte (n : Int) (i : Nat) (hi : i < 8) : u8 (IntKind.u64.wrap n / 2 ^ (8 * (7 - i))) = (numB n)[i]'hi := by
  rw [u64_wrap]
  match i, hi with
  | 0, _ => exact u8_cong (by omega)
  | 1, _ => exact u8_cong (by omega)
  | 2, _ => exact u8_cong (by omega)
  | 3, _ => exact u8_cong (by omega)
  | 4, _ => exact u8_cong (by omega)
  | 5, _ => exact u8_cong (by omega)
  | 6, _ => exact u8_cong (by omega)
  | 7, _ => exact u8_cong (by omega)
theorem run_shr {w : World} {t : TypeId} (x k : Int) (j : Nat) (hk : k = j) (hj : j ≤ 64) : (binOp .shr t (.int .u64 x) (.int .i64 k)).run Tryd.prog w = .ok (.int .u64 (x / 2 ^ j)) w := by
  subst hk
  rw [binOp_shr, shift_shr_u64 .i64 x (j : Int) (by omega) (by omega)]
  rfl
/-- A row that a call laid. -/
theorem Rw.fresh {α : Type} [Rep α] {w0 w w' : World} {e : TypeId} {v : Value} {ys : List α} {G : List Nat} (f : Fr (fun b => some b = none) w0 w) (hG : ∀ g ∈ G, g < w.heap.size) (o : OwnF w' w.heap.size e v ys) (b : Below w.heap.size w w') :
    Rw none w0 w0.heap.size e w' v ys G := by
  refine ⟨o.base' (fun k hk => Nat.le_trans f.size (Own.base o k hk)), f.step b, fun k hk => ?_, fun g hg => Nat.lt_of_lt_of_le (hG g hg) b.size, Nat.le_refl _⟩
  rcases tail_own v with h0 | h0
  · rw [h0] at hk; cases hk
  · rw [h0] at hk
    have := Own.base o k hk
    exact ⟨.inr (Nat.le_trans f.size this), fun hm => by have := hG k hm; omega⟩
theorem tail_keep {w w' : World} {v : Value} {N : Nat} (g : w.grownBy w' (tail v)) (hN : N ≤ w.heap.size) : Keep N ((tail v).toList ++ []) w w' := fun k hk hn => g.block k (Nat.lt_of_lt_of_le hk hN) fun h => hn (by rw [← h]; simp)
theorem Rw.tails {α : Type} [Rep α] {S0 : Option Nat} {w0 w : World} {base : Nat} {e : TypeId} {v : Value} {xs : List α} {G : List Nat} (r : Rw S0 w0 base e w v xs G) : ∀ b ∈ (tail v).toList, b < w.heap.size ∧ b ∉ G := by
  intro b hb
  have hb : tail v = some b := by simpa using hb
  exact ⟨tail_lt r.own hb, (r.blk b hb).2⟩
theorem identPut_c (w : World) (s m : Int) (hm : 0 ≤ m ∧ m ≤ 9223372036854775807) :
    Calls Tryd.prog 91 #[.slice none 0 0, .agg #[.int .i64 s, .int .i64 m]] w (RetRow w 5 (idB s m)) := by
  refine identPut_sx _ (fun b => some b = none) w none 0 0 s m ?_
  intro g5 hg5 w1 f1 b1 lo5 t5 w2 f2 b2
  refine ⟨none, 0, 0, fun w' _ => by kernel_rfl, ?_⟩
  intro g10 hg10 w3 f3 b3 lo10 t10
  have r0 : Rw none w w.heap.size 5 w3 (.slice none 0 0) ([] : List UInt8) [g10, g5] := Rw.nil (fr_none f3) (by
    intro k hk
    simp only [List.mem_cons, List.mem_nil_iff, or_false] at hk
    have := heap_lt t5; have := b2.size; have := b3.size
    rcases hk with rfl | rfl
    · exact heap_lt t10
    · omega)
  obtain ⟨w4, A4, n4, c4, hr4, m4, r4⟩ := r0.append 22 22 (.int .u8 0) 1 Tryd.underlying22 infoB1 rfl (arg_b (idB s m) 4 rfl _ (idB_cells s m hm) t10 (by omega)) (by simp [idB]) (by simp [idB])
  exact ⟨w4, A4, n4, c4, hr4, m4, r4.ret (by simp)⟩
theorem ref10flag_c (w : World) (b : Bool) : Calls Tryd.prog 43 #[.bool b] w (Ret (.int .u8 ((flagB b).toNat : Int)) w) :=
  ref10flag_sx _ (fun _ => False) w b ⟨fun h => ret_leaf (Fr.refl _ _) (by rw [h]; rfl), fun h => ret_leaf (Fr.refl _ _) (by rw [h]; rfl)⟩
set_option maxHeartbeats 1000000 in
theorem ref10corner_c {w : World} {ok : Nat → Prop} {A : Option Addr} {n c : Nat} {xs : List UInt8} (h : Sl w ok (.slice A n c) xs) (hl : n ≤ 90000) (a1 a2 a3 a4 a5 : Int) (h2 : 0 ≤ a2 ∧ a2 ≤ 9223372036854775807) (h4 : 0 ≤ a4 ∧ a4 ≤ 9223372036854775807) (h5 : 0 ≤ a5 ∧ a5 ≤ 1) :
    Calls Tryd.prog 41 #[.slice A n c, .agg #[.int .i64 a1, .int .i64 a2, .int .i64 a3, .int .i64 a4, .int .i64 a5]] w (RetRow w 5 (xs ++ cornB a1 a2 a3 a4 a5)) := by
  have hn := h.len
  refine ref10corner_sx _ (fun b => some b = none) w A n c a1 a2 a3 a4 a5 ?_
  intro g8 hg8 w1 f1 b1 lo8 t8
  refine (ref01Put_c (h.below b1) (by omega) a1 a2 h2).mono ?_
  rintro e w2 ⟨A9, n10, c11, rfl, o2, b2⟩
  have l2 : (xs ++ idB a1 a2).length = n + 4 := by rw [List.length_append, hn]; rfl
  have r2 : Rw none w w.heap.size 5 w2 (.slice A9 n10 c11) (xs ++ idB a1 a2) [g8] := Rw.fresh f1 (by intro k hk; simp only [List.mem_singleton] at hk; subst hk; exact heap_lt t8) o2 b2
  refine ⟨A9, n10, c11, rfl, ok_ret b2 f1, _, eql_dart .., fun hb => ?_, fun hb => ?_⟩
  · intro g13 hg13 w3 f3 b3 lo3 t3
    have r3 := r2.on b3 [g13] (by simp only [List.mem_singleton]; rintro _ rfl; exact ⟨lo3, heap_lt t3⟩)
    obtain ⟨w4, A4, n4, c4, hr4, m4, r4⟩ := r3.append 22 22 (.int .u8 0) 1 Tryd.underlying22 infoB1 rfl (arg_b [0] 1 rfl _ rfl t3 (by omega)) (by rw [l2]; simp; omega) (by rw [l2]; simp; omega)
    exact ⟨w4, A4, n4, c4, hr4, m4, r4.ret (by unfold cornB; rw [if_pos (of_decide_eq_true hb), List.append_assoc])⟩
  · refine ⟨_, Rw.tails r2, ?_⟩
    intro g14 hg14 w3 f3 b3 lo3 t3
    have r3 := r2.on b3 [g14] (by simp only [List.mem_singleton]; rintro _ rfl; exact ⟨lo3, heap_lt t3⟩)
    have e1 : ([u8 (a5 + 1)] : List UInt8).flatMap Fixed.cells = [.int .u8 (IntKind.u8.wrap (IntKind.i64.wrap (a5 + 1)))] := by
      rw [wrap_in (by omega), u8_wrap]; rfl
    obtain ⟨w4, A4, n4, c4, hr4, m4, r4, g4, -⟩ := r3.append2 22 22 (.int .u8 0) 1 Tryd.underlying22 infoB1 rfl (arg_b [u8 (a5 + 1)] 1 rfl _ e1 t3 (by omega)) (by rw [l2]; simp; omega) (by rw [l2]; simp; omega)
    refine ⟨w4, A4, n4, c4, hr4, m4, tail_keep g4 b3.size, ?_⟩
    refine (ref01Put_c r4.sl (by have := r4.sl.len; rw [List.length_append, l2] at this; simp at this; omega) a3 a4 h4).mono ?_
    rintro e w5 ⟨A5, n5, c5, rfl, o5, b5⟩
    refine ⟨A5, n5, c5, rfl, ok_ret b5 r4.fr, ?_⟩
    exact (Rw.fresh (G := []) r4.fr (by simp) o5 b5).ret (by unfold cornB; rw [if_neg (of_decide_eq_false hb)]; simp)
theorem clip_c (w : World) : Calls Tryd.prog 92 #[.slice none 0 0] w fun e w' => e = .returned (.slice none 0 0) ∧ w' = w :=
  clip_sx _ (fun _ => False) w none 0 0 ⟨none, 0, 0, by kernel_rfl, rfl, rfl⟩
theorem str_cells (s : ByteArray) : strCells s = s.data.toList.flatMap Fixed.cells := by rw [flat_bytes]; rfl
theorem infoB2 : ∃ i, Tryd.prog.info? 5 = some i ∧ i.zero = some (.int .u8 0) ∧ i.size = 1 ∧ i.bytes = 1 := info_parts infoB1
/-- 'append(v, s...)', v one's own, s a string. -/
theorem own_append_s {w : World} {base : Nat} {v : Value} {xs : List UInt8} (h : OwnF w base 5 v xs) (s : ByteArray) (hb : base ≤ w.heap.size) (hl : xs.length + s.size ≤ 100000) :
    ∃ w' A n c, (Builtin.append_ #[22, 9] 22 #[v, .string s]).run Tryd.prog w = .ok (.slice A n c) w' ∧ OwnF w' base 5 (.slice A n c) (xs ++ s.data.toList) ∧ w.grownBy w' v.ownBlock := by
  obtain ⟨i, hi, hz, hsz, hby⟩ := infoB2
  obtain ⟨cs, h1, h2, h3⟩ := h
  have hcl : cs.length = xs.length := by rw [h1.1]; exact Nat.mul_one _
  obtain ⟨v', w', hr, o, g, -⟩ := run_append_own_string (P := Tryd.prog) w base 22 9 22 5 i Tryd.underlying22 Tryd.underlying9 hi hz hsz hby v xs.length cs h1 s (by unfold maxLen; omega) (by omega) hb
  have hss : (s.data.toList).length = s.size := by simp
  have o' : OwnF w' base 5 v' (xs ++ s.data.toList) := by
    refine ⟨cs ++ strCells s, ?_, ?_, ?_⟩
    · rw [List.length_append, hss]; exact o
    · intro u hu
      rcases List.mem_append.1 hu with hu | hu
      · exact h2 u hu
      · rw [str_cells] at hu; exact flat_one (fun _ _ => trivial) u hu
    · intro j hj
      show ((cs ++ strCells s).drop (j * 1)).take 1 = [.int .u8 ((xs ++ s.data.toList)[j].toNat : Int)]
      rw [Nat.mul_one]
      by_cases hj' : j < xs.length
      · have h0 : (cs.drop (j * 1)).take 1 = [.int .u8 (xs[j].toNat : Int)] := h3 j hj'
        rw [Nat.mul_one] at h0
        rw [List.drop_append_of_le_length (by omega), List.take_append_of_le_length (by simp; omega), h0, List.getElem_append_left hj']
      · have hjs : j - xs.length < s.data.toList.length := by rw [List.length_append] at hj; omega
        have h0 := flat_at s.data.toList (fun _ _ => trivial) (j - xs.length) hjs
        rw [← str_cells] at h0
        have h0 : ((strCells s).drop ((j - xs.length) * 1)).take 1 = [.int .u8 ((s.data.toList[j - xs.length]).toNat : Int)] := h0
        rw [Nat.mul_one] at h0
        rw [List.drop_append, List.drop_eq_nil_of_le (by omega), List.nil_append, hcl, h0, List.getElem_append_right (by omega)]
  obtain ⟨A, c, rfl, _⟩ := Own.slice o'
  exact ⟨w', A, _, c, hr, o', g⟩
set_option maxHeartbeats 1000000 in
theorem packText_c (w : World) (s : ByteArray) (hs : s.size ≤ 90000) : Calls Tryd.prog 68 #[.slice none 0 0, .string s] w (RetRow w 5 (textB s)) := by
  refine packText_sx _ (fun b => some b = none) w none 0 0 s ?_
  refine (clip_c w).mono ?_
  rintro e w1 ⟨rfl, rfl⟩
  refine ⟨none, 0, 0, rfl, ⟨Fr.refl _ _, mild_nil (Nat.le_refl _)⟩, ?_⟩
  intro g7 hg7 w2 f2 b2 lo7 t7
  have r2 : Rw none w1 w1.heap.size 5 w2 (.slice none 0 0) ([] : List UInt8) [g7] := Rw.nil (fr_none f2) (by intro k hk; simp only [List.mem_singleton] at hk; subst hk; exact heap_lt t7)
  obtain ⟨w3, A3, n3, c3, hr3, m3, r3, g3, ob, -⟩ := r2.append2 22 22 (.int .u8 0) 1 Tryd.underlying22 infoB1 rfl (arg_b [u8 s.size] 1 rfl _ (by rw [u8_wrap]; rfl) t7 (by omega)) (by simp) (by simp)
  refine ⟨w3, A3, n3, c3, hr3, m3, ?_⟩
  obtain ⟨w4, A4, n4, c4, hr4, o4, g4⟩ := own_append_s r3.own s (Nat.le_trans b2.size g3.size) (by simp; omega)
  have hk : ∀ k, (Value.slice A3 n3 c3).ownBlock = some k → k = w2.heap.size := fun k hk => by
    rcases ob k hk with h | h
    · cases h
    · exact h
  have f4 : Fr (fun b => some b = none) w1 w4 := ⟨g4.os.trans r3.fr.os, g4.tape.trans r3.fr.tape, g4.output.trans r3.fr.output, Nat.le_trans r3.fr.size g4.size, fun k hlt hn => (g4.block k (Nat.lt_of_lt_of_le hlt r3.fr.size) fun h => by have := hk k h.symm; have := b2.size; omega).trans (r3.fr.block k hlt hn)⟩
  refine ⟨w4, A4, n4, c4, hr4, ⟨f4, grown_mild g4 fun b hb h => by simp only [List.mem_singleton] at hb; subst hb; have := hk _ h.symm; have := heap_lt t7; omega⟩, A4, n4, c4, rfl, ?_, fr_below (fr_none f4)⟩
  have : ([] ++ [u8 s.size] ++ s.data.toList : List UInt8) = textB s := rfl
  rw [← this]
  exact o4
/-- '[]byte(s)' -/
theorem conv_bytes (w : World) (s : ByteArray) (hs : s.size ≤ 9223372036854775807) : ∃ w' A n c, (convert 9 22 (.string s)).run Tryd.prog w = .ok (.slice A n c) w' ∧ Sl w' (fun b => w.heap.size ≤ b) (.slice A n c) s.data.toList ∧ Below w.heap.size w w' := by
  have hr := run_bytes_of_string (P := Tryd.prog) w 9 22 5 s Tryd.underlying9 Tryd.underlying22 Tryd.underlying5
  have hss : (s.data.toList).length = s.size := by simp
  refine ⟨_, _, _, _, hr, ?_, ⟨rfl, rfl, rfl, by simp, fun k hk => Below.heap_alloc w.drew _ k hk⟩⟩
  have hc := grownCap_ge w s.size 0 5
  refine ⟨some ⟨w.heap.size, 0, none⟩, grownCap w s.size 0 5, by rw [hss], by rw [hss]; exact hc, grownCap_le_maxLen w s.size 0 5 hs, (fun h => by cases h), fun _ => ⟨_, _, rfl, Nat.le_refl _, ?_⟩⟩
  refine Cells.of_block (heap_alloc_new w.drew _) (s.data.toList.flatMap Fixed.cells) (fun j hj => ?_) fun j hj => by rw [flat_at _ (fun _ _ => trivial) j hj]; exact Fixed.K trivial
  rw [flat_bytes] at hj ⊢
  have hj' : j < s.data.size := by simpa using hj
  rw [bytesRow_at s _ j hj', List.getElem?_map, Array.getElem?_toList, Array.getElem?_eq_getElem hj']
  rfl
set_option maxHeartbeats 1000000 in
theorem ref08Text_c {w : World} {ok : Nat → Prop} {A : Option Addr} {n c : Nat} {xs : List UInt8} (h : Sl w ok (.slice A n c) xs) (hl : n ≤ 90000) (s : ByteArray) (hs : s.size ≤ 1000) :
    Calls Tryd.prog 42 #[.slice A n c, .string s] w (RetRow w 5 (xs ++ textB s)) := by
  have hn := h.len
  refine ref08Text_sx _ (fun b => some b = none) w A n c s ?_
  intro g4 hg4 w1 f1 b1 lo4 t4
  have r1 : Rw none w w.heap.size 5 w1 (.slice (some ⟨g4, 0, none⟩) 0 0) ([] : List UInt8) [g4] := Rw.first (fr_none f1) hg4 t4 (by simp; exact heap_lt t4)
  obtain ⟨w2, A2, n2, c2, hr2, m2, r2⟩ := r1.append 22 22 (.int .u8 0) 1 Tryd.underlying22 infoB1 rfl (h.below b1).arg (by simp; omega) (by simp; omega)
  refine ⟨w2, A2, n2, c2, hr2, m2, ?_⟩
  intro g8 hg8 w3 f3 b3 lo8 t8
  have r3 := r2.on b3 [g8] (by simp only [List.mem_singleton]; rintro _ rfl; exact ⟨lo8, heap_lt t8⟩)
  obtain ⟨w4, A4, n4, c4, hr4, m4, r4⟩ := r3.append 22 22 (.int .u8 0) 1 Tryd.underlying22 infoB1 rfl (arg_b [u8 s.size] 1 rfl _ (by rw [u8_wrap]; rfl) t8 (by omega)) (by simp; omega) (by simp; omega)
  refine ⟨w4, A4, n4, c4, hr4, m4, ?_⟩
  obtain ⟨w5, A5, n5, c5, hr5, s5, b5⟩ := conv_bytes w4 s (by omega)
  have r5 := r4.below b5
  refine ⟨w5, A5, n5, c5, hr5, ok_ret b5 r4.fr, ?_⟩
  have hss : (s.data.toList).length = s.size := by simp
  obtain ⟨w6, A6, n6, c6, hr6, m6, r6⟩ := r5.append 22 22 (.int .u8 0) 1 Tryd.underlying22 infoB1 rfl s5.arg (by simp; omega) (by simp; omega)
  exact ⟨w6, A6, n6, c6, hr6, m6, r6.ret (by simp [textB])⟩
set_option maxHeartbeats 1000000 in
theorem ref08Num_c {w : World} {ok : Nat → Prop} {A : Option Addr} {n c : Nat} {xs : List UInt8} (h : Sl w ok (.slice A n c) xs) (hl : n ≤ 90000) (m : Int) :
    Calls Tryd.prog 44 #[.slice A n c, .int .i64 m] w (RetRow w 5 (xs ++ numB m)) := by
  have hn := h.len
  refine ref08Num_sx _ (fun b => some b = none) w A n c m ?_
  intro g4 hg4 w1 f1 b1 lo4 t4
  have r1 : Rw none w w.heap.size 5 w1 (.slice (some ⟨g4, 0, none⟩) 0 0) ([] : List UInt8) [g4] := Rw.first (fr_none f1) hg4 t4 (by simp; exact heap_lt t4)
  obtain ⟨w2, A2, n2, c2, hr2, m2, r2⟩ := r1.append 22 22 (.int .u8 0) 1 Tryd.underlying22 infoB1 rfl (h.below b1).arg (by simp; omega) (by simp; omega)
  refine ⟨w2, A2, n2, c2, hr2, m2, fun A n c i w3 => ∃ k : Nat, i = 7 - (k : Int) ∧ k ≤ 8 ∧ Rw none w w.heap.size 5 w3 (.slice A n c) (xs ++ (numB m).take k) [g4], fun _ _ _ i _ => (i + 1).toNat, ⟨0, rfl, by omega, by simpa using r2⟩, ?_⟩
  rintro A8 n9 n10 _ w3 f3 ⟨k, rfl, hk, r⟩
  refine ⟨fun hge => ?_, fun hlt => ?_⟩
  · have hk8 : k < 8 := by omega
    refine ⟨_, run_shr _ _ (8 * (7 - k)) (by rw [wrap_in (by omega)]; omega) (by omega), ?_⟩
    intro g13 hg13 w4 f4 b4 lo13 t13
    have r4 := r.on b4 [g13] (by simp only [List.mem_singleton]; rintro _ rfl; exact ⟨lo13, heap_lt t13⟩)
    have hlen : (xs ++ (numB m).take k).length = n + k := by rw [List.length_append, hn, List.length_take, numB_len]; omega
    obtain ⟨w5, A5, n5, c5, hr5, m5, r5⟩ := r4.append 22 22 (.int .u8 0) 1 Tryd.underlying22 infoB1 rfl (arg_b [(numB m)[k]'hk8] 1 rfl _ (by rw [u8_wrap, num_byte m k hk8]; rfl) t13 (by omega)) (by rw [hlen]; simp; omega) (by rw [hlen]; simp; omega)
    refine ⟨w5, A5, n5, c5, hr5, m5, ⟨k + 1, by rw [wrap_in (by omega)]; omega, hk8, ?_⟩, by dsimp only; rw [wrap_in (by omega)]; omega⟩
    rw [List.take_add_one, List.getElem?_eq_getElem (by rw [numB_len]; exact hk8), ← List.append_assoc]
    exact r5.less' (by intro g hg; simp only [List.mem_append]; exact .inr hg)
  · have hk8 : k = 8 := by omega
    subst hk8
    exact r.ret (by rw [List.take_of_length_le (by rw [numB_len]; omega)])
/-- A block of bytes. -/
def Bk (w : World) (g : Nat) (ys : List UInt8) : Prop := w.heap[g]? = some (.cells (ys.flatMap Fixed.cells).toArray 5 (0, 0))
theorem Bk.mk {w : World} {g : Nat} {ys : List UInt8} {C : Array Value} (h : w.heap[g]? = some (.cells C 5 (0, 0))) (hC : C.toList = ys.map fun x => Value.int .u8 (x.toNat : Int)) : Bk w g ys := by
  unfold Bk
  rw [h, flat_bytes, ← hC]
theorem Bk.set {w : World} {g : Nat} {ys : List UInt8} (h : Bk w g ys) (k : Nat) (hk : k < ys.length) (b : UInt8) :
    ∃ w', (Instr.storeAt 5 (.pointer (some ⟨g, k, none⟩)) (.int .u8 (b.toNat : Int))).run Tryd.prog w = .ok () w' ∧ Bk w' g (ys.set k b) ∧ w.grownBy w' (some g) := by
  obtain ⟨w', hr, hg, gr⟩ := store_row (P := Tryd.prog) (w := w) 5 (by kernel_rfl) (v := .int .u8 (b.toNat : Int)) (o := k) h (by rw [flat_bytes]; simpa using hk) rfl rfl
  refine ⟨w', hr, Bk.mk hg ?_, gr⟩
  rw [flat_bytes]
  simp [List.map_set]
theorem fr_new {w w' : World} {g : Nat} {w0 : World} (f : Fr (fun _ => False) w0 w) (gr : w.grownBy w' (some g)) (h : w0.heap.size ≤ g) : Fr (fun _ => False) w0 w' := grown_fr (B := 0) gr f (by intro k hk; injection hk with hk; omega)
set_option maxHeartbeats 1000000 in
theorem packNum_c {w : World} {ok : Nat → Prop} {A : Option Addr} {n c : Nat} {xs : List UInt8} (h : Sl w ok (.slice A n c) xs) (hl : n ≤ 90000) (m : Int) :
    Calls Tryd.prog 53 #[.slice A n c, .int .i64 m] w (RetRow w 5 (xs ++ numB m)) := by
  have hn := h.len
  obtain ⟨i, hi, hz, hsz, hby⟩ := infoB2
  have hm := run_make (P := Tryd.prog) w 22 5 i _ Tryd.underlying22 hi hz .i64 .i64 ((n + 8 : Nat) : Int) ((n + 8 : Nat) : Int) (by omega) (by omega) (by rw [hby]; omega) (by omega)
  rw [hsz] at hm
  simp only [Int.toNat_natCast, Nat.mul_one] at hm
  have hb1 : Below w.heap.size w (w.alloc (.cells (madeCells (Value.int .u8 0).cells (n + 8)) 5)) := below_alloc w _
  have k1 : Bk (w.alloc (.cells (madeCells (Value.int .u8 0).cells (n + 8)) 5)) w.heap.size (List.replicate (n + 8) 0) := by
    refine Bk.mk (heap_alloc_new w _) ?_
    apply List.ext_getElem
    · simp [madeCells]
    · intro j h1 h2
      simp [madeCells, Value.cells, Nat.mod_one]
  refine packNum_sx _ (fun _ => False) w A n c m ⟨_, _, _, _, by rw [wrap_in (by omega)]; exact hm, ok_below (Fr.refl _ _) hb1, ?_⟩
  generalize w.alloc (.cells (madeCells (Value.int .u8 0).cells (n + 8)) 5) = w1 at hb1 k1 ⊢
  have f1 : Fr (fun _ => False) w w1 := (Fr.refl _ _).step hb1
  obtain ⟨w2, q, hr2, k2, g2⟩ : ∃ w2 q, (Builtin.copy_ #[22, 22] 3 #[.slice (some ⟨w.heap.size, 0, none⟩) (n + 8) (n + 8), .slice A n c]).run Tryd.prog w1 = .ok (.int .i64 q) w2 ∧ Bk w2 w.heap.size (xs ++ List.replicate 8 0) ∧ w1.grownBy w2 (some w.heap.size) := by
    by_cases h0 : n = 0
    · subst h0
      have := run_copy_none (P := Tryd.prog) w1 22 22 3 5 (some ⟨w.heap.size, 0, none⟩) A 8 8 0 c Tryd.underlying22 (by rw [hi]; simp [hsz]) (by simp)
      have hx : xs = [] := List.eq_nil_of_length_eq_zero hn.symm
      subst hx
      exact ⟨w1, _, this, k1, World.grownBy.refl _ _⟩
    · obtain ⟨b, o, rfl, hok, hc⟩ := (h.below hb1).at_ (by omega)
      have hsrc : ∀ j v, (xs.flatMap Fixed.cells)[j]? = some v → w1.cell? ((⟨b, o, none⟩ : Addr).add j) = some v := by
        intro j v hj
        rw [flat_bytes, List.getElem?_map] at hj
        obtain ⟨x, hx, rfl⟩ := Option.map_eq_some_iff.1 hj
        obtain ⟨hlt, rfl⟩ := List.getElem?_eq_some_iff.1 hx
        obtain ⟨cs, hK, hcc⟩ := hc j hlt
        have hK : cs = [.int .u8 (xs[j].toNat : Int)] := hK
        subst hK
        have := hcc 0 _ rfl
        rw [add_plain]
        have e : (⟨b, o + j, none⟩ : Addr) = ⟨b, o + j * Rep.sz UInt8 + 0, none⟩ := by
          show (⟨b, o + j, none⟩ : Addr) = ⟨b, o + j * 1 + 0, none⟩
          rw [Nat.mul_one]; rfl
        rw [e]
        exact this
      have hfl : (xs.flatMap Fixed.cells).length = n := by rw [flat_bytes]; simp [hn]
      have := run_copy_row (P := Tryd.prog) w1 22 22 3 5 w.heap.size 0 (n + 8) (n + 8) ⟨b, o, none⟩ n c _ 5 (xs.flatMap Fixed.cells) Tryd.underlying22 (by rw [hi]; simp [hsz]) k1 (by rw [hfl]; exact (Nat.min_eq_left (by omega)).symm) hsrc (by rw [hfl, flat_bytes]; simp) (flat_one fun _ _ => trivial)
      refine ⟨_, _, this, ?_, ⟨rfl, rfl, rfl, by simp, fun j _ hne => setRow_other w1 _ j _ (fun h => hne (by rw [h]))⟩⟩
      refine Bk.mk (setRow_heap w1 _ _ _ _ _ k1) ?_
      simp only [List.take_zero, List.nil_append, Nat.zero_add, hfl, List.map_append]
      rw [flat_bytes, flat_bytes]
      simp [List.drop_replicate]
  have f2 := fr_new f1 g2 (Nat.le_refl _)
  refine ⟨w2, q, hr2, ⟨f2, mild_nil g2.size⟩, fun i w3 => ∃ k : Nat, i = (k : Int) ∧ k ≤ 8 ∧ Bk w3 w.heap.size (xs ++ (numB m).take k ++ List.replicate (8 - k) 0), fun i _ => (8 - i).toNat, ⟨0, rfl, by omega, by simpa using k2⟩, ?_⟩
  rintro _ w3 f3 ⟨k, rfl, hk, r⟩
  refine ⟨fun hlt => ?_, fun hge => ?_⟩
  · have hk8 : k < 8 := by omega
    refine ⟨_, run_shr _ _ (8 * (7 - k)) (by rw [wrap_in (x := 7 - (k : Int)) (by omega), wrap_in (by omega)]; omega) (by omega), ?_⟩
    rw [wrap_in (x := (n : Int) + k) (by omega)]
    refine ⟨by omega, by omega, w.heap.size, 0, rfl, ?_⟩
    have hto : 0 + ((n : Int) + (k : Int)).toNat * 1 + 0 = n + k := by omega
    rw [hto, u8_wrap, num_byte m k hk8]
    obtain ⟨w4, hr4, k4, g4⟩ := r.set (n + k) (by simp [hn, numB_len]; omega) ((numB m)[k]'hk8)
    refine ⟨w4, hr4, ⟨fr_new f3 g4 (Nat.le_refl _), mild_nil g4.size⟩, ⟨k + 1, by rw [wrap_in (by omega)]; omega, hk8, ?_⟩, by dsimp only; rw [wrap_in (by omega)]; omega⟩
    have hpl : (xs ++ (numB m).take k).length = n + k := by rw [List.length_append, hn, List.length_take, numB_len]; omega
    rw [List.take_add_one, List.getElem?_eq_getElem (by rw [numB_len]; exact hk8), ← List.append_assoc]
    have hrep : List.replicate (8 - k) (0 : UInt8) = 0 :: List.replicate (8 - (k + 1)) 0 := by rw [show 8 - k = (8 - (k + 1)) + 1 by omega]; rfl
    rw [hrep, List.set_append_right _ _ (by omega), hpl, Nat.sub_self] at k4
    refine Eq.mp (congrArg (Bk w4 w.heap.size) ?_) k4
    simp only [Option.toList, List.append_assoc, List.cons_append, List.nil_append, List.set_cons_zero]
    rfl
  · have hk8 : k = 8 := by omega
    subst hk8
    rw [Nat.sub_self, List.take_of_length_le (by rw [numB_len]; omega)] at r
    refine ⟨_, _, _, rfl, ?_, fr_below f3⟩
    have hlen : n + 8 = (xs ++ numB m).length := by rw [List.length_append, numB_len, hn]
    exact OwnF.cells _ (n + 8) hlen (Nat.le_refl _) (by simpa [Bk] using r) (by unfold maxLen; omega) (fun _ _ => trivial)
end Go.Proofs.YtfjenamomipmdaaDoor


/- Opcode: the bytes of an edit; the document's Put. -/
set_option linter.unusedSimpArgs false
set_option linter.unusedVariables false
namespace Go.Proofs.YtfjenamomipmdaaDoor
open Go Go.RowKit Go.Proofs Go.Trc Go.Sx
/-- An operation's bytes; an edit's. -/
def restB (o : OpV) : List UInt8 :=
  if o.kd = 3 then cornB o.a1 o.a2 o.a3 o.a4 o.a5 ++ cornB o.b1 o.b2 o.b3 o.b4 o.b5
  else if o.kd = 5 then idB o.s1 o.n1 ++ idB o.s2 o.n2 ++ [u8 o.nn]
  else if o.kd = 6 then idB o.s2 o.n2
  else if o.kd = 7 then flagB o.oe :: textB o.tx
  else if o.kd = 8 then flagB o.oe :: numB o.nn
  else []
def opB (o : OpV) : List UInt8 := u8 o.kd :: idB o.s o.n ++ restB o
def editB (l : List OpV) : List UInt8 := u8 l.length :: l.flatMap opB
def putV (b : List UInt8) (l : List OpV) : List UInt8 × Int := if mayEditV l = 0 then (b ++ editB l, 0) else ([], mayEditV l)
theorem idOk_iff {s n : Int} (h : idOk s n = true) : 1 ≤ s ∧ s ≤ 8 ∧ 1 ≤ n ∧ n ≤ 1048576 := by
  unfold idOk at h
  simp only [Bool.and_eq_true, decide_eq_true_eq] at h
  omega
structure Good (o : OpV) : Prop where
  kd : 1 ≤ o.kd ∧ o.kd ≤ 8
  id : idOk o.s o.n = true
  k3 : o.kd = 3 → cornerOk o.a1 o.a2 o.a3 o.a4 o.a5 = true ∧ cornerOk o.b1 o.b2 o.b3 o.b4 o.b5 = true
  k5 : o.kd = 5 → idOk o.s1 o.n1 = true ∧ idOk o.s2 o.n2 = true ∧ 0 ≤ o.nn ∧ o.nn ≤ 3
  k6 : o.kd = 6 → idOk o.s2 o.n2 = true
  k7 : o.kd = 7 → labelOk o.tx = true
  k8 : o.kd = 8 → attrOk o.nn = true
  only : onlyV o = o
theorem good_of {o : OpV} (h : mayV o = 0) : Good o := by
  unfold mayV at h
  split at h
  · rename_i ho
    unfold badV at h
    split at h
    · rename_i hp
      rw [Bool.and_eq_true] at hp
      obtain ⟨h1, h2⟩ := hp
      unfold partsOk at h2
      refine ⟨?_, h1, fun e => ?_, fun e => ?_, fun e => ?_, fun e => ?_, fun e => ?_, ho⟩
      · split at h2
        · omega
        · split at h2
          · omega
          · split at h2
            · omega
            · split at h2
              · omega
              · split at h2
                · omega
                · cases h2
      · rw [if_neg (by omega), if_neg (by omega), if_pos e, Bool.and_eq_true] at h2; exact h2
      · rw [if_neg (by omega), if_neg (by omega), if_neg (by omega), if_pos e, Bool.and_eq_true, Bool.and_eq_true, decide_eq_true_eq] at h2; exact h2
      · rw [if_neg (by omega), if_pos e] at h2; exact h2
      · split at h
        · cases h
        · rename_i hn
          simpa [e] using hn
      · rw [if_neg (by omega), if_neg (by omega), if_neg (by omega), if_neg (by omega), if_pos e] at h2; exact h2
    · cases h
  · cases h
theorem corner_iff {a1 a2 a3 a4 a5 : Int} (h : cornerOk a1 a2 a3 a4 a5 = true) : (1 ≤ a1 ∧ a1 ≤ 8 ∧ 1 ≤ a2 ∧ a2 ≤ 1048576) ∧ (0 ≤ a3 ∧ a3 ≤ 8 ∧ 0 ≤ a4 ∧ a4 ≤ 1048576) ∧ 0 ≤ a5 ∧ a5 ≤ 1 := by
  unfold cornerOk at h
  rw [Bool.and_eq_true, Bool.or_eq_true, decide_eq_true_eq] at h
  refine ⟨idOk_iff h.1, ?_⟩
  rcases h.2 with ⟨rfl, rfl, rfl⟩ | h2
  · omega
  · unfold dartOk at h2
    rw [Bool.and_eq_true, decide_eq_true_eq] at h2
    have := idOk_iff h2.1
    omega
theorem label_size {s : ByteArray} (h : labelOk s = true) : s.size ≤ 16 := by
  unfold labelOk at h
  rw [Bool.and_eq_true, decide_eq_true_eq, decide_eq_true_eq] at h
  exact h.2
theorem idB_len (s n : Int) : (idB s n).length = 4 := rfl
theorem cornB_len (a1 a2 a3 a4 a5 : Int) : (cornB a1 a2 a3 a4 a5).length ≤ 9 := by unfold cornB; split <;> simp [idB]
theorem opB_len {o : OpV} (g : Good o) : (opB o).length ≤ 40 := by
  unfold opB restB
  have h1 := cornB_len o.a1 o.a2 o.a3 o.a4 o.a5
  have h2 := cornB_len o.b1 o.b2 o.b3 o.b4 o.b5
  split
  · simp [idB]; omega
  · split
    · simp [idB]
    · split
      · simp [idB]
      · split
        · rename_i h
          have := label_size (g.k7 h)
          simp [idB, textB]; omega
        · split
          · simp [idB, numB]
          · simp [idB]
theorem firstBad_all : ∀ {l : List OpV}, firstBad l = 0 → ∀ o ∈ l, mayV o = 0
  | [], _ => by simp
  | o :: l, h => by
    unfold firstBad at h
    split at h
    · rename_i h0
      intro x hx
      rcases List.mem_cons.1 hx with rfl | hx
      · exact h0
      · exact firstBad_all h x hx
    · rename_i h0; exact absurd h h0
theorem may_good {l : List OpV} (h : mayEditV l = 0) : (1 ≤ l.length ∧ l.length ≤ 6) ∧ ∀ o ∈ l, Good o := by
  unfold mayEditV at h
  split at h
  · cases h
  · exact ⟨by omega, fun o ho => good_of (firstBad_all h o ho)⟩
theorem flat_op_len : ∀ {l : List OpV}, (∀ o ∈ l, Good o) → (l.flatMap opB).length ≤ 40 * l.length
  | [], _ => by simp
  | o :: l, h => by
    rw [List.flatMap_cons, List.length_append, List.length_cons]
    have := opB_len (h o (by simp))
    have := flat_op_len (l := l) fun x hx => h x (List.mem_cons_of_mem _ hx)
    omega
/-- What comes of putting: bytes, and what is wrong. -/
def RetB (w : World) (x : List UInt8 × Int) (en : Ending) (w' : World) : Prop := ∃ A n c, en = .returned (.tuple #[.slice A n c, .int .i64 x.2]) ∧ OwnF w' w.heap.size 5 (.slice A n c) x.1 ∧ Below w.heap.size w w'
theorem Rw.retB {w0 w : World} {A : Option Addr} {n c : Nat} {xs ys : List UInt8} {G : List Nat} (h : Rw none w0 w0.heap.size 5 w (.slice A n c) xs G) (hx : xs = ys) : RetB w0 (ys, 0) (.returned (.tuple #[.slice A n c, .int .i64 0])) w :=
  ⟨A, n, c, rfl, by rw [← hx]; exact h.own, fr_below (fr_none h.fr)⟩
theorem take_op (l : List OpV) (k : Nat) (h : k < l.length) : (l.take (k + 1)).flatMap opB = (l.take k).flatMap opB ++ opB l[k] := by
  rw [List.take_add_one, List.getElem?_eq_getElem h, List.flatMap_append]; simp
theorem one_len {α : Type} (xs : List α) (x : α) : (xs ++ [x]).length = xs.length + 1 := by simp
set_option maxHeartbeats 4000000 in
theorem ref10Put_c {w : World} {ok ok' : Nat → Prop} {A A3 : Option Addr} {n c n4 c5 : Nat} {xs : List UInt8} {l : List OpV} (h : Sl w ok (.slice A n c) xs) (hl : n ≤ 50000) (hops : Sl w ok' (.slice A3 n4 c5) l) :
    Calls Tryd.prog 17 #[.slice A n c, .agg #[.slice A3 n4 c5]] w (RetB w (putV xs l)) := by
  have hn := h.len
  have hn4 := hops.len
  refine ref10Put_sx _ (fun b => some b = none) w A n c A3 n4 c5 ?_
  intro g6 hg6 w1 f1 b1 lo6 t6
  refine (ref_mayEdit_c w1 ok' A3 n4 c5 l (hops.below b1)).mono ?_
  rintro e w2 ⟨rfl, b2⟩
  have f2 := f1.step b2
  refine ⟨_, rfl, ok_ret b2 f1, fun hne => ?_, fun he => ?_⟩
  · have : putV xs l = ([], mayEditV l) := by unfold putV; rw [if_neg hne]
    rw [this]
    exact ⟨none, 0, 0, rfl, OwnF.nil _ _ _, fr_below (fr_none f2)⟩
  have hpv : putV xs l = (xs ++ editB l, 0) := by unfold putV; rw [if_pos he]
  obtain ⟨hlen, hgood⟩ := may_good he
  intro g8 hg8 w3 f3 b3 lo8 t8
  have lt6 : g6 < w3.heap.size := Nat.lt_of_lt_of_le (heap_lt t6) (Nat.le_trans b2.size b3.size)
  have r3 : Rw none w w.heap.size 5 w3 (.slice (some ⟨g8, 0, none⟩) 0 0) ([] : List UInt8) [g8, g6] := Rw.first (fr_none f3) hg8 t8 (by simp; exact ⟨heap_lt t8, lt6⟩)
  have h3 : Sl w3 ok (.slice A n c) xs := h.below (fr_below (fr_none f3))
  obtain ⟨w4, A9, n10, c11, hr4, m4, r4⟩ := r3.append 22 22 (.int .u8 0) 1 Tryd.underlying22 infoB1 rfl h3.arg (by simp; omega) (by simp; omega)
  rw [List.nil_append] at r4
  refine ⟨w4, A9, n10, c11, hr4, m4, ?_⟩
  intro g12 hg12 w5 f5 b5 lo12 t12
  have r5 := r4.on b5 [g12] (by simp only [List.mem_singleton]; rintro _ rfl; exact ⟨lo12, heap_lt t12⟩)
  -- a byte is appended
  obtain ⟨w6, A13, n13, c13, hr13, m13, r13, g13, -⟩ := r5.append2 22 22 (.int .u8 0) 1 Tryd.underlying22 infoB1 rfl (arg_b [u8 l.length] 1 rfl _ (by rw [hn4, u8_wrap]; rfl) t12 (by omega)) (by simp; omega) (by simp; omega)
  refine ⟨w6, A13, n13, c13, hr13, m13, fun A n c i w' => ∃ k : Nat, i = (k : Int) ∧ k ≤ l.length ∧ Rw none w w.heap.size 5 w' (.slice A n c) (xs ++ [u8 l.length] ++ (l.take k).flatMap opB) [g12, g8, g6], fun _ _ _ i _ => (n4 - i : Int).toNat, ⟨0, rfl, Nat.zero_le _, by simpa using r13⟩, ?_⟩
  rintro A16 n17 n18 _ w7 f7 ⟨k, rfl, hk, r⟩
  refine ⟨fun hlt => ?_, fun hge => ?_⟩
  · have hlt' : k < l.length := by omega
    obtain ⟨b, o, hA, _, _, _, hc⟩ := Sl.op (hops.below (fr_below (fr_none f7))) k hlt'
    have hg := hgood _ (List.getElem_mem hlt')
    have hfl := flat_op_len (l := l.take k) fun x hx => hgood x (List.mem_of_mem_take hx)
    have htl : (l.take k).length ≤ 6 := by rw [List.length_take]; omega
    have hid := idOk_iff hg.id
    have fin : ∀ (A' : Option Addr) (n' c' : Nat) (w' : World) (G' : List Nat) (ys : List UInt8), (∀ g ∈ [g12, g8, g6], g ∈ G') → Rw none w w.heap.size 5 w' (.slice A' n' c') (xs ++ [u8 l.length] ++ (l.take k).flatMap opB ++ [u8 l[k].kd] ++ idB l[k].s l[k].n ++ ys) G' → ys = restB l[k] →
        (∃ k' : Nat, IntKind.i64.wrap ((k : Int) + 1) = (k' : Int) ∧ k' ≤ l.length ∧ Rw none w w.heap.size 5 w' (.slice A' n' c') (xs ++ [u8 l.length] ++ (l.take k').flatMap opB) [g12, g8, g6]) ∧ (n4 - IntKind.i64.wrap ((k : Int) + 1) : Int).toNat < (n4 - (k : Int) : Int).toNat := by
      intro A' n' c' w' G' ys hG r' hy
      subst hy
      refine ⟨⟨k + 1, by rw [wrap_in (by omega)]; rfl, hlt', ?_⟩, by rw [wrap_in (by omega)]; omega⟩
      rw [take_op l k hlt']
      have e : xs ++ [u8 l.length] ++ (l.take k).flatMap opB ++ [u8 l[k].kd] ++ idB l[k].s l[k].n ++ restB l[k] = xs ++ [u8 l.length] ++ ((l.take k).flatMap opB ++ opB l[k]) := by simp [opB]
      rw [← e]
      exact r'.less' hG
    have hP : (xs ++ [u8 l.length] ++ (l.take k).flatMap opB).length ≤ 60000 := by simp only [List.length_append, List.length_cons, List.length_nil]; omega
    generalize xs ++ [u8 l.length] ++ (l.take k).flatMap opB = P at r fin hP ⊢
    generalize l[k] = o1 at hc hg hid fin ⊢
    refine ⟨by omega, hlt, b, o, hA, _, _, _, _, _, _, _, _, _, _, _, _, _, _, _, _, _, _, _, _, hc, ?_⟩
    intro g42 hg42 w8 f8 b8 lo42 t42
    have r8 := r.on b8 [g42] (by simp only [List.mem_singleton]; rintro _ rfl; exact ⟨lo42, heap_lt t42⟩)
    refine ⟨_, Rw.tails r8, ?_⟩
    intro g44 hg44 w9 f9 b9 lo44 t44
    have r9 := r8.on b9 [g44] (by simp only [List.mem_singleton]; rintro _ rfl; exact ⟨lo44, heap_lt t44⟩)
    -- a byte is appended
    obtain ⟨w10, A45, n45, c45, hr45, m45, r45, g45, -⟩ := r9.append2 22 22 (.int .u8 0) 1 Tryd.underlying22 infoB1 rfl (arg_b [u8 o1.kd] 1 rfl _ (by rw [u8_wrap]; rfl) t44 (by omega)) (by simp; omega) (by simp; omega)
    refine ⟨w10, A45, n45, c45, hr45, m45, tail_keep g45 b9.size, ?_⟩
    have hP2 : (P ++ [u8 o1.kd]).length ≤ 60001 := by rw [one_len]; omega
    generalize hPe2 : P ++ [u8 o1.kd] = P2 at r45 fin hP2
    refine (ref01Put_c r45.sl (by have := r45.sl.len; omega) o1.s o1.n ⟨by omega, by omega⟩).mono ?_
    rintro e w11 ⟨A48, n49, c50, rfl, o11, b11⟩
    have r11 := Rw.fresh r45.fr r45.names o11 b11
    refine ⟨A48, n49, c50, rfl, ok_ret b11 r45.fr, ?_⟩
    have hP3 : (P2 ++ idB o1.s o1.n).length ≤ 60005 := by rw [List.length_append, idB_len]; omega
    generalize hPe3 : P2 ++ idB o1.s o1.n = P3 at r11 fin hP3
    refine ⟨fun h3 => ?_, fun h3 => ⟨fun h5 => ?_, fun h5 => ⟨fun h6 => ?_, fun h6 => ⟨fun h7 => ?_, fun h7 => ⟨fun h8 => ?_, fun h8 => ?_⟩⟩⟩⟩⟩
    · refine ⟨_, Rw.tails r11, fun w12 f12 b12 => ?_⟩
      have r12 := r11.below b12
      obtain ⟨k1, k2⟩ := hg.k3 h3
      have q1 := corner_iff k1
      have q2 := corner_iff k2
      -- a call that comes to a row
      refine (ref10corner_c r12.sl (by have hq := r12.sl.len; (try simp only [List.length_append, idB_len, List.length_cons, List.length_nil] at hq); omega) _ _ _ _ _ ⟨by omega, by omega⟩ ⟨by omega, by omega⟩ ⟨by omega, by omega⟩).mono ?_
      rintro e w13 ⟨A52, n52, c52, rfl, o52, b52⟩
      have r13 := Rw.fresh r12.fr r12.names o52 b52
      refine ⟨A52, n52, c52, rfl, ok_ret b52 r12.fr, keep_below b52 b12.size, ?_⟩
      have cl := cornB_len o1.a1 o1.a2 o1.a3 o1.a4 o1.a5
      -- a call that comes to a row
      refine (ref10corner_c r13.sl (by have hq := r13.sl.len; (try simp only [List.length_append, idB_len, List.length_cons, List.length_nil] at hq); omega) _ _ _ _ _ ⟨by omega, by omega⟩ ⟨by omega, by omega⟩ ⟨by omega, by omega⟩).mono ?_
      rintro e w14 ⟨A55, n55, c55, rfl, o55, b55⟩
      have r14 := Rw.fresh r13.fr r13.names o55 b55
      refine ⟨A55, n55, c55, rfl, ok_ret b55 r13.fr, ?_⟩
      -- the round's end
      refine fin _ _ _ _ _ _ ?_ (by have r' := r14; (try simp only [List.append_assoc] at r' ⊢); exact r') (by unfold restB; rw [if_pos h3])
      intro g hg; simp at hg ⊢; omega
    · obtain ⟨k1, k2, k3, k4⟩ := hg.k5 h5
      have q1 := idOk_iff k1
      have q2 := idOk_iff k2
      refine ⟨_, Rw.tails r11, fun w12 f12 b12 => ?_, fun g52 hg52 w12 f12 b12 lo52 t52 => ?_⟩
      · have r12 := r11.below b12
        -- a call that comes to a row
        refine (ref01Put_c r12.sl (by have hq := r12.sl.len; (try simp only [List.length_append, idB_len, List.length_cons, List.length_nil] at hq); omega) _ _ ⟨by omega, by omega⟩).mono ?_
        rintro e w13 ⟨A52, n52, c52, rfl, o52, b52⟩
        have r13 := Rw.fresh r12.fr r12.names o52 b52
        refine ⟨A52, n52, c52, rfl, ok_ret b52 r12.fr, keep_below b52 b12.size, ?_, fun g55 hg55 w14 f14 b14 lo55 t55 => ?_⟩
        · skip
          -- a call that comes to a row
          refine (ref01Put_c r13.sl (by have hq := r13.sl.len; (try simp only [List.length_append, idB_len, List.length_cons, List.length_nil] at hq); omega) _ _ ⟨by omega, by omega⟩).mono ?_
          rintro e w14 ⟨A55, n55, c55, rfl, o55, b55⟩
          have r14 := Rw.fresh r13.fr r13.names o55 b55
          refine ⟨A55, n55, c55, rfl, ok_ret b55 r13.fr, keep_below b55 (Nat.le_trans b12.size b52.size), fun g58 hg58 w15 f15 b15 lo58 t58 => ?_⟩
          have r15 := r14.on b15 [g58] (by simp only [List.mem_singleton]; rintro _ rfl; exact ⟨lo58, heap_lt t58⟩)
          -- a byte is appended
          obtain ⟨w16, A59, n59, c59, hr59, m59, r59, g59, -⟩ := r15.append2 22 22 (.int .u8 0) 1 Tryd.underlying22 infoB1 rfl (arg_b [u8 o1.nn] 1 rfl _ (by rw [u8_wrap]; rfl) t58 (by omega)) (by simp only [List.length_append, idB_len, List.length_cons, List.length_nil]; omega) (by simp only [List.length_append, idB_len, List.length_cons, List.length_nil]; omega)
          refine ⟨w16, A59, n59, c59, hr59, m59, ?_⟩
          -- the round's end
          refine fin _ _ _ _ _ _ ?_ (by have r' := r59; (try simp only [List.append_assoc] at r' ⊢); exact r') (by unfold restB; rw [if_neg h3, if_pos h5, List.append_assoc])
          intro g hg; simp at hg ⊢; omega
        · have r14 := r13.on b14 [g55] (by simp only [List.mem_singleton]; rintro _ rfl; exact ⟨lo55, heap_lt t55⟩)
          -- a call that comes to a row
          refine (ref01Put_c r14.sl (by have hq := r14.sl.len; (try simp only [List.length_append, idB_len, List.length_cons, List.length_nil] at hq); omega) _ _ ⟨by omega, by omega⟩).mono ?_
          rintro e w15 ⟨A56, n56, c56, rfl, o56, b56⟩
          have r15 := Rw.fresh r14.fr r14.names o56 b56
          refine ⟨A56, n56, c56, rfl, ok_ret b56 r14.fr, keep_below b56 (Nat.le_trans b12.size (Nat.le_trans b52.size b14.size)), fun t55' => ?_⟩
          -- a byte is appended
          obtain ⟨w16, A59, n59, c59, hr59, m59, r59, g59, -⟩ := r15.append2 22 22 (.int .u8 0) 1 Tryd.underlying22 infoB1 rfl (arg_b [u8 o1.nn] 1 rfl _ (by rw [u8_wrap]; rfl) t55' (by omega)) (by simp only [List.length_append, idB_len, List.length_cons, List.length_nil]; omega) (by simp only [List.length_append, idB_len, List.length_cons, List.length_nil]; omega)
          refine ⟨w16, A59, n59, c59, hr59, m59, ?_⟩
          -- the round's end
          refine fin _ _ _ _ _ _ ?_ (by have r' := r59; (try simp only [List.append_assoc] at r' ⊢); exact r') (by unfold restB; rw [if_neg h3, if_pos h5, List.append_assoc])
          intro g hg; simp at hg ⊢; omega
      · have r12 := r11.on b12 [g52] (by simp only [List.mem_singleton]; rintro _ rfl; exact ⟨lo52, heap_lt t52⟩)
        -- a call that comes to a row
        refine (ref01Put_c r12.sl (by have hq := r12.sl.len; (try simp only [List.length_append, idB_len, List.length_cons, List.length_nil] at hq); omega) _ _ ⟨by omega, by omega⟩).mono ?_
        rintro e w13 ⟨A53, n53, c53, rfl, o53, b53⟩
        have r13 := Rw.fresh r12.fr r12.names o53 b53
        refine ⟨A53, n53, c53, rfl, ok_ret b53 r12.fr, keep_below b53 b12.size, ?_⟩
        -- a call that comes to a row
        refine (ref01Put_c r13.sl (by have hq := r13.sl.len; (try simp only [List.length_append, idB_len, List.length_cons, List.length_nil] at hq); omega) _ _ ⟨by omega, by omega⟩).mono ?_
        rintro e w14 ⟨A56, n56, c56, rfl, o56, b56⟩
        have r14 := Rw.fresh r13.fr r13.names o56 b56
        refine ⟨A56, n56, c56, rfl, ok_ret b56 r13.fr, keep_below b56 (Nat.le_trans b12.size b53.size), fun t52' => ?_⟩
        -- a byte is appended
        obtain ⟨w15, A59, n59, c59, hr59, m59, r59, g59, -⟩ := r14.append2 22 22 (.int .u8 0) 1 Tryd.underlying22 infoB1 rfl (arg_b [u8 o1.nn] 1 rfl _ (by rw [u8_wrap]; rfl) t52' (by omega)) (by simp only [List.length_append, idB_len, List.length_cons, List.length_nil]; omega) (by simp only [List.length_append, idB_len, List.length_cons, List.length_nil]; omega)
        refine ⟨w15, A59, n59, c59, hr59, m59, ?_⟩
        -- the round's end
        refine fin _ _ _ _ _ _ ?_ (by have r' := r59; (try simp only [List.append_assoc] at r' ⊢); exact r') (by unfold restB; rw [if_neg h3, if_pos h5, List.append_assoc])
        intro g hg; simp at hg ⊢; omega
    · have q1 := idOk_iff (hg.k6 h6)
      -- a call that comes to a row
      refine (ref01Put_c r11.sl (by have hq := r11.sl.len; (try simp only [List.length_append, idB_len, List.length_cons, List.length_nil] at hq); omega) _ _ ⟨by omega, by omega⟩).mono ?_
      rintro e w12 ⟨A51, n51, c51, rfl, o51, b51⟩
      have r12 := Rw.fresh r11.fr r11.names o51 b51
      refine ⟨A51, n51, c51, rfl, ok_ret b51 r11.fr, ?_⟩
      -- the round's end
      refine fin _ _ _ _ _ _ ?_ (by have r' := r12; (try simp only [List.append_assoc] at r' ⊢); exact r') (by unfold restB; rw [if_neg h3, if_neg h5, if_pos h6])
      intro g hg; simp at hg ⊢; omega
    · refine ⟨_, Rw.tails r11, fun w12 f12 b12 => ?_⟩
      have r12 := r11.below b12
      refine (ref10flag_c w12 o1.oe).mono ?_
      rintro e w13 ⟨rfl, b13⟩
      have r13 := r12.below b13
      refine ⟨_, rfl, ok_ret b13 r12.fr, keep_below b13 b12.size, fun g53 hg53 w14 f14 b14 lo53 t53 => ?_⟩
      have r14 := r13.on b14 [g53] (by simp only [List.mem_singleton]; rintro _ rfl; exact ⟨lo53, heap_lt t53⟩)
      -- a byte is appended
      obtain ⟨w15, A54, n54, c54, hr54, m54, r54, g54, -⟩ := r14.append2 22 22 (.int .u8 0) 1 Tryd.underlying22 infoB1 rfl (arg_b [flagB o1.oe] 1 rfl _ rfl t53 (by omega)) (by simp only [List.length_append, idB_len, List.length_cons, List.length_nil]; omega) (by simp only [List.length_append, idB_len, List.length_cons, List.length_nil]; omega)
      refine ⟨w15, A54, n54, c54, hr54, m54, tail_keep g54 (Nat.le_trans b12.size (Nat.le_trans b13.size b14.size)), ?_⟩
      -- a call that comes to a row
      refine (ref08Text_c r54.sl (by have hq := r54.sl.len; (try simp only [List.length_append, idB_len, List.length_cons, List.length_nil] at hq); omega) o1.tx (by have := label_size (hg.k7 h7); omega)).mono ?_
      rintro e w16 ⟨A57, n57, c57, rfl, o57, b57⟩
      have r16 := Rw.fresh r54.fr r54.names o57 b57
      refine ⟨A57, n57, c57, rfl, ok_ret b57 r54.fr, ?_⟩
      -- the round's end
      refine fin _ _ _ _ _ _ ?_ (by have r' := r16; (try simp only [List.append_assoc] at r' ⊢); exact r') (by unfold restB; rw [if_neg h3, if_neg h5, if_neg h6, if_pos h7]; rfl)
      intro g hg; simp at hg ⊢; omega
    · refine ⟨_, Rw.tails r11, fun w12 f12 b12 => ?_⟩
      have r12 := r11.below b12
      refine (ref10flag_c w12 o1.oe).mono ?_
      rintro e w13 ⟨rfl, b13⟩
      have r13 := r12.below b13
      refine ⟨_, rfl, ok_ret b13 r12.fr, keep_below b13 b12.size, fun g53 hg53 w14 f14 b14 lo53 t53 => ?_⟩
      have r14 := r13.on b14 [g53] (by simp only [List.mem_singleton]; rintro _ rfl; exact ⟨lo53, heap_lt t53⟩)
      -- a byte is appended
      obtain ⟨w15, A54, n54, c54, hr54, m54, r54, g54, -⟩ := r14.append2 22 22 (.int .u8 0) 1 Tryd.underlying22 infoB1 rfl (arg_b [flagB o1.oe] 1 rfl _ rfl t53 (by omega)) (by simp only [List.length_append, idB_len, List.length_cons, List.length_nil]; omega) (by simp only [List.length_append, idB_len, List.length_cons, List.length_nil]; omega)
      refine ⟨w15, A54, n54, c54, hr54, m54, tail_keep g54 (Nat.le_trans b12.size (Nat.le_trans b13.size b14.size)), ?_⟩
      -- a call that comes to a row
      refine (ref08Num_c r54.sl (by have hq := r54.sl.len; (try simp only [List.length_append, idB_len, List.length_cons, List.length_nil] at hq); omega) o1.nn).mono ?_
      rintro e w16 ⟨A57, n57, c57, rfl, o57, b57⟩
      have r16 := Rw.fresh r54.fr r54.names o57 b57
      refine ⟨A57, n57, c57, rfl, ok_ret b57 r54.fr, ?_⟩
      -- the round's end
      refine fin _ _ _ _ _ _ ?_ (by have r' := r16; (try simp only [List.append_assoc] at r' ⊢); exact r') (by unfold restB; rw [if_neg h3, if_neg h5, if_neg h6, if_neg h7, if_pos h8]; rfl)
      intro g hg; simp at hg ⊢; omega
    · refine fin A48 n49 c50 w11 _ [] ?_ (by simpa using r11) (by unfold restB; rw [if_neg h3, if_neg h5, if_neg h6, if_neg h7, if_neg h8])
      intro g hg; simp at hg ⊢; omega
  · rw [hpv]
    refine Rw.retB r ?_
    rw [List.take_of_length_le (by omega)]
    simp [editB]
end Go.Proofs.YtfjenamomipmdaaDoor
